/- The contract of names.(*Book).Plan (a walk). -/
import Derived.Test.YtinonkakpgiblaaNamLong
namespace Go.Proofs.Ytinonkakpgiblaa.Nam
open Go.RowKit Go.Proofs.YtinonkakpgiblaaW.PrintWords Go.Proofs.YtinonkakpgiblaaW.PrintLast Go.Proofs.Ytinonkakpgiblaa.Base Go.Proofs.Ytinonkakpgiblaa.Pack Go.Maps
set_option linter.unusedVariables false
set_option linter.unusedSimpArgs false

/-- v reads as what was found d. -/
def DepIs (w : World) (v : Value) (d : DepV) : Prop := ∃ vd, v = .agg #[.string d.out, .int .i64 d.time, vd] ∧ Ss w vd d.deps
theorem DepIs.below {w w1 : World} {v : Value} {d : DepV} (h : DepIs w v d) (hb : Below w.heap.size w w1) : DepIs w1 v d := by
  obtain ⟨vd, h1, h2⟩ := h
  exact ⟨vd, h1, h2.below hb⟩
/-- Its parts are no greater than memory has room for. -/
structure FitD (d : DepV) : Prop where
  out : d.out.size ≤ 9223372036854775807
  deps : ∀ s ∈ d.deps, s.size ≤ 9223372036854775807
  t0 : -9223372036854775808 ≤ d.time
  t1 : d.time < 9223372036854775808
theorem ss_len {w : World} {v : Value} {l : List ByteArray} (h : Ss w v l) : ∃ A c, v = .slice A l.length c ∧ l.length ≤ c ∧ l.length ≤ 9223372036854775807 := by
  obtain ⟨A, c, h1, h2, h3, _⟩ := h
  exact ⟨A, c, h1, h2, h3⟩
theorem ss_C {w : World} {A : Option Addr} {n c : Nat} {l : List ByteArray} (h : Ss w (.slice A n c) l) : Kd.string.C w A n l := by
  obtain ⟨A', c', e, _, h3, h4⟩ := h
  injection e with e1 e2 e3
  subst e1
  subst e2
  exact Kd.C_of_reads (enc := Value.string) (d := ByteArray.empty) ⟨rfl, h3, h4⟩
theorem r_ss {w : World} {base : Nat} {ok : Nat → Prop} {e : Nat} {v : Value} {l : List ByteArray} (h : Kd.string.R e w base ok v l) : Ss w v l := by
  obtain ⟨A, c, rfl, hc, hC⟩ := Kd.R_reads h
  have h1 := Kd.reads_of_C (enc := Value.string) (d := ByteArray.empty) hC
  exact ⟨A, c, rfl, hc, h1.2.1, h1.2.2⟩
theorem str_lit (W : World) (base : Nat) (hb : base ≤ W.heap.size) (ok : Nat → Prop) (hok : ok W.heap.size) (s : ByteArray) : Kd.string.R 9 (W.alloc (.cells #[.string s] 9)) base ok (.slice (some ⟨W.heap.size, 0, none⟩) 1 1) [s] :=
  Kd.R_of_own (enc := Value.string) (own_lit_of (enc := Value.string) W base 9 [s] hb (by simp)) (fun k hk => by
    have : W.heap.size = k := by simpa [Value.ownBlock] using hk
    rw [← this]; exact hok)
/-- The names that are fresh behind some have been numbered. -/
def frL (ns q : List ByteArray) : List ByteArray := q.foldl (numS' ns) []
theorem frL_from (ns : List ByteArray) : ∀ (q fr : List ByteArray), ns ++ q.foldl (numS' ns) fr = q.foldl withN (ns ++ fr)
  | [], fr => rfl
  | s :: q, fr => by rw [List.foldl_cons, List.foldl_cons, frL_from ns q, numS'_eq]
theorem frL_app (ns q : List ByteArray) : ns ++ frL ns q = q.foldl withN ns := by
  have h := frL_from ns q []
  rw [List.append_nil] at h
  exact h
theorem frL_snoc (ns q : List ByteArray) (s : ByteArray) : frL ns (q ++ [s]) = numS' ns (frL ns q) s := by
  unfold frL
  rw [List.foldl_append]
  rfl
theorem numS'_len (ns fr : List ByteArray) (s : ByteArray) : (numS' ns fr s).length ≤ fr.length + 1 := by
  unfold numS'
  split <;> simp
theorem frL_len (ns : List ByteArray) : ∀ (q fr : List ByteArray), (q.foldl (numS' ns) fr).length ≤ fr.length + q.length
  | [], fr => by simp
  | s :: q, fr => by
    rw [List.foldl_cons, List.length_cons]
    have h1 := frL_len ns q (numS' ns fr s)
    have h2 := numS'_len ns fr s
    omega
theorem frL_all (ns : List ByteArray) (d : DepV) : frL ns (d.out :: d.deps) = freshN ns d := by
  have h := frL_app ns (d.out :: d.deps)
  have h2 := allN_app ns d
  unfold allN at h2
  rw [h2] at h
  exact List.append_cancel_left h
theorem num_at (ns q1 q2 : List ByteArray) (s : ByteArray) : numOf (withN (ns ++ frL ns q1) s) s = numOf ((q1 ++ s :: q2).foldl withN ns) s := by
  rw [frL_app, List.foldl_append, List.foldl_cons]
  obtain ⟨m, h, _⟩ := foldN_app q2 (withN (q1.foldl withN ns) s)
  rw [h]
  exact (numOf_app (withN_mem _ _) m).symm
theorem num_small {ns q : List ByteArray} {s : ByteArray} (h : s ∈ q.foldl withN ns) (hn : ns.length + q.length ≤ 4000000000) : numOf (q.foldl withN ns) s < 4000000000 := by
  have h1 := (numOf_lt h).1
  have h2 := foldN_len q ns
  omega
theorem idsB_snoc (l deps : List ByteArray) (s : ByteArray) : idsB l (deps ++ [s]) = idsB l deps ++ Pack.leBytes (numOf l s) 4 := by
  unfold idsB
  rw [List.map_append, List.flatten_append]
  simp
theorem planE_bad {d : DepV} (h : badTime d) : planE d = 1 := if_pos h
theorem planE_long {d : DepV} (h : ¬ badTime d) (h2 : long d) : planE d = 3 := by unfold planE; rw [if_neg h, if_pos h2]
theorem planE_ok {d : DepV} (h : ¬ badTime d) (h2 : ¬ long d) : planE d = 0 := by unfold planE; rw [if_neg h, if_neg h2]
theorem planL_err {ns : List ByteArray} {d : DepV} (h : planE d ≠ 0) : planL ns d = [] := if_neg h
theorem planL_ok {ns : List ByteArray} {d : DepV} (h : planE d = 0) : planL ns d = (frL ns (d.out :: d.deps)).map nameRec ++ [outRec (allN ns d) d] := by
  unfold planL
  rw [if_pos h, frL_all]
theorem long_iff (d : DepV) : long d ↔ 1000 < d.deps.length ∨ longB (d.out :: d.deps) = true := by
  unfold long
  have h : longB (d.out :: d.deps) = true ↔ (4000 < d.out.size ∨ ∃ s ∈ d.deps, 4000 < s.size) := by simp [longB]
  rw [h]
--BEGIN WALK
set_option maxRecDepth 100000 in
set_option maxHeartbeats 8000000 in
theorem plan_any (S : Nat → Prop) (c g : Nat) (b : BookV) (vd : Value) (d : DepV) (w : World) (hB : Bk S c w g b) (hd : DepIs w vd d) (hf : FitD d) (hc : c ≤ 1000000) (hn : d.deps.length ≤ 1000000) :
    Calls Try.prog 12 #[.pointer (some ⟨g, 0, none⟩), vd] w fun e w' => ∃ vo, e = .returned (.tuple #[vo, .int .i64 (planE d)]) ∧ Recs w w' vo (planL b.ns d) := by
  have hmm := @run_makeMap Try.prog
  obtain ⟨vdd, rfl, hs⟩ := hd
  obtain ⟨Ad, cd, rfl, hcd, hmd⟩ := ss_len hs
  obtain ⟨nd, hnd⟩ : ∃ nd, nd = d.deps.length := ⟨_, rfl⟩
  rw [← hnd] at hn hcd hmd hs ⊢
  have HND := Lib.hid hnd
  have hns : b.ns.length ≤ 1000000 := by have := hB.few; omega
  have hto := hf.out
  have ht0 := hf.t0
  have ht1 := hf.t1
  have HF := Lib.hid hf
  obtain ⟨x, hx⟩ : ∃ x, w.heap.size = x := ⟨_, rfl⟩
  obtain ⟨Wb, hWb⟩ : ∃ Wb, Wb = (w.alloc (.cells #[.pointer (some ⟨g, 0, none⟩)] 27)).alloc (.cells #[.string d.out, .int .i64 d.time, .slice Ad nd cd] 36) := ⟨_, rfl⟩
  have hb1 := below_alloc (Below.refl w.heap.size w) (.cells #[.pointer (some ⟨g, 0, none⟩)] 27)
  have hb0 : Below w.heap.size w Wb := by rw [hWb]; exact below_alloc hb1 _
  have hXd : Wb.heap[x + 1]? = some (.cells #[.string d.out, .int .i64 d.time, .slice Ad nd cd] 36 (0, 0)) := by
    have h := blk_new (w.alloc (.cells #[.pointer (some ⟨g, 0, none⟩)] 27)) (.cells #[.string d.out, .int .i64 d.time, .slice Ad nd cd] 36)
    rw [hWb, ← hx]
    simpa using h
  have hXb : Wb.heap[x]? = some (.cells #[.pointer (some ⟨g, 0, none⟩)] 27 (0, 0)) := by
    have h := blk_new w (.cells #[.pointer (some ⟨g, 0, none⟩)] 27)
    have h2 := below_alloc (Below.refl (w.alloc (.cells #[.pointer (some ⟨g, 0, none⟩)] 27)).heap.size (w.alloc (.cells #[.pointer (some ⟨g, 0, none⟩)] 27))) (.cells #[.string d.out, .int .i64 d.time, .slice Ad nd cd] 36)
    rw [hWb, ← hx]
    exact (h2.block w.heap.size (blk_lt h)).trans h
  have XD := Lib.hid hXd
  have XB := Lib.hid hXb
  have HB0 := Lib.hid hb0
  have HBK := Lib.hid (hB.below hb0)
  have HSS := Lib.hid (hs.below hb0)
  have HSB : Hid (∀ k, S k → k < w.heap.size) := hB.lt
  have SSW := Lib.hid hs
  have HX := Lib.hid hx
  have HWB := Lib.hid hWb
  have d0 := blk_cell hXd 0
  have d1 := blk_cell hXd 1
  have d2 := blk_cell hXd 2
  have bb := blk_cell hXb 0
  have hws : Wb.heap.size = x + 1 + 1 := by rw [hWb, ← hx]; simp
  have HWS := Lib.hid hws
  have HXW : Hid (x ≤ Wb.heap.size) := by show x ≤ Wb.heap.size; omega
  have RA : Hid (Kd.string.R 9 (Wb.alloc (.cells #[.string d.out] 9)) 0 (fun k => x ≤ k) (.slice (some ⟨x + 1 + 1, 0, none⟩) 1 1) [d.out]) := by
    have h := str_lit Wb 0 (Nat.zero_le _) (fun k => x ≤ k) HXW.out d.out
    rw [hws] at h
    exact h
  clear hB hs hf hb1 hb0 hXd hXb hWb hnd hws
  go_enter Try.func12, Try.ntmps12
  go_wp2_with (at_builtin; refine Held.of ?_)
  rw [← HWB.out]
  try rw [hx]
  clear hx
  --S1
  refine Held.out (Kd.R_append_row Value.string ByteArray.empty (h1 := fun _ => rfl) (w0 := Wb) 0 rfl (.tmp 15) (.tmp 17) 22 9 (.string ⟨#[]⟩) 16 rfl Try.underlying22 (by kernel_rfl) rfl (by decide) (.slice (some ⟨x + 1 + 1, 0, none⟩) 1 1) [d.out] d.deps Ad nd cd (fun k => x ≤ k) rfl rfl (fun k hk => by have := HXW.out; simp at hk; omega) RA.out ((ss_C HSS.out) |> fun h => Kd.C_below h (below_alloc (Below.refl _ _) _)) ((Below.refl 0 Wb).alloc (Nat.zero_le _) _) (Nat.zero_le _) (by simp; omega) ?_)
  intro va wa ra ba ga _
  obtain ⟨Aa, ca, ea⟩ := Kd.R_slice ra
  obtain ⟨na, hna⟩ : ∃ na, na = ([d.out] ++ d.deps).length := ⟨_, rfl⟩
  rw [← hna] at ea
  subst ea
  have hba : Below w.heap.size w wa := by
    have h1 : Below w.heap.size w (Wb.alloc (.cells #[.string d.out] 9)) := below_alloc HB0.out _
    exact h1.grown ga h1.size (fun k hk => by rw [HX.out]; exact RA.out.1 k hk)
  have hba2 : Below Wb.heap.size Wb wa := by
    have h1 : Below Wb.heap.size Wb (Wb.alloc (.cells #[.string d.out] 9)) := below_alloc (Below.refl _ _) _
    refine h1.grown ga h1.size (fun k hk => ?_)
    have : x + 1 + 1 = k := by simpa [Value.ownBlock] using hk
    rw [← this, HWS.out]
    exact Nat.le_refl _
  have SA : Hid (Ss wa (.slice Aa na ca) (d.out :: d.deps)) := by have h := r_ss ra; exact h
  have hna2 : na = nd + 1 := by rw [hna, HND.out]; simp
  have HBA := Lib.hid hba
  have XD2 := Lib.hid ((hba2.block _ (blk_lt XD.out)).trans XD.out)
  have XB2 := Lib.hid ((hba2.block _ (blk_lt XB.out)).trans XB.out)
  have K2 := Lib.hid (HBK.out.below hba2)
  have SS2 := Lib.hid (HSS.out.below hba2)
  have d0 := blk_cell XD2.out 0
  have d1 := blk_cell XD2.out 1
  have d2 := blk_cell XD2.out 2
  have bb := blk_cell XB2.out 0
  clear ra ba ga hba hba2 hna
  have HNA := Lib.hid hna2
  clear hna2 RA HBK HSS XD XB
  by_cases t1 : d.time < 0
  · have HE : Hid (planE d = 1) := planE_bad (.inl t1)
    have hd1 : decide (d.time < 0) = true := decide_eq_true t1
    go_wp2
    go_ret2
    rw [HE.out, planL_err (by rw [HE.out]; decide)]
    exact ⟨_, rfl, Recs.nil HBA.out⟩
  have hd1 : decide (d.time < 0) = false := decide_eq_false t1
  by_cases t2 : 4611686018427387904 ≤ d.time
  · have HE : Hid (planE d = 1) := planE_bad (.inr t2)
    have hd2 : decide (4611686018427387904 ≤ d.time) = true := decide_eq_true t2
    go_wp2
    go_ret2
    rw [HE.out, planL_err (by rw [HE.out]; decide)]
    exact ⟨_, rfl, Recs.nil HBA.out⟩
  have hd2 : decide (4611686018427387904 ≤ d.time) = false := decide_eq_false t2
  have HBT : Hid (¬ badTime d) := by
    show ¬ badTime d
    unfold badTime
    omega
  by_cases t3 : 1000 < nd
  · have HE : Hid (planE d = 3) := planE_long HBT.out ((long_iff d).2 (.inl (by rw [← HND.out]; exact t3)))
    have hd3 : decide ((1000 : Int) < (nd : Int)) = true := decide_eq_true (by omega)
    go_wp2
    go_ret2
    rw [HE.out, planL_err (by rw [HE.out]; decide)]
    exact ⟨_, rfl, Recs.nil HBA.out⟩
  have hd3 : decide ((1000 : Int) < (nd : Int)) = false := decide_eq_false (by omega)
  go_wp2_with fail
  --S2
  refine (containsFunc_any _ (d.out :: d.deps) _ SA.out (fun s hs => (List.mem_cons.1 hs).elim (fun e => e ▸ HF.out.out) (HF.out.deps s))).mono ?_
  rintro e w' ⟨rfl, rfl⟩
  cases hlb : longB (d.out :: d.deps) with
  | true =>
    have HE : Hid (planE d = 3) := planE_long HBT.out ((long_iff d).2 (.inr hlb))
    clear hlb
    go_wp2
    go_ret2
    rw [HE.out, planL_err (by rw [HE.out]; decide)]
    exact ⟨_, rfl, Recs.nil HBA.out⟩
  | false =>
    have HE : Hid (planE d = 0) := planE_ok HBT.out (fun h => by
      rcases (long_iff d).1 h with h | h
      · rw [← HND.out] at h; exact t3 h
      · rw [hlb] at h; cases h)
    have HSH := Lib.hid (longB_false.1 hlb)
    have hso : d.out.size ≤ 4000 := HSH.out _ (by simp)
    clear hlb hd1 hd2 hd3
    obtain ⟨z, hz⟩ : ∃ z, wa.heap.size = z := ⟨_, rfl⟩
    obtain ⟨Wc, hWc⟩ : ∃ Wc, Wc = ((wa.alloc (.cells #[.slice none 0 0] 31)).alloc (.map #[] 0)).alloc (.cells #[.map (some (z + 1))] 66) := ⟨_, rfl⟩
    have PN : Hid (Pn S c g x (z + 1 + 1) z (z + 1) b w Wc [] (.slice none 0 0)) := by
      have e1 : (wa.alloc (.cells #[.slice none 0 0] 31)).heap.size = z + 1 := by rw [← hz]; simp
      have e2 : ((wa.alloc (.cells #[.slice none 0 0] 31)).alloc (.map #[] 0)).heap.size = z + 1 + 1 := by simp [hz]
      have b1 := below_alloc (Below.refl wa.heap.size wa) (.cells #[.slice none 0 0] 31)
      have b2 := below_alloc b1 (.map #[] 0)
      have b3 := below_alloc b2 (.cells #[.map (some (z + 1))] 66)
      have c1 := below_alloc (Below.refl (wa.alloc (.cells #[.slice none 0 0] 31)).heap.size (wa.alloc (.cells #[.slice none 0 0] 31))) (.map #[] 0)
      have c2 := below_alloc c1 (.cells #[.map (some (z + 1))] 66)
      have m1 := VMap.made (wa.alloc (.cells #[.slice none 0 0] 31)) 9 skey
      rw [e1] at m1
      have g1 := blk_new wa (.cells #[.slice none 0 0] 31)
      rw [hz] at g1
      have g2 := blk_new ((wa.alloc (.cells #[.slice none 0 0] 31)).alloc (.map #[] 0)) (.cells #[.map (some (z + 1))] 66)
      rw [e2] at g2
      show Pn _ _ _ _ _ _ _ _ _ _ _ _
      rw [hWc]
      exact ⟨K2.out.below b3, (b3.block x (blk_lt XB2.out)).trans XB2.out, g2, (c2.block z (blk_lt g1)).trans g1, (m1.below (below_alloc (Below.refl _ _) _)).congr fun _ => rfl, Recs.nil (HBA.out.trans (b3.mono HBA.out.size))⟩
    have PY : Hid (Py S x (z + 1 + 1) z (z + 1) w) := by
      have h1 := HBA.out.size
      exact ⟨HSB.out, by rw [HX.out]; exact Nat.le_refl _, by omega, by omega, by omega⟩
    have XD3 : Hid (Wc.heap[x + 1]? = some (.cells #[.string d.out, .int .i64 d.time, .slice Ad nd cd] 36 (0, 0))) := by
      have b1 := below_alloc (Below.refl wa.heap.size wa) (.cells #[.slice none 0 0] 31)
      have b2 := below_alloc b1 (.map #[] 0)
      have b3 := below_alloc b2 (.cells #[.map (some (z + 1))] 66)
      show _ = _
      rw [hWc]
      exact (b3.block _ (blk_lt XD2.out)).trans XD2.out
    have SS3 : Hid (Ss Wc (.slice Ad nd cd) d.deps) := by
      have b1 := below_alloc (Below.refl wa.heap.size wa) (.cells #[.slice none 0 0] 31)
      have b2 := below_alloc b1 (.map #[] 0)
      have b3 := below_alloc b2 (.cells #[.map (some (z + 1))] 66)
      show Ss _ _ _
      rw [hWc]
      exact SS2.out.below b3
    have HWC := Lib.hid hWc
    have HZ := Lib.hid hz
    have e0 := blk_cell XD3.out 0
    clear hWc hz d0 d1 d2 bb K2 XB2 SA
    have hlt : x + 1 < Wc.heap.size := blk_lt XD3.out
    go_upto_region 12 with (fail)
    rw [HZ.out]
    rw [← HWC.out]
    --S3
    go_wp2_with fail
    --S4
    have hbl := below_alloc (Below.refl Wc.heap.size Wc) (.cells #[.int .u8 2] 5)
    have PL := Lib.hid (PN.out.below hbl)
    have OL : Hid (Ow w (Wc.alloc (.cells #[.int .u8 2] 5)) (.slice (some ⟨Wc.heap.size, 0, none⟩) 1 1) [2]) := Ow.lit PN.out.row.below [2] (by decide)
    have XDL := Lib.hid ((hbl.block _ (blk_lt XD3.out)).trans XD3.out)
    have SSL := Lib.hid (SS3.out.below hbl)
    clear hbl
    refine (number_c S c g x (z + 1 + 1) z (z + 1) b w [] (.slice none 0 0) d.out _ PL.out PY.out hso hc (by decide)).mono ?_
    rintro e w4 ⟨vo4, rfl, pn4, ot4⟩
    have HEL : Hid (∀ q : List ByteArray, ∀ s q2, q ++ s :: q2 = d.out :: d.deps → numOf (withN (b.ns ++ frL b.ns q) s) s = numOf (allN b.ns d) s) := fun q s q2 he => by
      have h := num_at b.ns q q2 s
      rw [he] at h
      exact h
    have hn0 : numOf (withN (b.ns ++ []) d.out) d.out = numOf (allN b.ns d) d.out := HEL.out [] d.out d.deps rfl
    have HSM : Hid (∀ s, s ∈ d.out :: d.deps → numOf (allN b.ns d) s < 4000000000) := fun s hs => num_small (foldN_mem _ _ s hs) (by rw [List.length_cons, ← HND.out]; omega)
    have hns0 : numS' b.ns [] d.out = frL b.ns [d.out] := rfl
    rw [hns0] at pn4
    rw [hn0]
    have P4 := Lib.hid pn4
    have O4 := Lib.hid (ot4.bytes pn4.row.below OL.out)
    have XD4 := Lib.hid ((ot4 _ _ _ XDL.out (by decide) (by decide)).trans XDL.out)
    have OT4 := Lib.hid ot4
    have hnm := HSM.out d.out (by simp)
    obtain ⟨n0, hn0e⟩ : ∃ n0, n0 = numOf (allN b.ns d) d.out := ⟨_, rfl⟩
    rw [← hn0e] at hnm ⊢
    have HN0 := Lib.hid hn0e
    clear pn4 ot4 hn0 hns0 hn0e PL OL e0
    go_wp2_with fail
    --S5
    refine (u32_any _ [2] (n0 : Int) _ O4.out.bs (by decide) (by omega) (by omega)).mono ?_
    rintro e w5 ⟨v5, rfl, o5⟩
    obtain ⟨A5, n5, c5, rfl, hn5⟩ := o5.slice
    have O5 := Lib.hid (o5.lower P4.out.row.below)
    have P5 := Lib.hid (P4.out.below o5.below)
    have XD5 := Lib.hid ((o5.below.block _ (blk_lt XD4.out)).trans XD4.out)
    have D1 : Hid (w5.cell? ⟨x + 1, 1, none⟩ = some (.int .i64 d.time)) := blk_cell XD5.out 1
    have D2 : Hid (w5.cell? ⟨x + 1, 2, none⟩ = some (.slice Ad nd cd)) := blk_cell XD5.out 2
    have ht0' : 0 ≤ d.time := by omega
    have ht1' : d.time < 4611686018427387904 := by omega
    have HN5 : Hid (n5 = 5) := by show n5 = 5; rw [hn5]; simp [leBytes_length]
    clear o5 hn5
    have e1 := D1.out
    have e2 := D2.out
    have HWT : Hid (IntKind.u64.wrap d.time = d.time) := by show _ = _; rw [IntKind.wrap_u64]; exact Int.emod_eq_of_lt (by omega) (by omega)
    have HWN : Hid (IntKind.u32.wrap (nd : Int) = (nd : Int)) := by show _ = _; rw [IntKind.wrap_u32]; exact Int.emod_eq_of_lt (by omega) (by omega)
    go_wp2
    --S6
    refine start_ (n := 11) (S := fun w' => Below w5.heap.size w5 w' ∧ w'.cell? ⟨x + 1, 1, none⟩ = some (.int .i64 d.time) ∧ w'.cell? ⟨x + 1, 2, none⟩ = some (.slice Ad nd cd)) (ds := []) #[false, false, false, false, false, false, false, false, false, false, false] (by kernel_rfl) rfl rfl ⟨Below.drew (Below.refl _ _), D1.out, D2.out⟩ (fun hHeld => ?_)
    refine pure_ (i := 0) (N := some 47) (v := ?_) (a' := ?_) #[true, false, false, false, false, false, false, false, false, false, false] rfl rfl (by kernel_rfl) (fun _ _ _ h => h) (Or.inl ⟨by rfl, ?_⟩) ?_ ?_
    rotate_left
    · intro w'
      go_simp
      with_reducible rfl
    rotate_left
    · simp only [Act.put, List.setIfInBounds_toArray, List.set_cons_zero, List.set_cons_succ, i64_w, i32_w]
      rfl
    refine pure_ (i := 1) (N := some 48) (v := ?_) (a' := ?_) #[true, true, false, false, false, false, false, false, false, false, false] rfl rfl (by kernel_rfl) (fun _ _ _ h => h) (Or.inl ⟨by rfl, ?_⟩) ?_ ?_
    rotate_left
    · intro w'
      go_simp
      with_reducible rfl
    rotate_left
    · simp only [Act.put, List.setIfInBounds_toArray, List.set_cons_zero, List.set_cons_succ, i64_w, i32_w]
      rfl
    refine pure_ (i := 5) (N := some 52) (v := ?_) (a' := ?_) #[true, true, false, false, false, true, false, false, false, false, false] rfl rfl (by kernel_rfl) (fun _ _ _ h => h) (Or.inl ⟨by rfl, ?_⟩) ?_ ?_
    rotate_left
    · intro w'
      go_simp
      with_reducible rfl
    rotate_left
    · simp only [Act.put, List.setIfInBounds_toArray, List.set_cons_zero, List.set_cons_succ, i64_w, i32_w]
      rfl
    refine take_ (i := 2) (N := some 49) (v := ?_) (a' := ?_) #[true, true, true, false, false, true, false, false, false, false, false] rfl rfl (by kernel_rfl) (fun _ _ _ h => h) (Or.inl ⟨by rfl, ?_⟩) hHeld ?_ ?_
    rotate_left
    · rintro w' ⟨s0, s1, s2⟩
      go_simp
      with_reducible rfl
    rotate_left
    · simp only [Act.put, List.setIfInBounds_toArray, List.set_cons_zero, List.set_cons_succ, i64_w, i32_w]
      rfl
    refine pure_ (i := 3) (N := some 50) (v := ?_) (a' := ?_) #[true, true, true, true, false, true, false, false, false, false, false] rfl rfl (by kernel_rfl) (fun _ _ _ h => h) (Or.inl ⟨by rfl, ?_⟩) ?_ ?_
    rotate_left
    · intro w'
      go_simp
      with_reducible rfl
    rotate_left
    · simp only [Act.put, List.setIfInBounds_toArray, List.set_cons_zero, List.set_cons_succ, i64_w, i32_w]
      rfl
    refine take_ (i := 6) (N := some 53) (v := ?_) (a' := ?_) #[true, true, true, true, false, true, true, false, false, false, false] rfl rfl (by kernel_rfl) (fun _ _ _ h => h) (Or.inl ⟨by rfl, ?_⟩) hHeld ?_ ?_
    rotate_left
    · rintro w' ⟨s0, s1, s2⟩
      go_simp
      with_reducible rfl
    rotate_left
    · simp only [Act.put, List.setIfInBounds_toArray, List.set_cons_zero, List.set_cons_succ, i64_w, i32_w]
      rfl
    refine pure_ (i := 7) (N := some 54) (v := ?_) (a' := ?_) #[true, true, true, true, false, true, true, true, false, false, false] rfl rfl (by kernel_rfl) (fun _ _ _ h => h) (Or.inl ⟨by rfl, ?_⟩) ?_ ?_
    rotate_left
    · intro w'
      go_simp
      with_reducible rfl
    rotate_left
    · simp only [Act.put, List.setIfInBounds_toArray, List.set_cons_zero, List.set_cons_succ, i64_w, i32_w]
      rfl
    refine pure_ (i := 8) (N := some 55) (v := ?_) (a' := ?_) #[true, true, true, true, false, true, true, true, true, false, false] rfl rfl (by kernel_rfl) (fun _ _ _ h => h) (Or.inl ⟨by rfl, ?_⟩) ?_ ?_
    rotate_left
    · intro w'
      go_simp
      with_reducible rfl
    rotate_left
    · simp only [Act.put, List.setIfInBounds_toArray, List.set_cons_zero, List.set_cons_succ, i64_w, i32_w]
      rfl
    refine one_ (i := 4) (N := some 51) #[true, true, true, true, true, true, true, true, true, false, false] rfl rfl (by kernel_rfl) (by decide) (fun K hK => ?_)
    refine goes_ Try.func34 (by kernel_rfl) rfl #[.slice A5 n5 c5, .int .u64 (IntKind.u64.wrap d.time)] (by rfl) rfl rfl (by first | (simp only [List.map_toArray, List.map_cons, List.map_nil]; done) | (simp only [List.map_toArray, List.map_cons, List.map_nil]; rfl) | rfl) ?_
    with_reducible refine (u64_any _ ([2] ++ Pack.leBytes (n0 : Int) 4) (IntKind.u64.wrap d.time) _ ((O5.out.bs).below hHeld.1) (by simp [leBytes_length]) (by rw [HWT.out]; exact ht0') (by rw [HWT.out]; omega)).mono ?_
    rintro e w6 ⟨v6, rfl, o6⟩
    refine ⟨_, rfl, ?_⟩
    rw [HWT.out] at o6
    have O6 := Lib.hid (o6.lower (O5.out.below.trans (hHeld.1.mono O5.out.below.size)))
    obtain ⟨A6, n6, c6, rfl, hn6⟩ := o6.slice
    have hb6 := hHeld.1.trans (o6.below.mono hHeld.1.size)
    clear o6 hn6
    refine hK.out _ _ ⟨hb6, pw_cell_below hb6 D1.out, pw_cell_below hb6 D2.out⟩ (fun hHeld => ?_)
    clear hK K
    refine norm_ (a' := ?_) ?_ ?_
    rotate_left
    · show Act.put _ (some 51) _ = _
      simp only [Act.put, List.setIfInBounds_toArray, List.set_cons_zero, List.set_cons_succ, i64_w, i32_w]
      rfl
    refine one_ (i := 9) (N := some 56) #[true, true, true, true, true, true, true, true, true, true, false] rfl rfl (by kernel_rfl) (by decide) (fun K hK => ?_)
    refine goes_ Try.func33 (by kernel_rfl) rfl #[.slice A6 n6 c6, .int .u32 (IntKind.u32.wrap (nd : Int))] (by rfl) rfl rfl (by first | (simp only [List.map_toArray, List.map_cons, List.map_nil]; done) | (simp only [List.map_toArray, List.map_cons, List.map_nil]; rfl) | rfl) ?_
    with_reducible refine (u32_any _ ([2] ++ Pack.leBytes (n0 : Int) 4 ++ Pack.leBytes d.time 8) (IntKind.u32.wrap (nd : Int)) _ O6.out.bs (by simp [leBytes_length]) (by rw [HWN.out]; omega) (by rw [HWN.out]; omega)).mono ?_
    rintro e w7 ⟨v7, rfl, o7⟩
    refine ⟨_, rfl, ?_⟩
    rw [HWN.out] at o7
    have O7 := Lib.hid (o7.lower O6.out.below)
    obtain ⟨A7, n7, c7, rfl, hn7⟩ := o7.slice
    have hb7 := hHeld.1.trans (o7.below.mono hHeld.1.size)
    clear o7 hn7
    refine hK.out _ _ ⟨hb7, pw_cell_below hb7 D1.out, pw_cell_below hb7 D2.out⟩ (fun hHeld => ?_)
    clear hK K
    refine norm_ (a' := ?_) ?_ ?_
    rotate_left
    · show Act.put _ (some 56) _ = _
      simp only [Act.put, List.setIfInBounds_toArray, List.set_cons_zero, List.set_cons_succ, i64_w, i32_w]
      rfl
    refine pure_ (i := 10) (N := some 10) (v := ?_) (a' := ?_) #[true, true, true, true, true, true, true, true, true, true, true] rfl rfl (by kernel_rfl) (fun _ _ _ h => h) (Or.inl ⟨by rfl, ?_⟩) ?_ ?_
    rotate_left
    · intro w'
      go_simp
      with_reducible rfl
    rotate_left
    · simp only [Act.put, List.setIfInBounds_toArray, List.set_cons_zero, List.set_cons_succ, i64_w, i32_w]
      rfl
    refine done_ (by kernel_rfl) ?_
    --S7
    have P7 := Lib.hid (P5.out.below hHeld.1)
    have e7 := hHeld.2.2
    have SS7 : Hid (Ss w (.slice Ad nd cd) d.deps) := SSW.out
    obtain ⟨wz, hwz⟩ : ∃ wz, wz = w7 := ⟨_, rfl⟩
    clear hHeld e1 e2 P5 XD5 D1 D2 O5 O6
    subst hwz
    have HRB : Hid (∀ k, k ≤ nd → ([2] ++ Pack.leBytes (n0 : Int) 4 ++ Pack.leBytes d.time 8 ++ Pack.leBytes (nd : Int) 4 ++ idsB (allN b.ns d) (d.deps.take k)).length ≤ 5000) := fun k hk => by
      simp only [List.length_append, leBytes_length, idsB_length, List.length_take, List.length_singleton]
      omega
    go_wp2
    clear e7
    --S8
    go_loopw [10, 60] (fun v i wr => ∃ (k : Nat) (vo : Value), k ≤ nd ∧ i = .int .i64 k ∧ Hid (Pn S c g x (z + 1 + 1) z (z + 1) b w wr (frL b.ns (d.out :: d.deps.take k)) vo) ∧ Hid (Ow w wr v ([2] ++ Pack.leBytes (n0 : Int) 4 ++ Pack.leBytes d.time 8 ++ Pack.leBytes (nd : Int) 4 ++ idsB (allN b.ns d) (d.deps.take k)))) (fun _ i _ => nd - (intOf i).toNat)
    case atStart => exact ⟨0, _, by omega, rfl, P7.out, by rw [List.take_zero]; show Ow _ _ _ (_ ++ []); rw [List.append_nil]; exact O7.out⟩
    case round =>
      obtain ⟨k, vo, hk, rfl, PK, OK⟩ := hrel
      by_cases l1 : k < nd
      · have hkl : k < d.deps.length := by rw [← HND.out]; exact l1
        obtain ⟨As, cs, es, _, _, hcel0⟩ := SS7.out.below PK.out.row.below
        injection es with es1 es2 es3
        subst es1
        obtain ⟨ad, ead, hcell⟩ := hcel0 (by omega)
        subst ead
        clear hcel0
        have q0 := hcell k hkl
        have hmem : d.deps.getD k ByteArray.empty ∈ d.deps := by rw [List.getD_eq_getElem?_getD, List.getElem?_eq_getElem hkl]; exact List.getElem_mem hkl
        have hTK : d.deps.take (k + 1) = d.deps.take k ++ [d.deps.getD k ByteArray.empty] := by
          rw [List.take_add_one, List.getElem?_eq_getElem hkl, List.getD_eq_getElem?_getD, List.getElem?_eq_getElem hkl]; rfl
        have hsplit : (d.out :: d.deps.take k) ++ d.deps.getD k ByteArray.empty :: d.deps.drop (k + 1) = d.out :: d.deps := by
          rw [List.cons_append]
          congr 1
          conv => rhs; rw [← List.take_append_drop (k + 1) d.deps]
          rw [hTK, List.append_assoc]
          rfl
        have hsz := HSH.out _ (List.mem_cons_of_mem _ hmem)
        have hnum := HEL.out _ _ _ hsplit
        have hsm := HSM.out _ (List.mem_cons_of_mem _ hmem)
        have hfrl : (frL b.ns (d.out :: d.deps.take k)).length ≤ 10000 := by
          have h := frL_len b.ns (d.out :: d.deps.take k) []
          unfold frL
          simp only [List.length_cons, List.length_nil, List.length_take] at h
          omega
        have HFRL := Lib.hid hfrl
        have HTK := Lib.hid hTK
        have HNUM := Lib.hid hnum
        clear hcell hmem hTK hsplit hnum es2 es3 hkl hfrl
        generalize d.deps.getD k ByteArray.empty = sd at q0 hsz HTK HNUM hsm
        go_wp2_with fail
        --S9
        refine (number_c S c g x (z + 1 + 1) z (z + 1) b w _ vo sd _ PK.out PY.out hsz hc HFRL.out).mono ?_
        rintro e w8 ⟨vo8, rfl, pn8, ot8⟩
        rw [← frL_snoc, List.cons_append, ← HTK.out] at pn8
        rw [HNUM.out]
        have P8 := Lib.hid pn8
        have O8 := Lib.hid (ot8.bytes pn8.row.below OK.out)
        obtain ⟨n8, hn8e⟩ : ∃ n8, n8 = numOf (allN b.ns d) sd := ⟨_, rfl⟩
        rw [← hn8e] at hsm ⊢
        have HN8 := Lib.hid hn8e
        clear pn8 ot8 hn8e q0 PK OK
        go_wp2_with fail
        refine (u32_any _ _ (n8 : Int) _ O8.out.bs (by have := HRB.out k hk; omega) (by omega) (by omega)).mono ?_
        rintro e w9 ⟨v9, rfl, o9⟩
        obtain ⟨A9, n9, c9, rfl, hn9⟩ := o9.slice
        have e9 : [2] ++ Pack.leBytes (n0 : Int) 4 ++ Pack.leBytes d.time 8 ++ Pack.leBytes (nd : Int) 4 ++ idsB (allN b.ns d) (d.deps.take k) ++ Pack.leBytes (n8 : Int) 4 = [2] ++ Pack.leBytes (n0 : Int) 4 ++ Pack.leBytes d.time 8 ++ Pack.leBytes (nd : Int) 4 ++ idsB (allN b.ns d) (d.deps.take (k + 1)) := by
          rw [HTK.out, idsB_snoc, HN8.out]
          simp only [List.append_assoc]
        have o9' := o9.lower P8.out.row.below
        rw [e9] at o9'
        have O9 := Lib.hid o9'
        have P9 := Lib.hid (P8.out.below o9.below)
        clear o9 o9' hn9 e9
        go_wp2
        --S10
        go_roundw
        case rel => exact ⟨k + 1, _, by omega, by go_num, P9.out, O9.out⟩
        case measure => simp [intOf]; omega
      · have hk2 : k = nd := by omega
        have PE : Hid (Pn S c g x (z + 1 + 1) z (z + 1) b w wr (frL b.ns (d.out :: d.deps)) vo) := by
          have h := PK.out
          rw [hk2, HND.out, List.take_length] at h
          exact h
        have hoe := OK.out
        rw [hk2, HND.out, List.take_length, HN0.out] at hoe
        have e : outRec (allN b.ns d) d = [2] ++ Pack.leBytes ((numOf (allN b.ns d) d.out : Nat) : Int) 4 ++ Pack.leBytes d.time 8 ++ Pack.leBytes (d.deps.length : Int) 4 ++ idsB (allN b.ns d) d.deps := by
          unfold outRec
          simp only [List.append_assoc, List.singleton_append, List.cons_append, List.nil_append]
        rw [← e] at hoe
        have OE := Lib.hid hoe
        clear hoe e
        have HFL : Hid ((frL b.ns (d.out :: d.deps)).length ≤ 10000) := by
          show (frL b.ns (d.out :: d.deps)).length ≤ 10000
          have h := frL_len b.ns (d.out :: d.deps) []
          unfold frL
          simp only [List.length_cons, List.length_nil, ← HND.out] at h
          omega
        obtain ⟨Av, nv, cv, ev, hnv⟩ := OE.out.slice
        subst ev
        obtain ⟨Ao, no, co, eo, hno⟩ := PE.out.row.slice
        subst eo
        have qz := blk_cell PE.out.cz 0
        clear hk2 PK OK hnv hno
        go_wp2_with (at_builtin; refine Held.of ?_)
        --S11
        refine app_rec rfl (.tmp 71) (.tmp 73) 31 rfl Try.underlying31 _ _ ((frL b.ns (d.out :: d.deps)).map nameRec) (outRec (allN b.ns d) d) rfl rfl PE.out.row OE.out (by rw [List.length_map]; have := HFL.out; omega) ?_
        intro v6 w6 r6 g6
        obtain ⟨A6, n6, c6, rfl, hn6⟩ := r6.slice
        have R6 := Lib.hid r6
        clear r6 g6 hn6 qz
        go_wp2
        go_ret2
        rw [HE.out, planL_ok HE.out]
        exact ⟨_, rfl, R6.out⟩
--END WALK
end Go.Proofs.Ytinonkakpgiblaa.Nam
