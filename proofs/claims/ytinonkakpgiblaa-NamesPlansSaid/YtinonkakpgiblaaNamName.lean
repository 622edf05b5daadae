/- A name's record is taken: names.(*Book).name. -/
import Derived.Test.YtinonkakpgiblaaNamBook
import Derived.Test.YtinonkakpgiblaaHeapOps
import Derived.Test.YtinonkakpgiblaaStep
namespace Go.Proofs.Ytinonkakpgiblaa.Nam
open Go.RowKit Go.Proofs.YtinonkakpgiblaaW.PrintWords Go.Proofs.YtinonkakpgiblaaW.PrintLast Go.Proofs.Ytinonkakpgiblaa.Base Go.Proofs.Ytinonkakpgiblaa.Pack
set_option linter.unusedVariables false
set_option linter.unusedSimpArgs false

theorem seq_iff (a b : ByteArray) : (a.toList == b.toList) = decide (a = b) := by
  by_cases h : a = b
  · rw [decide_eq_true h, h]; simp
  · rw [decide_eq_false h]
    apply beq_eq_false_iff_ne.2
    intro e
    rw [ByteArray.toList_eq, ByteArray.toList_eq] at e
    refine h ?_
    cases a
    cases b
    exact congrArg ByteArray.mk (Array.toList_inj.1 e)
theorem map_zero_int (w : World) : (zeroValue 3).run Try.prog w = .ok (.int .i64 0) w := by kernel_rfl
/-- The blocks of S, and those from n on that w has. -/
abbrev Sn (S : Nat → Prop) (n : Nat) (w : World) (k : Nat) : Prop := S k ∨ (n ≤ k ∧ k < w.heap.size)
theorem Bk.widen {S : Nat → Prop} {c g n : Nat} {w : World} {b : BookV} (h : Bk S c w g b) : Bk (Sn S n w) c w g b := h.mono (fun _ hk => .inl hk) (fun k hk => hk.elim (h.lt k) (·.2))
/-- A name has come. -/
theorem Bk.named {S : Nat → Prop} {c g n : Nat} {w w4 : World} {b : BookV} {v1 : Value} {m1 m2 n2 : Nat} {f2 : Nat → Option Value} {t : ByteArray} (h : Bk S c w g b) (ht : t ∉ b.ns) (hz : t.size ≤ 65535) (hs : w.heap.size ≤ w4.heap.size)
    (e1 : w4.heap[g]? = some (.cells #[v1, .map (some m1), .map (some m2)] 69 (0, 0))) (s1 : S m1) (s2 : S m2) (hm : m1 ≠ m2) (hn2 : n2 ≤ c)
    (R4 : Kd.string.R 9 w4 0 (fun k => S k ∨ n ≤ k) v1 (b.ns ++ [t]))
    (M1 : VMap 9 skey w4 m1 (if ((idx b.ns t).map fun n : Nat => Value.int .i64 (n : Int)).isSome = true then b.ns.length else b.ns.length + 1) (fun s => if s = t then some (.int .i64 (b.ns.length : Int)) else (idx b.ns s).map fun n : Nat => .int .i64 (n : Int)))
    (M2 : VMap 3 ikey w4 m2 n2 f2) (O : OutsAt S w4 f2 b.os) : Bk (Sn S n w4) (c + 1) w4 g ⟨b.ns ++ [t], b.os⟩ := by
  have hnone := idx_none.2 ht
  refine ⟨fun k hk => hk.elim (fun hk => Nat.lt_of_lt_of_le (h.lt k hk) hs) (·.2), .inl h.sg, ?_, ?_, ?_, v1, m1, m2, n2, f2, e1, .inl s1, .inl s2, hm, by omega, ?_, ?_, M2, O.mono fun _ hk => .inl hk⟩
  · have hg := takeName_good (b := b) (s := (textBytes t, false)) (b' := ⟨b.ns ++ [t], b.os⟩) h.good (by
      have e := txt_put t [] (by omega)
      rw [List.append_nil] at e
      unfold takeName
      rw [e.1, e.2, if_neg (by simpa using ht)])
    exact hg
  · simp only [List.length_append, List.length_singleton]
    have := h.few
    omega
  · intro s hs
    rcases List.mem_append.1 hs with hs | hs
    · exact h.short s hs
    · rw [List.mem_singleton.1 hs]; omega
  · refine Kd.R_mono (Kd.R_bound R4) (fun k hk => ?_)
    rcases hk.1 with h1 | h1
    · exact .inl h1
    · exact .inr ⟨h1, hk.2.2.1⟩
  · have e : (if ((idx b.ns t).map fun n : Nat => Value.int .i64 (n : Int)).isSome = true then b.ns.length else b.ns.length + 1) = (b.ns ++ [t]).length := by rw [hnone]; simp
    rw [e] at M1
    refine M1.congr fun s => ?_
    by_cases hst : s = t
    · rw [if_pos hst, hst, idx_new hnone]; rfl
    · rw [if_neg hst]
      cases hi : idx b.ns s with
      | some k => rw [idx_app hi]
      | none =>
        rw [idx_app_none hi]
        simp [idx, Ne.symm hst]
--BEGIN WALK
set_option maxRecDepth 100000 in
set_option maxHeartbeats 2000000 in
theorem name_any (S : Nat → Prop) (c B g gp : Nat) (b : BookV) (s : RS) (w : World) (hB : Bk S c w g b) (hR : Rd B w gp s.1 s.2) (hS : ∀ k, S k → k < B) (hb : Bytes s.1) (hc : c ≤ 1000000) (hl : s.1.length ≤ 100000) :
    Calls Try.prog 38 #[.pointer (some ⟨g, 0, none⟩), .pointer (some ⟨gp, 0, none⟩)] w fun e w' => e = .returned (.bool (takeName b s).isSome) ∧ Bk (Sn S w.heap.size w') (c + 1) w' g ((takeName b s).getD b) ∧ Foot (fun k => S k ∨ k = gp) w w' := by
  have HB := Lib.hid hB
  have HR := Lib.hid hR
  have HS := Lib.hid hS
  have HY := Lib.hid hb
  have hgp := hR.base
  clear hB hR hS hb
  go_enter Try.func38, Try.ntmps38
  go_wp2_with fail
  refine (rtxt_g B gp s _ HR.out HY.out).mono ?_
  rintro e w1 ⟨rfl, hr, ho⟩
  have hz : (txt s).size ≤ 65535 := (txt_size s HY.out).2
  have HT : Hid (takeName b s = if txt s ∈ b.ns ∨ (txtS s).2 = true ∨ 0 < (txtS s).1.length then none else some ⟨b.ns ++ [txt s], b.os⟩) := rfl
  have hF : Foot (fun k => S k ∨ k = gp) w w1 := ⟨ho.os, ho.tape, ho.output, ho.size, fun k hk hn => ho.block k hk (fun e => hn (.inr e))⟩
  have HF := Lib.hid hF
  have HB1 : Hid (Bk S c w1 g b) := HB.out.foot (T := fun k => k = gp) ⟨ho.os, ho.tape, ho.output, ho.size, fun k hk hn => ho.block k hk hn⟩ (fun k hk e => by have := HS.out k hk; omega)
  have HR1 := Lib.hid hr
  have HW := Lib.hid ho.size
  obtain ⟨t, ht⟩ : ∃ t, t = txt s := ⟨_, rfl⟩
  obtain ⟨rs, hrs⟩ : ∃ rs, rs = txtS s := ⟨_, rfl⟩
  rw [← ht] at hz HT ⊢
  rw [← hrs] at HT HR1
  clear hr ho hF ht hrs HR
  obtain ⟨rest, bad⟩ := rs
  simp only at HR1
  obtain ⟨_, _, _, _, _, vn, m1, m2, n2, f2, h1, s1, s2, h12, hn2, hRn, hM1, hM2, hO⟩ := HB1.out
  have X1 := Lib.hid h1
  have HRn := Lib.hid hRn
  have HM1 := Lib.hid hM1
  have HM2 := Lib.hid hM2
  have HO := Lib.hid hO
  have HS12 : Hid (S m1 ∧ S m2 ∧ m1 ≠ m2 ∧ n2 ≤ c) := ⟨s1, s2, h12, hn2⟩
  have c0 := blk_cell h1 0
  have c1 := blk_cell h1 1
  have c2 := blk_cell h1 2
  have hlk := (hM1.look keyed_s Try.underlying66 (map_zero_int _) (s := t) (keyOf_s (by simp only [maxLen]; omega))).1
  obtain ⟨A0, cap0, e0⟩ := Kd.R_slice hRn
  have hns : b.ns.length ≤ 1000000 := by have := HB1.out.few; omega
  clear h1 hRn hM1 hM2 hO s1 s2 h12 hn2
  subst e0
  cases hi : idx b.ns t with
  | some n =>
    have hm : t ∈ b.ns := idx_isSome.1 (by rw [hi]; rfl)
    have HE : Hid (takeName b s = none) := by show _ = _; rw [HT.out, if_pos (.inl hm)]
    rw [hi] at hlk
    simp only [Option.map_some, Option.getD_some, Option.isSome_some] at hlk
    clear hi hm
    go_wp2
    go_ret
    rw [HE.out]
    exact ⟨rfl, (HB1.out.widen).more (Nat.le_succ _), HF.out⟩
  | none =>
    have hm : t ∉ b.ns := idx_none.1 hi
    have HI := Lib.hid hi
    have HNM := Lib.hid hm
    rw [hi] at hlk
    simp only [Option.map_none, Option.getD_none, Option.isSome_none] at hlk
    clear hi hm
    go_wp2_with fail
    refine (right_any _ _ _ _ _ HR1.out).mono ?_
    rintro e w2 ⟨rfl, rfl⟩
    cases bad with
    | true =>
      have HE : Hid (takeName b s = none) := by show _ = _; rw [HT.out, if_pos (.inr (.inl rfl))]
      go_wp2
      go_ret
      rw [HE.out]
      exact ⟨rfl, (HB1.out.widen).more (Nat.le_succ _), HF.out⟩
    | false =>
      go_wp2_with fail
      refine (left_any _ _ _ _ _ HR1.out).mono ?_
      rintro e w2 ⟨rfl, rfl⟩
      by_cases hlen : 0 < rest.length
      · have HE : Hid (takeName b s = none) := by show _ = _; rw [HT.out, if_pos (.inr (.inr hlen))]
        have hlt : decide ((0 : Int) < (rest.length : Int)) = true := decide_eq_true (by omega)
        go_wp2
        go_ret
        rw [HE.out]
        exact ⟨rfl, (HB1.out.widen).more (Nat.le_succ _), HF.out⟩
      · have HE : Hid (takeName b s = some ⟨b.ns ++ [t], b.os⟩) := by
          show _ = _
          rw [HT.out, if_neg]
          simp only [not_or, Bool.false_eq_true, not_false_eq_true, true_and]
          exact ⟨HNM.out, hlen⟩
        obtain rfl : rest = [] := List.eq_nil_of_length_eq_zero (by omega)
        clear hlen
        obtain ⟨w2, hrun, hM2', hg2, hz2⟩ := (HM1.out.block (w1 := w1.drew) rfl).store keyed_s Try.underlying66 (by simp only [maxLen]; omega) (s := t) (keyOf_s (by simp only [maxLen]; omega)) (skey_lit t) (fun s' h => skey_inj h) (.int .i64 (b.ns.length : Int))
        have HM2' := Lib.hid hM2'
        have HG2 := Lib.hid hg2
        have HRUN := Lib.hid hrun
        have HNE : Hid (some g ≠ some m1) := fun e => by injection e with e; exact HM1.out.ne X1.out e.symm
        have HMC : Hid (∀ cells t, w1.heap[m1]? ≠ some (.cells cells t (0, 0))) := fun cells t => HM1.out.no_cells
        clear hM2' hg2 hrun
        go_wp2
        --S1
        refine start_ (n := 11) (S := fun w' => w'.cell? ⟨g, 0, none⟩ = some (.slice A0 b.ns.length cap0) ∧ w'.cell? ⟨g, 1, none⟩ = some (.map (some m1))) (ds := [10]) #[false, false, false, false, false, false, false, false, false, false, false] (by kernel_rfl) rfl rfl ⟨c0, c1⟩ (fun hHeld => ?_)
        refine pure_ (i := 0) (N := some 30) (v := ?_) (a' := ?_) #[true, false, false, false, false, false, false, false, false, false, false] rfl rfl (by kernel_rfl) (fun _ _ _ h => h) (Or.inl ⟨by rfl, ?_⟩) ?_ ?_
        rotate_left
        · intro w'
          go_simp
          with_reducible rfl
        rotate_left
        · simp only [Act.put, List.setIfInBounds_toArray, List.set_cons_zero, List.set_cons_succ, i64_w, i32_w]
          rfl
        refine pure_ (i := 1) (N := some 31) (v := ?_) (a' := ?_) #[true, true, false, false, false, false, false, false, false, false, false] rfl rfl (by kernel_rfl) (fun _ _ _ h => h) (Or.inl ⟨by rfl, ?_⟩) ?_ ?_
        rotate_left
        · intro w'
          go_simp
          with_reducible rfl
        rotate_left
        · simp only [Act.put, List.setIfInBounds_toArray, List.set_cons_zero, List.set_cons_succ, i64_w, i32_w]
          rfl
        refine pure_ (i := 2) (N := some 32) (v := ?_) (a' := ?_) #[true, true, true, false, false, false, false, false, false, false, false] rfl rfl (by kernel_rfl) (fun _ _ _ h => h) (Or.inl ⟨by rfl, ?_⟩) ?_ ?_
        rotate_left
        · intro w'
          go_simp
          with_reducible rfl
        rotate_left
        · simp only [Act.put, List.setIfInBounds_toArray, List.set_cons_zero, List.set_cons_succ, i64_w, i32_w]
          rfl
        refine pure_ (i := 4) (N := some 34) (v := ?_) (a' := ?_) #[true, true, true, false, true, false, false, false, false, false, false] rfl rfl (by kernel_rfl) (fun _ _ _ h => h) (Or.inl ⟨by rfl, ?_⟩) ?_ ?_
        rotate_left
        · intro w'
          go_simp
          with_reducible rfl
        rotate_left
        · simp only [Act.put, List.setIfInBounds_toArray, List.set_cons_zero, List.set_cons_succ, i64_w, i32_w]
          rfl
        refine pure_ (i := 5) (N := some 35) (v := ?_) (a' := ?_) #[true, true, true, false, true, true, false, false, false, false, false] rfl rfl (by kernel_rfl) (fun _ _ _ h => h) (Or.inl ⟨by rfl, ?_⟩) ?_ ?_
        rotate_left
        · intro w'
          go_simp
          with_reducible rfl
        rotate_left
        · simp only [Act.put, List.setIfInBounds_toArray, List.set_cons_zero, List.set_cons_succ, i64_w, i32_w]
          rfl
        refine pure_ (i := 6) (N := some 36) (v := ?_) (a' := ?_) #[true, true, true, false, true, true, true, false, false, false, false] rfl rfl (by kernel_rfl) (fun _ _ _ h => h) (Or.inl ⟨by rfl, ?_⟩) ?_ ?_
        rotate_left
        · intro w'
          go_simp
          with_reducible rfl
        rotate_left
        · simp only [Act.put, List.setIfInBounds_toArray, List.set_cons_zero, List.set_cons_succ, i64_w, i32_w]
          rfl
        refine pure_ (i := 7) (N := some 37) (v := ?_) (a' := ?_) #[true, true, true, false, true, true, true, true, false, false, false] rfl rfl (by kernel_rfl) (fun _ _ _ h => h) (Or.inl ⟨by rfl, ?_⟩) ?_ ?_
        rotate_left
        · intro w'
          go_simp
          with_reducible rfl
        rotate_left
        · simp only [Act.put, List.setIfInBounds_toArray, List.set_cons_zero, List.set_cons_succ, i64_w, i32_w]
          rfl
        refine take_ (i := 3) (N := some 33) (v := ?_) (a' := ?_) #[true, true, true, true, true, true, true, true, false, false, false] rfl rfl (by kernel_rfl) (fun _ _ _ h => h) (Or.inl ⟨by rfl, ?_⟩) hHeld ?_ ?_
        rotate_left
        · rintro w' ⟨s0, s1⟩
          go_simp
          with_reducible rfl
        rotate_left
        · simp only [Act.put, List.setIfInBounds_toArray, List.set_cons_zero, List.set_cons_succ, i64_w, i32_w]
          rfl
        refine take_ (i := 8) (N := some 38) (v := ?_) (a' := ?_) #[true, true, true, true, true, true, true, true, true, false, false] rfl rfl (by kernel_rfl) (fun _ _ _ h => h) (Or.inl ⟨by rfl, ?_⟩) hHeld ?_ ?_
        rotate_left
        · rintro w' ⟨s0, s1⟩
          go_simp
          with_reducible rfl
        rotate_left
        · simp only [Act.put, List.setIfInBounds_toArray, List.set_cons_zero, List.set_cons_succ, i64_w, i32_w]
          rfl
        refine pure_ (i := 9) (N := some 39) (v := ?_) (a' := ?_) #[true, true, true, true, true, true, true, true, true, true, false] rfl rfl (by kernel_rfl) (fun _ _ _ h => h) (Or.inl ⟨by rfl, ?_⟩) ?_ ?_
        rotate_left
        · intro w'
          go_simp
          with_reducible rfl
        rotate_left
        · simp only [Act.put, List.setIfInBounds_toArray, List.set_cons_zero, List.set_cons_succ, i64_w, i32_w]
          rfl
        refine last_ (i := 10) (N := none) #[true, true, true, true, true, true, true, true, true, true, true] rfl rfl (by kernel_rfl) (by decide) (fun K hK => ?_)
        refine upd_step rfl (.tmp 33) (.tmp 34) (.tmp 39) 66 rfl m1 _ _ rfl rfl rfl HRUN.out ?_
        refine hK.out _ _ ?_
        clear hK K
        refine done_ (by kernel_rfl) ?_
        --S2
        clear hHeld
        have hb2 : ∀ k, k < w1.heap.size → k ≠ m1 → w2.heap[k]? = w1.heap[k]? := fun k hk hne => HG2.out.block k hk (fun e => hne (by injection e))
        have HB2 := Lib.hid hb2
        have X2 : Hid (w2.heap[g]? = some (.cells #[.slice A0 b.ns.length cap0, .map (some m1), .map (some m2)] 69 (0, 0))) := (hb2 g (blk_lt X1.out) (fun e => HNE.out (by rw [e]))).trans X1.out
        have HR2 : Hid (Kd.string.R 9 w2 0 S (.slice A0 b.ns.length cap0) b.ns) := R_q HRn.out (fun t _ cells => HMC.out cells t) hb2
        have HO2 : Hid (OutsAt S w2 f2 b.os) := fun n => (HO.out n).imp id fun ⟨fd, cs, q1, q2, q3⟩ => ⟨fd, cs, q1, q2, M_q q3 (fun t _ cells => HMC.out cells t) hb2⟩
        have HM22 : Hid (VMap 3 ikey w2 m2 n2 f2) := HM2.out.block (hb2 m2 HM2.out.lt HS12.out.2.2.1.symm)
        have d0 := blk_cell X2.out 0
        have HZ2 : Hid (w2.heap.size = w1.heap.size) := hz2
        clear hb2 c0 c1 c2 hlk hz2
        go_wp2_with (at_builtin; refine Held.of ?_)
        --S3
        refine Held.out (Kd.R_append Kd.string (w0 := w2) 0 rfl (.tmp 44) (.tmp 46) 22 9 (.string ⟨#[]⟩) 16 rfl Try.underlying22 (by kernel_rfl) rfl (by decide) (by decide) _ b.ns t [.string t] (fun k => S k ∨ w.heap.size ≤ k) (fun _ => False) rfl rfl rfl (fun _ h => h.elim) (fun k hk => .inr (by have := HW.out; have := HZ2.out; omega)) (Kd.R_mono HR2.out fun _ h => .inl h) (Below.refl _ _) (Nat.zero_le _) (by omega) ?_)
        intro v3 w3 r3 _ g3 _
        obtain ⟨A3, cap3, e3⟩ := Kd.R_slice r3
        obtain ⟨n3, hn3⟩ : ∃ n3, n3 = (b.ns ++ [t]).length := ⟨_, rfl⟩
        rw [← hn3] at e3
        subst e3
        clear hn3
        have HR3 := Lib.hid r3
        have HG3 := Lib.hid g3
        have hne3 : some g ≠ (Value.slice A0 b.ns.length cap0).ownBlock := Kd.R_ne HR2.out X2.out (by decide)
        have HNE3 := Lib.hid hne3
        have X3 : Hid (w3.heap[g]? = some (.cells #[.slice A0 b.ns.length cap0, .map (some m1), .map (some m2)] 69 (0, 0))) := blk_grown X2.out g3 hne3
        have f3 := blk_frozen X3.out 0
        have k3 := blk_cell X3.out 0
        clear r3 g3 hne3 d0
        go_wp2
        go_ret
        --S4
        rw [HE.out]
        have hrow : ∀ q, (Value.slice A0 b.ns.length cap0).ownBlock = some q → ∃ cells, w2.heap[q]? = some (.cells cells 9 (0, 0)) := R_rowed HR2.out
        have hs1 : w1.heap.size ≤ w3.heap.size := by rw [← HZ2.out]; exact HG3.out.size
        refine ⟨rfl, Bk.named (f2 := f2) HB1.out HNM.out hz (by simpa [World.setCell] using hs1) (blk_set X3.out 0 _) HS12.out.1 HS12.out.2.1 HS12.out.2.2.1 HS12.out.2.2.2 (Kd.R_set HR3.out X3.out (by decide) 0 _) ?_ ?_ ?_, ?_⟩
        · exact (HM2'.out.grown HG3.out (fun q hq => let ⟨cells, h⟩ := hrow q hq; ⟨cells, _, h⟩)).set X3.out 0 _
        · exact (HM22.out.grown HG3.out (fun q hq => let ⟨cells, h⟩ := hrow q hq; ⟨cells, _, h⟩)).set X3.out 0 _
        · intro n
          rcases HO2.out n with h | ⟨fd, cs, q1, q2, q3⟩
          · exact .inl h
          · refine .inr ⟨fd, cs, q1, q2, ?_⟩
            have q4 := M_row q3 HG3.out (fun k hk t ht => by
              obtain ⟨cells, h⟩ := hrow k hk
              exact not_cells h (by rintro rfl; revert ht; decide))
            exact M_q q4 (fun t ht => not_cells X3.out (by rintro rfl; revert ht; decide)) (fun k _ hk => Below.heap_setCell _ _ _ _ hk)
        · have h1a : Foot (fun k => S k ∨ k = gp) w1.drew w2 := Foot.of_grown HG2.out (fun k hk => by injection hk with hk; rw [← hk]; exact .inl HS12.out.1)
          have h1 := ((Foot.refl (fun k => S k ∨ k = gp) w1).drew).trans h1a
          have h2 : Foot (fun k => S k ∨ k = gp) w2 w3 := Foot.of_grown HG3.out (fun k hk => .inl (HR2.out.1 k hk))
          exact ((HF.out.trans h1).trans h2).setCell (.inl HB1.out.sg) 0 _
--END WALK
end Go.Proofs.Ytinonkakpgiblaa.Nam
