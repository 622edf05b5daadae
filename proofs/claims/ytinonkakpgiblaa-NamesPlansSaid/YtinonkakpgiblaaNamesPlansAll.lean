/- light: are records few and short? (walk); The reference's Plan: what lies in memory on the way; The reference's Plan (walk); Plan of no book; the plans of both (contracts); NamesPlans (walk). -/
import Derived.Test.YtinonkakpgiblaaNamTold
import Derived.Test.YtinonkakpgiblaaNamTwo
import Derived.Test.YtinonkakpgiblaaNamPlan
import Derived.Test.YtinonkakpgiblaaNamGiven
import Derived.Test.YtinonkakpgiblaaPackRef
import Derived.Test.YtinonkakpgiblaaNamRec
import Derived.Test.YtinonkakpgiblaaNamWith
namespace Go.Proofs.Ytinonkakpgiblaa.Nam
open Go.RowKit Go.Proofs.YtinonkakpgiblaaW.PrintWords Go.Proofs.YtinonkakpgiblaaW.PrintLast Go.Proofs.Ytinonkakpgiblaa.Base Go.Proofs.Ytinonkakpgiblaa.Pack Go.Maps
set_option linter.unusedVariables false
set_option linter.unusedSimpArgs false

set_option maxRecDepth 100000 in
set_option maxHeartbeats 1000000 in
theorem light_any (v : Value) (rs : List (List Int)) (w : World) (h : Rs w v rs) :
    Calls Try.prog 23 #[v] w fun e w' => ((e = .returned (.bool true) ∧ rs.length ≤ 60 ∧ ∀ r ∈ rs, r.length ≤ 1000) ∨ e = .returned (.bool false)) ∧ w' = w := by
  have hlen : ∃ A c, v = .slice A rs.length c ∧ rs.length ≤ c ∧ rs.length ≤ 9223372036854775807 := by
    obtain ⟨A, c, e, h1, h2, _⟩ := h
    exact ⟨A, c, e, h1, h2⟩
  obtain ⟨A, c, rfl, hc, hm⟩ := hlen
  obtain ⟨n, hn⟩ : ∃ n, n = rs.length := ⟨_, rfl⟩
  rw [← hn] at hc h hm ⊢
  have HR := Lib.hid h
  have HN := Lib.hid hn
  clear h hn
  by_cases hl : n ≤ 60
  case neg =>
    have hgt : 60 < n := by omega
    clear hl
    go_enter Try.func23, Try.ntmps23
    go_wp2
    go_ret
    exact ⟨.inr rfl, rfl⟩
  go_enter Try.func23, Try.ntmps23
  go_wp2
  go_loopw [3] (fun i wr => ∃ k : Nat, k ≤ n ∧ i = .int .i64 k ∧ wr = w ∧ Hid (∀ r ∈ rs.take k, r.length ≤ 1000)) (fun i _ => n - (intOf i).toNat)
  case atStart => exact ⟨0, by omega, rfl, rfl, fun r hr => by rw [List.take_zero] at hr; cases hr⟩
  case round =>
    obtain ⟨k, hk, rfl, rfl, HS⟩ := hrel
    by_cases l1 : k < n
    · have hkl : k < rs.length := by rw [← HN.out]; exact l1
      obtain ⟨ad, u, rfl, q, hbs⟩ := rs_get HR.out k hkl
      obtain ⟨hTK, _⟩ := take_at rs [] k hkl
      have HTK := Lib.hid hTK
      obtain ⟨Ar, cr, er, _, hm2⟩ := hbs.len
      subst er
      clear hTK hbs hkl
      generalize rs.getD k [] = r at HTK q hm2
      obtain ⟨nr, hnr⟩ : ∃ nr, nr = r.length := ⟨_, rfl⟩
      rw [← hnr] at q hm2
      have HNR := Lib.hid hnr
      clear hnr
      by_cases l2 : nr ≤ 1000
      · have HS2 : Hid (∀ r ∈ rs.take (k + 1), r.length ≤ 1000) := fun z hz => by
          rw [HTK.out] at hz
          rcases List.mem_append.1 hz with h | h
          · exact HS.out z h
          · rw [List.mem_singleton.1 h, ← HNR.out]; exact l2
        go_wp2
        go_roundw
        case rel => exact ⟨k + 1, by omega, by go_num, trivial, HS2.out⟩
        case measure => simp [intOf]; omega
      · have hgt : 1000 < nr := by omega
        clear l2
        go_wp2
        go_ret
        exact ⟨.inr rfl, rfl⟩
    · have hk2 : k = n := by omega
      have HSE : Hid (∀ r ∈ rs, r.length ≤ 1000) := by
        have h := HS.out
        rw [hk2, HN.out, List.take_length] at h
        exact h
      clear hk2
      go_wp2
      go_ret
      exact ⟨.inl ⟨rfl, by omega, HSE.out⟩, rfl⟩
end Go.Proofs.Ytinonkakpgiblaa.Nam
namespace Go.Proofs.Ytinonkakpgiblaa.Nam
open Go.RowKit Go.Proofs.YtinonkakpgiblaaW.PrintWords Go.Proofs.YtinonkakpgiblaaW.PrintLast Go.Proofs.Ytinonkakpgiblaa.Base Go.Proofs.Ytinonkakpgiblaa.Pack Go.Maps
set_option linter.unusedVariables false
set_option linter.unusedSimpArgs false

/-- A plan under way: the copied book at gc, the records, the numbers. -/
structure Qx (x : Nat) (D : Array Value) (w0 w : World) (gc : Nat) (vn : Value) (ns : List ByteArray) (vo : Value) (rows : List (List Int)) (vi : Value) (ids : List Int) : Prop where
  bx : w.heap[gc]? = some (.cells #[vn, .slice none 0 0] 55 (0, 0))
  nm : Kd.string.R 9 w w0.heap.size (fun _ => True) vn ns
  out : kr.R 46 w w0.heap.size (fun k => True ∧ some k ≠ vi.ownBlock) vo rows
  ids : Ow w0 w vi ids
  gb : w0.heap.size ≤ gc
  dx : w.heap[x]? = some (.cells D 24 (0, 0))
section
variable {x : Nat} {D : Array Value} {w0 w w1 : World} {gc : Nat} {vn v1 vo vi : Value} {ns ns1 : List ByteArray} {rows : List (List Int)} {ids ids1 : List Int}
theorem Qx.below (h : Qx x D w0 w gc vn ns vo rows vi ids) (hb : Below w.heap.size w w1) : Qx x D w0 w1 gc vn ns vo rows vi ids :=
  ⟨(hb.block gc (blk_lt h.bx)).trans h.bx, Kd.R_below h.nm hb, Kd.R_below h.out hb, h.ids.step hb, h.gb, (hb.block x (blk_lt h.dx)).trans h.dx⟩
theorem Qx.bel (h : Qx x D w0 w gc vn ns vo rows vi ids) : Below w0.heap.size w0 w := h.ids.below
theorem Qx.recs (h : Qx x D w0 w gc vn ns vo rows vi ids) : Recs w0 w vo rows := ⟨Kd.R_mono h.out (fun _ _ => trivial), h.bel⟩
theorem Qx.book (h : Qx x D w0 w gc vn ns vo rows vi ids) : RBk (fun k => w0.heap.size ≤ k ∧ k < w.heap.size) w gc ns [] :=
  ⟨fun k hk => hk.2, ⟨h.gb, blk_lt h.bx⟩, vn, _, h.bx, Kd.R_mono (Kd.R_lower (Kd.R_bound h.nm) (Nat.zero_le _)) (fun k hk => ⟨hk.2.1, hk.2.2.1⟩), Kd.R_nil _ _ _ _ _⟩
theorem ow_grown {e : Nat} {row : Option Nat} (h : Ow w0 w vi ids) (g1 : w.grownBy w1 row) (ht : ∀ k, row = some k → ∃ cells, w.heap[k]? = some (.cells cells e (0, 0))) (he : e ≠ 5) (hb : Below w0.heap.size w0 w1) : Ow w0 w1 vi ids :=
  ⟨own_move h.own fun k hk => by
    obtain ⟨cells, hc⟩ := own_typed h.own k hk
    refine g1.block k (blk_lt hc) fun e' => ?_
    obtain ⟨cells2, hc2⟩ := ht k e'.symm
    exact not_cells hc2 he cells hc, hb⟩
theorem ow_set {g t : Nat} {cells : Array Value} (h : Ow w0 w vi ids) (hc : w.heap[g]? = some (.cells cells t (0, 0))) (ht : t ≠ 5) (hg : w0.heap.size ≤ g) (i : Nat) (u : Value) : Ow w0 (w.setCell ⟨g, i, none⟩ u) vi ids :=
  ⟨own_move h.own fun k hk => by
    obtain ⟨cells2, hc2⟩ := own_typed h.own k hk
    exact Below.heap_setCell _ _ _ _ (fun e => by subst e; exact not_cells hc ht _ hc2), h.below.setCell hg _⟩
/-- A name more. -/
theorem Qx.name (h : Qx x D w0 w gc vn ns vo rows vi ids) (r1 : Kd.string.R 9 w1 w0.heap.size (fun _ => True) v1 ns1) (g1 : w.grownBy w1 vn.ownBlock) :
    w1.heap[gc]? = some (.cells #[vn, .slice none 0 0] 55 (0, 0)) ∧ Qx x D w0 (w1.setCell ⟨gc, 0, none⟩ v1) gc v1 ns1 vo rows vi ids := by
  have e1 := blk_grown h.bx g1 (Kd.R_ne h.nm h.bx (by decide))
  have hty := Kd.R_typed h.nm
  have hb : Below w0.heap.size w0 w1 := h.bel.grown g1 h.bel.size (fun q hq => Kd.R_base h.nm q hq)
  refine ⟨e1, blk_set e1 0 v1, Kd.R_set r1 e1 (by decide) 0 v1, ?_, ow_set (ow_grown h.ids g1 hty (by decide) hb) e1 (by decide) h.gb 0 v1, h.gb, ?_⟩
  rotate_left
  · exact (Below.heap_setCell _ _ _ _ (blk_ne h.dx h.bx (by decide))).trans (blk_grown h.dx g1 (Kd.R_ne h.nm h.dx (by decide)))
  refine Kd.R_set (R_row h.out g1 (fun k e t ht => ?_)) e1 (by decide) 0 v1
  obtain ⟨cells, hc⟩ := hty k e
  exact not_cells hc (by intro he; subst he; revert ht; decide)
/-- A record more. -/
theorem Qx.row {rows1 : List (List Int)} (h : Qx x D w0 w gc vn ns vo rows vi ids) (r1 : kr.R 46 w1 w0.heap.size (fun k => True ∧ some k ≠ vi.ownBlock) v1 rows1) (g1 : w.grownBy w1 vo.ownBlock) : Qx x D w0 w1 gc vn ns v1 rows1 vi ids := by
  have hty := Kd.R_typed h.out
  have hb : Below w0.heap.size w0 w1 := h.bel.grown g1 h.bel.size (fun q hq => Kd.R_base h.out q hq)
  refine ⟨blk_grown h.bx g1 (Kd.R_ne h.out h.bx (by decide)), R_row h.nm g1 (fun k e t ht => ?_), r1, ow_grown h.ids g1 hty (by decide) hb, h.gb, blk_grown h.dx g1 (Kd.R_ne h.out h.dx (by decide))⟩
  obtain ⟨cells, hc⟩ := hty k e
  exact not_cells hc (by intro he; subst he; revert ht; decide)
/-- A number more. -/
theorem Qx.id (h : Qx x D w0 w gc vn ns vo rows vi ids) (o1 : Ow w0 w1 v1 ids1) (g1 : w.grownBy w1 vi.ownBlock) (hat : v1.ownBlock = vi.ownBlock ∨ ∃ b, v1.ownBlock = some b ∧ w.heap.size ≤ b) : Qx x D w0 w1 gc vn ns vo rows v1 ids1 := by
  have hty := own_typed h.ids.own
  refine ⟨(g1.block gc (blk_lt h.bx) fun e => ?_).trans h.bx, R_row h.nm g1 (fun k e t ht => ?_), Kd.R_after h.out g1 hat, o1, h.gb, (g1.block x (blk_lt h.dx) fun e => ?_).trans h.dx⟩
  · obtain ⟨cells, hc⟩ := hty gc e.symm
    exact not_cells hc (by decide) _ h.bx
  · obtain ⟨cells, hc⟩ := hty k e
    exact not_cells hc (by intro he; subst he; revert ht; decide)
  · obtain ⟨cells, hc⟩ := hty x e.symm
    exact not_cells hc (by decide) _ h.dx
end
theorem longB_snoc (l : List ByteArray) (s : ByteArray) : longB (l ++ [s]) = (longB l || decide (4000 < s.size)) := by simp [longB]
theorem longB_true {l : List ByteArray} : longB l = true ↔ ∃ s ∈ l, 4000 < s.size := by simp [longB]
theorem fresh_len (ns : List ByteArray) (d : DepV) : (freshN ns d).length ≤ d.deps.length + 1 := by
  have h := allN_len ns d
  unfold freshN
  rw [List.length_drop]
  omega
/-- The names behind j steps. -/
def qN (ns : List ByteArray) (d : DepV) (j : Nat) : List ByteArray := ((d.out :: d.deps).take j).foldl withN ns
theorem qN_zero (ns : List ByteArray) (d : DepV) : qN ns d 0 = ns := rfl
theorem qN_succ (ns : List ByteArray) (d : DepV) {j : Nat} (h : j < d.deps.length + 1) : qN ns d (j + 1) = withN (qN ns d j) ((d.out :: d.deps).getD j ByteArray.empty) := by
  unfold qN
  rw [(take_at (d.out :: d.deps) ByteArray.empty j (by simpa using h)).1, List.foldl_append]
  rfl
theorem qN_all (ns : List ByteArray) (d : DepV) : qN ns d (d.deps.length + 1) = allN ns d := by
  unfold qN allN
  rw [List.take_of_length_le (by simp)]
theorem qN_app (ns : List ByteArray) (d : DepV) (j : Nat) : ∃ m, allN ns d = qN ns d j ++ m := by
  unfold qN allN
  obtain ⟨m, h, _⟩ := foldN_app ((d.out :: d.deps).drop j) (((d.out :: d.deps).take j).foldl withN ns)
  exact ⟨m, by rw [← h, ← List.foldl_append, List.take_append_drop]⟩
theorem qN_num (ns : List ByteArray) (d : DepV) {j : Nat} {s : ByteArray} (h : s ∈ qN ns d j) : numOf (qN ns d j) s = numOf (allN ns d) s := by
  obtain ⟨m, hm⟩ := qN_app ns d j
  rw [hm, numOf_app h]
theorem qN_len (ns : List ByteArray) (d : DepV) (j : Nat) : ns.length ≤ (qN ns d j).length ∧ (qN ns d j).length ≤ ns.length + j := by
  unfold qN
  obtain ⟨m, h, _⟩ := foldN_app ((d.out :: d.deps).take j) ns
  have h2 := foldN_len ((d.out :: d.deps).take j) ns
  have h3 := List.length_take_le j (d.out :: d.deps)
  exact ⟨by rw [h, List.length_append]; omega, by omega⟩
/-- The records behind j steps. -/
def qR (ns : List ByteArray) (d : DepV) (j : Nat) : List (List Int) := ((qN ns d j).drop ns.length).map nameRec
theorem qR_zero (ns : List ByteArray) (d : DepV) : qR ns d 0 = [] := by
  unfold qR
  rw [qN_zero, List.drop_length]
  rfl
theorem qR_old (ns : List ByteArray) (d : DepV) {j : Nat} (h : j < d.deps.length + 1) (hm : (d.out :: d.deps).getD j ByteArray.empty ∈ qN ns d j) : qN ns d (j + 1) = qN ns d j ∧ qR ns d (j + 1) = qR ns d j := by
  have e : qN ns d (j + 1) = qN ns d j := by rw [qN_succ ns d h]; unfold withN; rw [if_pos hm]
  exact ⟨e, by unfold qR; rw [e]⟩
theorem qR_new (ns : List ByteArray) (d : DepV) {j : Nat} (h : j < d.deps.length + 1) (hm : (d.out :: d.deps).getD j ByteArray.empty ∉ qN ns d j) : qN ns d (j + 1) = qN ns d j ++ [(d.out :: d.deps).getD j ByteArray.empty] ∧ qR ns d (j + 1) = qR ns d j ++ [nameRec ((d.out :: d.deps).getD j ByteArray.empty)] := by
  have e : qN ns d (j + 1) = qN ns d j ++ [(d.out :: d.deps).getD j ByteArray.empty] := by rw [qN_succ ns d h]; unfold withN; rw [if_neg hm]
  refine ⟨e, ?_⟩
  unfold qR
  rw [e, List.drop_append_of_le_length (qN_len ns d j).1, List.map_append]
  rfl
theorem qR_len (ns : List ByteArray) (d : DepV) (j : Nat) : (qR ns d j).length ≤ j := by
  unfold qR
  rw [List.length_map, List.length_drop]
  have := qN_len ns d j
  omega
/-- The numbers behind j names. -/
def qI (ns : List ByteArray) (d : DepV) (j : Nat) : List Int := idsB (allN ns d) (d.deps.take j)
theorem qI_succ (ns : List ByteArray) (d : DepV) {j : Nat} (h : j < d.deps.length) : qI ns d (j + 1) = qI ns d j ++ Pack.leBytes ((numOf (allN ns d) (d.deps.getD j ByteArray.empty) : Nat) : Int) 4 := by
  unfold qI idsB
  rw [(take_at d.deps ByteArray.empty j h).1, List.map_append, List.flatten_append]
  simp
theorem qI_len (ns : List ByteArray) (d : DepV) (j : Nat) : (qI ns d j).length ≤ 4 * j := by
  unfold qI
  rw [idsB_length]
  have := List.length_take_le j d.deps
  omega
section
variable {ops : Array Oper} {rest : List Oper} {o : Oper} {a : Act} {Q : Exit → Act → World → Prop}
theorem app_bytes_at {w0 W : World} (hgd : o.guard = none) (s x : Operand) (t : TypeId)
    (ho : o.op = .call { callee := .builtin .append, args := #[s, x], argTypes := #[t, t] })
    (ht : Try.prog.underlying t = some (.slice 5))
    (v u : Value) (xs ys : List Int) (hs : a.eval s = v) (hx : a.eval x = u)
    (HO : Ow w0 W v xs) (HR : Bs W u ys) (hl : xs.length + ys.length ≤ 140737488355328)
    (h : ∀ v1 w1, Ow w0 w1 v1 (xs ++ ys) → W.grownBy w1 v.ownBlock → (v1.ownBlock = v.ownBlock ∨ ∃ b, v1.ownBlock = some b ∧ W.heap.size ≤ b) → wpList Try.prog ops Q rest (a.put o.dst v1) w1) :
    Held (wpList Try.prog ops Q (o :: rest) a W) := by
  obtain ⟨A, c, rfl, hc, hr⟩ := HR
  refine Held.out (print_append_row w0.heap.size hgd s x t 5 .u8 1 ho ht info_u8 (by decide) v xs ys A _ c hs hx HO.own hr HO.below HO.below.size (by omega) ?_)
  intro v1 w1 h1 h2 h3 h4
  exact h v1 w1 ⟨h1, h2⟩ h3 h4
theorem app_rec_ok {w0 w1 W : World} (ok : Nat → Prop) (hgd : o.guard = none) (s x : Operand) (t : TypeId)
    (ho : o.op = .call { callee := .builtin .append, args := #[s, x], argTypes := #[t, t] })
    (ht : Try.prog.underlying t = some (.slice 46))
    (v u : Value) (rs : List (List Int)) (p : List Int) (hs : a.eval s = v) (hx : a.eval x = .slice (some ⟨W.heap.size, 0, none⟩) 1 1)
    (HO : kr.R 46 W w0.heap.size ok v rs) (HB : Below w0.heap.size w0 W) (HP : Ow w1 W u p) (h01 : w0.heap.size ≤ w1.heap.size) (hok : ∀ k, w1.heap.size ≤ k → ok k) (hl : rs.length + 1 ≤ 5000000000)
    (h : ∀ v1 w2, kr.R 46 w2 w0.heap.size ok v1 (rs ++ [p]) → W.grownBy w2 v.ownBlock → wpList Try.prog ops Q rest (a.put o.dst v1) w2) :
    Held (wpList Try.prog ops Q (o :: rest) a (W.alloc (.cells #[u] 46))) := by
  have hne : ∀ k, u.ownBlock = some k → ok k ∧ some k ≠ v.ownBlock := by
    intro k hk
    refine ⟨hok k (own_base HP.own k hk), fun he => ?_⟩
    obtain ⟨inner, hov⟩ := Kd.R_own HO
    rcases own_type_ne HP.own hov (by decide) with h0 | h0
    · rw [h0] at hk; cases hk
    · exact h0 (hk.trans he)
  refine Held.out (Kd.R_append (P := Try.prog) kr (w0 := w0) w0.heap.size hgd s x t 46 (.slice none 0 0) 24 ho ht info_bs rfl (by decide) (by decide) v rs p [u] ok (fun k => ok k ∧ some k ≠ v.ownBlock) hs hx ⟨u, rfl, Kd.R_lower (kd_int_R HP.own hne) h01⟩ (fun k hk => hk) (fun k hk => hok k (Nat.le_trans HP.below.size hk)) HO HB HB.size (by omega) ?_)
  intro v1 w2 h1 h2 h3 _
  exact h v1 w2 h1 h3
end
end Go.Proofs.Ytinonkakpgiblaa.Nam
namespace Go.Proofs.Ytinonkakpgiblaa.Nam
open Go.RowKit Go.Proofs.YtinonkakpgiblaaW.PrintWords Go.Proofs.YtinonkakpgiblaaW.PrintLast Go.Proofs.Ytinonkakpgiblaa.Base Go.Proofs.Ytinonkakpgiblaa.Pack Go.Maps
set_option linter.unusedVariables false
set_option linter.unusedSimpArgs false

set_option maxRecDepth 100000 in
set_option maxHeartbeats 8000000 in
theorem rplan_any (U : Nat → Prop) (g : Nat) (ns : List ByteArray) (L : List DepV) (vd : Value) (d : DepV) (w : World) (h : RBk U w g ns L) (hd : DepIs w vd d) (hf : FitD d) (hbr : BriefD d) (hn : ns.length ≤ 1000000) :
    Calls Try.prog 27 #[.pointer (some ⟨g, 0, none⟩), vd] w fun e w' => ∃ vo, e = .returned (.tuple #[vo, .int .i64 (planE d)]) ∧ Recs w w' vo (planL ns d) := by
  obtain ⟨vdd, rfl, hs⟩ := hd
  obtain ⟨Ad, cd, rfl, hcd, hmd⟩ := ss_len hs
  obtain ⟨nd, hnd⟩ : ∃ nd, nd = d.deps.length := ⟨_, rfl⟩
  rw [← hnd] at hcd hmd hs ⊢
  have hfew : nd ≤ 50 := by rw [hnd]; exact hbr.few
  have hos : d.out.size ≤ 5000 := hbr.out
  have HND := Lib.hid hnd
  have HBR := Lib.hid hbr
  have ht0 := hf.t0
  have ht1 := hf.t1
  obtain ⟨x, hx⟩ : ∃ x, w.heap.size = x := ⟨_, rfl⟩
  obtain ⟨Wb, hWb⟩ : ∃ Wb, Wb = w.alloc (.cells #[.string d.out, .int .i64 d.time, .slice Ad nd cd] 24) := ⟨_, rfl⟩
  have hb0 : Below w.heap.size w Wb := by rw [hWb]; exact below_alloc (Below.refl _ _) _
  have hXd : Wb.heap[x]? = some (.cells #[.string d.out, .int .i64 d.time, .slice Ad nd cd] 24 (0, 0)) := by rw [hWb, ← hx]; exact blk_new w _
  have XD := Lib.hid hXd
  have HB0 := Lib.hid hb0
  have HRB := Lib.hid (h.below hb0)
  have HSS := Lib.hid hs
  have HX := Lib.hid hx
  have HWB := Lib.hid hWb
  have d0 := blk_cell hXd 0
  have d1 := blk_cell hXd 1
  have d2 := blk_cell hXd 2
  clear h hs hf hbr hb0 hXd hWb hnd
  go_enter Try.func27, Try.ntmps27
  go_upto_region 1 with (fail)
  rw [← HWB.out]
  try rw [hx]
  clear hx
  --S1
  by_cases t1 : d.time < 0
  · have HE : Hid (planE d = 1) := planE_bad (.inl t1)
    have hd1 : decide (d.time < 0) = true := decide_eq_true t1
    go_wp2
    go_ret2
    rw [HE.out, planL_err (by rw [HE.out]; decide)]
    exact ⟨_, rfl, Recs.nil HB0.out⟩
  have hd1 : decide (d.time < 0) = false := decide_eq_false t1
  by_cases t2 : 4611686018427387904 ≤ d.time
  · have HE : Hid (planE d = 1) := planE_bad (.inr t2)
    have hd2 : decide (4611686018427387904 ≤ d.time) = true := decide_eq_true t2
    go_wp2
    go_ret2
    rw [HE.out, planL_err (by rw [HE.out]; decide)]
    exact ⟨_, rfl, Recs.nil HB0.out⟩
  have hd2 : decide (4611686018427387904 ≤ d.time) = false := decide_eq_false t2
  have HBT : Hid (¬ badTime d) := by
    show ¬ badTime d
    unfold badTime
    omega
  have hd3 : decide ((1000 : Int) < (nd : Int)) = false := decide_eq_false (by omega)
  by_cases t3 : 4000 < d.out.size
  · --S2
    have HE : Hid (planE d = 3) := planE_long HBT.out (.inr (.inl t3))
    have hd4 : decide ((4000 : Int) < (d.out.size : Int)) = true := decide_eq_true (by omega)
    go_wp2
    go_loopw [6, 7] (fun b i wr => ∃ k : Nat, k ≤ nd ∧ i = .int .i64 k ∧ b = .bool true ∧ wr = Wb) (fun _ i _ => nd - (intOf i).toNat)
    case atStart => exact ⟨0, by omega, rfl, rfl, rfl⟩
    case round =>
      obtain ⟨k, hk, rfl, rfl, rfl⟩ := hrel
      have d2 := blk_cell XD.out 2
      by_cases l1 : k < nd
      · go_wp2
        go_roundw
        case rel => exact ⟨k + 1, by omega, by go_num, rfl, trivial⟩
        case measure => simp [intOf]; omega
      · go_wp2
        go_ret2
        rw [HE.out, planL_err (by rw [HE.out]; decide)]
        exact ⟨_, rfl, Recs.nil HB0.out⟩
  have hd4 : decide ((4000 : Int) < (d.out.size : Int)) = false := decide_eq_false (by omega)
  go_wp2
  clear d0 d1 d2 hd1 hd2 hd4 hd3
  --S3
  go_loopw [6, 7] (fun b i wr => ∃ k : Nat, k ≤ nd ∧ i = .int .i64 k ∧ b = .bool (longB (d.deps.take k)) ∧ wr = Wb) (fun _ i _ => nd - (intOf i).toNat)
  case atStart => exact ⟨0, by omega, rfl, by rw [List.take_zero]; rfl, rfl⟩
  case round =>
    obtain ⟨k, hk, rfl, rfl, rfl⟩ := hrel
    have d2 := blk_cell XD.out 2
    obtain ⟨bb, hbb⟩ : ∃ bb, longB (d.deps.take k) = bb := ⟨_, rfl⟩
    rw [hbb]
    have HBB := Lib.hid hbb
    clear hbb
    by_cases l1 : k < nd
    · have hkl : k < d.deps.length := by rw [← HND.out]; exact l1
      have HTK := Lib.hid (take_at d.deps ByteArray.empty k hkl)
      cases bb with
      | true =>
        have HE2 : Hid (longB (d.deps.take (k + 1)) = true) := by
          show _ = _
          rw [HTK.out.1, longB_snoc, HBB.out]
          rfl
        clear hkl
        go_wp2
        go_roundw
        case rel => exact ⟨k + 1, by omega, by go_num, by rw [HE2.out], trivial⟩
        case measure => simp [intOf]; omega
      | false =>
        obtain ⟨Ax, cx, ex, _, _, hcel⟩ := HSS.out.below HB0.out
        injection ex with ex1 ex2 ex3
        subst ex1
        obtain ⟨ad, ead, hcell⟩ := hcel (by omega)
        subst ead
        have q := hcell k hkl
        have hsz : (d.deps.getD k ByteArray.empty).size ≤ 5000 := HBR.out.deps _ HTK.out.2
        clear hcel hcell ex2 ex3 hkl
        generalize d.deps.getD k ByteArray.empty = sk at HTK q hsz
        by_cases l2 : 4000 < sk.size
        · have HE2 : Hid (longB (d.deps.take (k + 1)) = true) := by
            show _ = _
            rw [HTK.out.1, longB_snoc, decide_eq_true l2, Bool.or_true]
          have hd5 : decide ((4000 : Int) < (sk.size : Int)) = true := decide_eq_true (by omega)
          go_wp2
          go_roundw
          case rel => exact ⟨k + 1, by omega, by go_num, by rw [HE2.out], trivial⟩
          case measure => simp [intOf]; omega
        · have HE2 : Hid (longB (d.deps.take (k + 1)) = false) := by
            show _ = _
            rw [HTK.out.1, longB_snoc, decide_eq_false l2, Bool.or_false, HBB.out]
          have hd5 : decide ((4000 : Int) < (sk.size : Int)) = false := decide_eq_false (by omega)
          go_wp2
          go_roundw
          case rel => exact ⟨k + 1, by omega, by go_num, by rw [HE2.out], trivial⟩
          case measure => simp [intOf]; omega
    · have hk2 : k = nd := by omega
      have HBE : Hid (longB d.deps = bb) := by
        have h := HBB.out
        rw [hk2, HND.out, List.take_length] at h
        exact h
      clear hk2 HBB
      cases bb with
      | true =>
        have HE : Hid (planE d = 3) := planE_long HBT.out (.inr (.inr (longB_true.1 HBE.out)))
        go_wp2
        go_ret2
        rw [HE.out, planL_err (by rw [HE.out]; decide)]
        exact ⟨_, rfl, Recs.nil HB0.out⟩
      | false =>
        have HLG : Hid (¬ long d) := by
          rintro (h | h | h)
          · rw [← HND.out] at h; omega
          · exact t3 h
          · rw [longB_true.2 h] at HBE; exact absurd HBE.out (by decide)
        have HE : Hid (planE d = 0) := planE_ok HBT.out HLG.out
        have HSM : Hid (∀ s ∈ d.out :: d.deps, s.size ≤ 4000) := fun s hs => by
          refine Classical.byContradiction fun hgt => HLG.out ?_
          rcases List.mem_cons.1 hs with rfl | h
          · exact .inr (.inl (by omega))
          · exact .inr (.inr ⟨s, h, by omega⟩)
        --S4
        obtain ⟨Wb, hWb2⟩ : ∃ Wb, Wb = wr := ⟨_, rfl⟩
        subst hWb2
        obtain ⟨_, _, vn, vl, hg, hN, _⟩ := HRB.out
        obtain ⟨An, cn, en⟩ := Kd.R_slice hN
        obtain ⟨nn, hnn⟩ : ∃ nn, nn = ns.length := ⟨_, rfl⟩
        rw [← hnn] at en hn
        subst en
        have HNN := Lib.hid hnn
        have g0 := pw_cell_below (below_alloc (Below.refl Wb.heap.size Wb) (.cells #[] 9)) (blk_cell hg 0)
        have HSN := Lib.hid (r_ss hN)
        have HE0 : Hid (Kd.string.R 9 (Wb.alloc (.cells #[] 9)) w.heap.size (fun _ => True) (.slice (some ⟨Wb.heap.size, 0, none⟩) 0 0) []) := str_nil Wb w.heap.size HB0.out.size _ trivial
        have HZB : Hid (w.heap.size ≤ Wb.heap.size) := HB0.out.size
        clear hg hN hnn
        go_wp2_with (at_builtin; refine Held.of ?_)
        clear d2 l1 hk
        --S5
        refine Held.out (Kd.R_append_row Value.string ByteArray.empty (h1 := fun _ => rfl) (w0 := w) w.heap.size rfl (.tmp 52) (.tmp 56) 22 9 (.string ⟨#[]⟩) 16 rfl Try.underlying22 (by kernel_rfl) rfl (by decide) (.slice (some ⟨Wb.heap.size, 0, none⟩) 0 0) [] ns An nn cn (fun _ => True) rfl rfl (fun _ _ => trivial) HE0.out ((ss_C HSN.out) |> fun h => Kd.C_below h (below_alloc (Below.refl _ _) _)) (below_alloc HB0.out _) (Nat.le_trans HB0.out.size (below_alloc (Below.refl Wb.heap.size Wb) _).size) (by simp only [List.length_nil]; omega) ?_)
        intro va wa ra ba ga _
        rw [List.nil_append] at ra
        obtain ⟨Aa, ca, ea⟩ := Kd.R_slice ra
        rw [← HNN.out] at ea
        subst ea
        have hbw : Below Wb.heap.size Wb wa := pw_below_grown (below_alloc (Below.refl _ _) _) _ (below_alloc (Below.refl Wb.heap.size Wb) _).size ga (fun k hk => (show Wb.heap.size = k by simpa [Value.ownBlock] using hk) ▸ Nat.le_refl _)
        obtain ⟨gc, hgc⟩ : ∃ gc, wa.heap.size = gc := ⟨_, rfl⟩
        obtain ⟨wc, hwc⟩ : ∃ wc, wc = wa.alloc (.cells #[.slice Aa nn ca, .slice none 0 0] 55) := ⟨_, rfl⟩
        have hb9 : Below wa.heap.size wa wc := by rw [hwc]; exact below_alloc (Below.refl _ _) _
        have QX0 : Hid (Qx x #[.string d.out, .int .i64 d.time, .slice Ad nd cd] w wc gc (.slice Aa nn ca) (qN ns d 0) (.slice none 0 0) (qR ns d 0) (.slice none 0 0) (qI ns d 0)) := by
          show Qx _ _ _ _ _ _ _ _ _ _ _
          rw [qR_zero, qN_zero]
          have hbb : Below w.heap.size w wc := ba.trans (hb9.mono ba.size)
          refine ⟨by rw [hwc, ← hgc]; exact blk_new wa _, Kd.R_below ra hb9, Kd.R_nil _ _ _ _ _, Ow.nil hbb, by rw [← hgc]; exact ba.size, ?_⟩
          exact (hb9.block x (Nat.lt_of_lt_of_le (blk_lt XD.out) hbw.size)).trans ((hbw.block x (blk_lt XD.out)).trans XD.out)
        have HWC := Lib.hid hwc
        clear ra ba ga hbw hb9 hwc g0
        go_upto_region 12 with (fail)
        rw [← HWC.out]
        try rw [hgc]
        clear hgc
        go_wp2
        --S6
        go_loopw [8, 10, 11] (fun o v i wr => ∃ (j : Nat) (vn : Value), j ≤ nd + 1 ∧ i = .int .i64 ((j : Int) - 1) ∧ Hid (Qx x #[.string d.out, .int .i64 d.time, .slice Ad nd cd] w wr gc vn (qN ns d j) o (qR ns d j) v (qI ns d (j - 1)))) (fun _ _ i _ => nd + 1 - (intOf i + 1).toNat)
        case atStart => exact ⟨0, _, by omega, rfl, QX0.out⟩
        case round =>
          obtain ⟨j, vnj, hj, rfl, HQ⟩ := hrel
          obtain ⟨Aj, cj, ej⟩ := Kd.R_slice HQ.out.nm
          obtain ⟨nj, hnj⟩ : ∃ nj, nj = (qN ns d j).length := ⟨_, rfl⟩
          rw [← hnj] at ej
          subst ej
          have hnj2 : nj ≤ 1000100 := by have h1 := qN_len ns d j; rw [← hnj] at h1; rw [HNN.out] at hn; omega
          clear hnj
          obtain ⟨Ao, co, eo⟩ := Kd.R_slice HQ.out.out
          obtain ⟨no, hno⟩ : ∃ no, no = (qR ns d j).length := ⟨_, rfl⟩
          rw [← hno] at eo
          have hno2 : no ≤ 51 := by have h1 := qR_len ns d j; rw [← hno] at h1; omega
          clear hno
          subst eo
          obtain ⟨Ai, ni, ci, ei, hni⟩ := HQ.out.ids.slice
          subst ei
          have hni2 : ni ≤ 200 := by rw [hni]; have := qI_len ns d (j - 1); omega
          clear hni
          have d0 := blk_cell HQ.out.dx 0
          have d1 := blk_cell HQ.out.dx 1
          have d2 := blk_cell HQ.out.dx 2
          --S7
          cases j with
          | zero =>
            have hmem := HSM.out d.out (by simp)
            have HOLD : Hid (d.out ∈ qN ns d 0 → qN ns d 1 = qN ns d 0 ∧ qR ns d 1 = qR ns d 0) := fun h => qR_old ns d (j := 0) (by omega) h
            have HNEW : Hid (d.out ∉ qN ns d 0 → qN ns d 1 = qN ns d 0 ++ [d.out] ∧ qR ns d 1 = qR ns d 0 ++ [nameRec d.out]) := fun h => qR_new ns d (j := 0) (by omega) h
            have hi0 : (((0 : Nat) : Int) - 1) = -1 := rfl
            rw [hi0]
            have hd7 : decide ((-1 : Int) < (nd : Int)) = true := decide_eq_true (by omega)
            go_wp2_with fail
            --S8
            refine (at_any _ gc _ [] d.out _ HQ.out.book).mono ?_
            rintro e wz ⟨⟨r, rfl, hr1, hr2⟩, rfl⟩
            by_cases hm : d.out ∈ qN ns d 0
            · obtain ⟨hr0, _⟩ := hr1 hm
              have HOD := Lib.hid (HOLD.out hm)
              have hd8 : decide (r < 0) = false := decide_eq_false (by omega)
              have HQ7 : Hid (Qx x #[.string d.out, .int .i64 d.time, .slice Ad nd cd] w wz gc (.slice Aj nj cj) (qN ns d 1) (.slice Ao no co) (qR ns d 1) (.slice Ai ni ci) (qI ns d 0)) := by
                show Qx _ _ _ _ _ _ _ _ _ _ _
                rw [HOD.out.1, HOD.out.2]
                exact HQ.out
              clear hr1 hr2 hm
              go_wp2
              go_roundw
              case rel => exact ⟨1, _, by omega, by rfl, HQ7.out⟩
              case measure => simp [intOf]
            · have hr : r = -1 := hr2 hm
              subst hr
              clear hr1 hr2
              have HNW := Lib.hid (HNEW.out hm)
              have hd6 : decide ((-1 : Int) < 0) = true := rfl
              have b0 := blk_cell HQ.out.bx 0
              go_wp2_with (at_builtin; refine Held.of ?_)
              refine Held.out (Kd.R_append Kd.string (w0 := w) w.heap.size rfl (.tmp 84) (.tmp 86) 22 9 (.string ⟨#[]⟩) 16 rfl Try.underlying22 (by kernel_rfl) rfl (by decide) (by decide) _ (qN ns d (0)) d.out [.string d.out] (fun _ => True) (fun _ => False) rfl rfl rfl (fun _ h => h.elim) (fun _ _ => trivial) HQ.out.nm HQ.out.bel HQ.out.bel.size (by have := qN_len ns d (0); rw [HNN.out] at hn; omega) ?_)
              intro v4 w4 r4 _ g4 _
              obtain ⟨A4, c4, e4⟩ := Kd.R_slice r4
              obtain ⟨n4, hn4⟩ : ∃ n4, n4 = (qN ns d (0) ++ [d.out]).length := ⟨_, rfl⟩
              rw [← hn4] at e4
              subst e4
              clear hn4
              obtain ⟨e7, x7⟩ := HQ.out.name r4 g4
              have Q4 := Lib.hid x7
              have f4 := blk_frozen e7 0
              have k4 := blk_cell e7 0
              clear r4 g4 e7 x7 b0
              go_wp2_with fail
              refine (reftext_any d.out _ (by omega)).mono ?_
              rintro e w5 ⟨v5, rfl, o5⟩
              obtain ⟨A5, n5, c5, rfl, hn5⟩ := o5.slice
              have Q5 := Lib.hid (Q4.out.below o5.below)
              have O5 := Lib.hid o5
              have HTL : Hid ((textBytes d.out).length ≤ 4002) := by show _ ≤ _; rw [textBytes_length]; omega
              clear o5 hn5 f4 k4
              have hE1 := Ow.lit (Below.refl w5.heap.size w5) [1] (by simp)
              have HE1 := Lib.hid hE1
              clear hE1
              go_wp2_with (at_builtin; refine Held.of ?_)
              refine app_bytes rfl (.tmp 96) (.tmp 97) 46 rfl Try.underlying46 _ _ [1] (textBytes d.out) rfl rfl HE1.out (O5.out.bs.alloc _) (by have := HTL.out; simp only [List.length_cons, List.length_nil]; omega) ?_
              intro v6 w6 o6 _
              obtain ⟨A6, n6, c6, rfl, hn6⟩ := o6.slice
              have Q6 := Lib.hid (Q5.out.below o6.below)
              have O6 : Hid (Ow w5 w6 (.slice A6 n6 c6) (nameRec d.out)) := o6
              clear o6 hn6 HE1
              go_wp2_with (at_builtin; refine Held.of ?_)
              refine app_rec_ok (w0 := w) (fun k => True ∧ some k ≠ (Value.slice Ai ni ci).ownBlock) rfl (.tmp 95) (.tmp 99) 31 rfl Try.underlying31 _ _ (qR ns d (0)) (nameRec d.out) rfl rfl Q6.out.out Q6.out.bel O6.out Q5.out.bel.size ?_ (by have := qR_len ns d (0); omega) ?_
              · intro k hk
                refine ⟨trivial, fun e => ?_⟩
                obtain ⟨cells, hc⟩ := own_typed Q5.out.ids.own k e.symm
                have := blk_lt hc
                omega
              intro v7 w7 r7 g7
              obtain ⟨A7, c7, e7⟩ := Kd.R_slice r7
              obtain ⟨n7, hn7⟩ : ∃ n7, n7 = (qR ns d (0) ++ [nameRec d.out]).length := ⟨_, rfl⟩
              rw [← hn7] at e7
              subst e7
              clear hn7
              have HQ7 : Hid (Qx x #[.string d.out, .int .i64 d.time, .slice Ad nd cd] w w7 gc (.slice A4 n4 c4) (qN ns d (1)) (.slice A7 n7 c7) (qR ns d (1)) (.slice Ai ni ci) (qI ns d (0 - 1))) := by
                show Qx _ _ _ _ _ _ _ _ _ _ _
                rw [HNW.out.1, HNW.out.2]
                exact Q6.out.row r7 g7
              clear r7 g7 Q4 Q5 Q6 O5 O6
              go_wp2
              go_roundw
              case rel => exact ⟨1, _, by omega, by rfl, HQ7.out⟩
              case measure => simp [intOf]
          | succ j =>
            have hi0 : ((((j + 1 : Nat)) : Int) - 1) = (j : Int) := by push_cast; omega
            rw [hi0]
            clear hi0
            by_cases l1 : j < nd
            · --S9
              have hjl : j < d.deps.length := by rw [← HND.out]; omega
              obtain ⟨Ax, cx, ex, _, _, hcel⟩ := HSS.out.below HQ.out.bel
              injection ex with ex1 ex2 ex3
              subst ex1
              obtain ⟨ad, ead, hcell⟩ := hcel (by omega)
              subst ead
              have q := hcell j hjl
              have HQI := Lib.hid (qI_succ ns d hjl)
              have hdj : (d.out :: d.deps).getD (j + 1) ByteArray.empty = d.deps.getD j ByteArray.empty := by simp [List.getD_cons_succ]
              have hmem := HSM.out (d.deps.getD j ByteArray.empty) (List.mem_cons_of_mem _ (take_at d.deps ByteArray.empty j hjl).2)
              have HOLD := Lib.hid (fun h => qR_old ns d (j := j + 1) (by omega) h)
              have HNEW := Lib.hid (fun h => qR_new ns d (j := j + 1) (by omega) h)
              have HWI : Hid ((d.deps.getD j ByteArray.empty) ∈ qN ns d (j + 2)) := by
                show _ ∈ _
                rw [qN_succ ns d (by omega), hdj]
                exact withN_mem _ _
              have HNU := Lib.hid (qN_num ns d HWI.out)
              have HNL := Lib.hid (qN_len ns d (j + 2))
              rw [hdj] at HOLD HNEW
              clear hcel hcell ex2 ex3 hjl hdj
              generalize d.deps.getD j ByteArray.empty = s at q HQI hmem HOLD HNEW HWI HNU
              have HQ0 : Hid (Qx x #[.string d.out, .int .i64 d.time, .slice (some ad) nd cd] w wr gc (.slice Aj nj cj) (qN ns d (j + 1)) (.slice Ao no co) (qR ns d (j + 1)) (.slice Ai ni ci) (qI ns d j)) := HQ.out
              clear HQ
              have HQ := HQ0
              clear HQ0
              go_wp2_with fail
              refine (at_any _ gc _ [] s _ HQ.out.book).mono ?_
              rintro e wz ⟨⟨r, rfl, hr1, hr2⟩, rfl⟩
              by_cases hm : s ∈ qN ns d (j + 1)
              · obtain ⟨hr0, _⟩ := hr1 hm
                have HOD := Lib.hid (HOLD.out hm)
                have hd8 : decide (r < 0) = false := decide_eq_false (by omega)
                have HQ7 : Hid (Qx x #[.string d.out, .int .i64 d.time, .slice (some ad) nd cd] w wz gc (.slice Aj nj cj) (qN ns d (j + 2)) (.slice Ao no co) (qR ns d (j + 2)) (.slice Ai ni ci) (qI ns d j)) := by
                  show Qx _ _ _ _ _ _ _ _ _ _ _
                  rw [HOD.out.1, HOD.out.2]
                  exact HQ.out
                clear hr1 hr2 hm
                go_wp2_with fail
                refine (at_any _ gc _ [] s _ HQ7.out.book).mono ?_
                rintro e wz ⟨⟨r, rfl, hr1, _⟩, rfl⟩
                obtain ⟨hr0, hrq⟩ := hr1 HWI.out
                have hr : r = (numOf (qN ns d (j + 2)) s : Nat) := hrq
                clear hrq
                rw [HNU.out] at hr
                obtain ⟨y, hy⟩ : ∃ y, y = numOf (allN ns d) s := ⟨_, rfl⟩
                have hy2 : y < 1000200 := by
                  have h1 := (numOf_lt HWI.out).1
                  have h2 := HNL.out
                  rw [HNU.out, ← hy] at h1
                  rw [HNN.out] at hn
                  omega
                rw [← hy] at hr HQI
                subst hr
                clear hy hr0 hr1
                go_wp2_with fail
                --SN
                refine (number_any (y : Int) 4 _ (by omega) (by omega) (by omega)).mono ?_
                rintro e w8 ⟨v8, rfl, o8⟩
                obtain ⟨A8, n8, c8, rfl, hn8⟩ := o8.slice
                have Q8 := Lib.hid (HQ7.out.below o8.below)
                have O8 := Lib.hid o8
                clear o8 hn8
                --SN1
                go_wp2_with (at_builtin; refine Held.of ?_)
                --SN2
                refine app_bytes_at rfl (.tmp 103) (.tmp 108) 46 rfl Try.underlying46 _ _ (qI ns d j) (Pack.leBytes (y : Int) 4) rfl rfl Q8.out.ids O8.out.bs (by rw [leBytes_length]; have := qI_len ns d j; omega) ?_
                intro v9 w9 o9 g9 hat
                rw [← HQI.out] at o9
                obtain ⟨A9, n9, c9, rfl, hn9⟩ := o9.slice
                have HQ9 := Lib.hid (Q8.out.id o9 g9 hat)
                clear o9 g9 hat hn9 Q8 O8
                --SN3
                go_wp2
                --SN4
                go_roundw
                case rel => exact ⟨j + 2, _, by omega, by show Value.int .i64 _ = Value.int .i64 _; congr 1; push_cast; omega, HQ9.out⟩
                case measure => simp [intOf]; omega
              · have hr : r = -1 := hr2 hm
                subst hr
                clear hr1 hr2
                have HNW := Lib.hid (HNEW.out hm)
                have hd6 : decide ((-1 : Int) < 0) = true := rfl
                have b0 := blk_cell HQ.out.bx 0
                go_wp2_with (at_builtin; refine Held.of ?_)
                refine Held.out (Kd.R_append Kd.string (w0 := w) w.heap.size rfl (.tmp 84) (.tmp 86) 22 9 (.string ⟨#[]⟩) 16 rfl Try.underlying22 (by kernel_rfl) rfl (by decide) (by decide) _ (qN ns d (j + 1)) s [.string s] (fun _ => True) (fun _ => False) rfl rfl rfl (fun _ h => h.elim) (fun _ _ => trivial) HQ.out.nm HQ.out.bel HQ.out.bel.size (by have := qN_len ns d (j + 1); rw [HNN.out] at hn; omega) ?_)
                intro v4 w4 r4 _ g4 _
                obtain ⟨A4, c4, e4⟩ := Kd.R_slice r4
                obtain ⟨n4, hn4⟩ : ∃ n4, n4 = (qN ns d (j + 1) ++ [s]).length := ⟨_, rfl⟩
                rw [← hn4] at e4
                subst e4
                clear hn4
                obtain ⟨e7, x7⟩ := HQ.out.name r4 g4
                have Q4 := Lib.hid x7
                have f4 := blk_frozen e7 0
                have k4 := blk_cell e7 0
                clear r4 g4 e7 x7 b0
                go_wp2_with fail
                refine (reftext_any s _ (by omega)).mono ?_
                rintro e w5 ⟨v5, rfl, o5⟩
                obtain ⟨A5, n5, c5, rfl, hn5⟩ := o5.slice
                have Q5 := Lib.hid (Q4.out.below o5.below)
                have O5 := Lib.hid o5
                have HTL : Hid ((textBytes s).length ≤ 4002) := by show _ ≤ _; rw [textBytes_length]; omega
                clear o5 hn5 f4 k4
                have hE1 := Ow.lit (Below.refl w5.heap.size w5) [1] (by simp)
                have HE1 := Lib.hid hE1
                clear hE1
                go_wp2_with (at_builtin; refine Held.of ?_)
                refine app_bytes rfl (.tmp 96) (.tmp 97) 46 rfl Try.underlying46 _ _ [1] (textBytes s) rfl rfl HE1.out (O5.out.bs.alloc _) (by have := HTL.out; simp only [List.length_cons, List.length_nil]; omega) ?_
                intro v6 w6 o6 _
                obtain ⟨A6, n6, c6, rfl, hn6⟩ := o6.slice
                have Q6 := Lib.hid (Q5.out.below o6.below)
                have O6 : Hid (Ow w5 w6 (.slice A6 n6 c6) (nameRec s)) := o6
                clear o6 hn6 HE1
                go_wp2_with (at_builtin; refine Held.of ?_)
                refine app_rec_ok (w0 := w) (fun k => True ∧ some k ≠ (Value.slice Ai ni ci).ownBlock) rfl (.tmp 95) (.tmp 99) 31 rfl Try.underlying31 _ _ (qR ns d (j + 1)) (nameRec s) rfl rfl Q6.out.out Q6.out.bel O6.out Q5.out.bel.size ?_ (by have := qR_len ns d (j + 1); omega) ?_
                · intro k hk
                  refine ⟨trivial, fun e => ?_⟩
                  obtain ⟨cells, hc⟩ := own_typed Q5.out.ids.own k e.symm
                  have := blk_lt hc
                  omega
                intro v7 w7 r7 g7
                obtain ⟨A7, c7, e7⟩ := Kd.R_slice r7
                obtain ⟨n7, hn7⟩ : ∃ n7, n7 = (qR ns d (j + 1) ++ [nameRec s]).length := ⟨_, rfl⟩
                rw [← hn7] at e7
                subst e7
                clear hn7
                have HQ7 : Hid (Qx x #[.string d.out, .int .i64 d.time, .slice (some ad) nd cd] w w7 gc (.slice A4 n4 c4) (qN ns d (j + 2)) (.slice A7 n7 c7) (qR ns d (j + 2)) (.slice Ai ni ci) (qI ns d j)) := by
                  show Qx _ _ _ _ _ _ _ _ _ _ _
                  rw [HNW.out.1, HNW.out.2]
                  exact Q6.out.row r7 g7
                clear r7 g7 Q4 Q5 Q6 O5 O6
                go_wp2_with fail
                refine (at_any _ gc _ [] s _ HQ7.out.book).mono ?_
                rintro e wz ⟨⟨r, rfl, hr1, _⟩, rfl⟩
                obtain ⟨hr0, hrq⟩ := hr1 HWI.out
                have hr : r = (numOf (qN ns d (j + 2)) s : Nat) := hrq
                clear hrq
                rw [HNU.out] at hr
                obtain ⟨y, hy⟩ : ∃ y, y = numOf (allN ns d) s := ⟨_, rfl⟩
                have hy2 : y < 1000200 := by
                  have h1 := (numOf_lt HWI.out).1
                  have h2 := HNL.out
                  rw [HNU.out, ← hy] at h1
                  rw [HNN.out] at hn
                  omega
                rw [← hy] at hr HQI
                subst hr
                clear hy hr0 hr1
                go_wp2_with fail
                --SN
                refine (number_any (y : Int) 4 _ (by omega) (by omega) (by omega)).mono ?_
                rintro e w8 ⟨v8, rfl, o8⟩
                obtain ⟨A8, n8, c8, rfl, hn8⟩ := o8.slice
                have Q8 := Lib.hid (HQ7.out.below o8.below)
                have O8 := Lib.hid o8
                clear o8 hn8
                --SN1
                go_wp2_with (at_builtin; refine Held.of ?_)
                --SN2
                refine app_bytes_at rfl (.tmp 103) (.tmp 108) 46 rfl Try.underlying46 _ _ (qI ns d j) (Pack.leBytes (y : Int) 4) rfl rfl Q8.out.ids O8.out.bs (by rw [leBytes_length]; have := qI_len ns d j; omega) ?_
                intro v9 w9 o9 g9 hat
                rw [← HQI.out] at o9
                obtain ⟨A9, n9, c9, rfl, hn9⟩ := o9.slice
                have HQ9 := Lib.hid (Q8.out.id o9 g9 hat)
                clear o9 g9 hat hn9 Q8 O8
                --SN3
                go_wp2
                --SN4
                go_roundw
                case rel => exact ⟨j + 2, _, by omega, by show Value.int .i64 _ = Value.int .i64 _; congr 1; push_cast; omega, HQ9.out⟩
                case measure => simp [intOf]; omega
            · --SA
              have hj2 : j = nd := by omega
              have HQE : Hid (Qx x #[.string d.out, .int .i64 d.time, .slice Ad nd cd] w wr gc (.slice Aj nj cj) (allN ns d) (.slice Ao no co) ((freshN ns d).map nameRec) (.slice Ai ni ci) (idsB (allN ns d) d.deps)) := by
                have h := HQ.out
                rw [hj2, HND.out] at h
                have e1 := qN_all ns d
                have e2 : qR ns d (d.deps.length + 1) = (freshN ns d).map nameRec := by unfold qR freshN; rw [e1]
                have e3 : qI ns d (d.deps.length + 1 - 1) = idsB (allN ns d) d.deps := by show qI ns d d.deps.length = _; unfold qI; rw [List.take_length]
                rw [e1, e2, e3] at h
                rw [← HND.out] at h
                exact h
              clear hj2 HQ
              have HNO : Hid (∃ y : Nat, y < 1000200 ∧ numOf (allN ns d) d.out = y) := by
                have h1 := (numOf_lt (allN_out ns d)).1
                have h2 := allN_len ns d
                rw [HNN.out] at hn
                rw [← HND.out] at h2
                exact ⟨_, by omega, rfl⟩
              have HE1 : Hid (Ow wr (wr.alloc (.cells #[.int .u8 2] 5)) (.slice (some ⟨wr.heap.size, 0, none⟩) 1 1) [2]) := Ow.lit (Below.refl wr.heap.size wr) [2] (by decide)
              have hba : Below wr.heap.size wr (wr.alloc (.cells #[.int .u8 2] 5)) := below_alloc (Below.refl _ _) _
              have QE1 := Lib.hid (HQE.out.below hba)
              have e0 := blk_cell QE1.out.dx 0
              clear hba
              go_wp2_with fail
              clear d0 d1 d2
              --SB
              refine (at_any _ gc _ [] d.out _ QE1.out.book).mono ?_
              rintro e wz ⟨⟨r, rfl, hr1, _⟩, rfl⟩
              obtain ⟨hr0, hrq⟩ := hr1 (allN_out ns d)
              obtain ⟨y, hy2, hy⟩ := HNO.out
              have hr : r = (numOf (allN ns d) d.out : Nat) := hrq
              clear hrq
              rw [hy] at hr
              have HY := Lib.hid hy
              subst hr
              clear hy hr0 hr1 e0
              go_wp2_with fail
              refine (number_any (y : Int) 4 _ (by omega) (by omega) (by omega)).mono ?_
              rintro e w8 ⟨v8, rfl, o8⟩
              obtain ⟨A8, n8, c8, rfl, hn8⟩ := o8.slice
              have R8 := Lib.hid (HE1.out.step o8.below)
              have O8 := Lib.hid o8
              clear o8 hn8 HE1
              go_wp2_with (at_builtin; refine Held.of ?_)
              refine app_bytes (w0 := wr) rfl (.tmp 110) (.tmp 116) 46 rfl Try.underlying46 _ _ [2] (Pack.leBytes (y : Int) 4) rfl rfl R8.out O8.out.bs (by rw [leBytes_length]; simp) ?_
              intro v9 w9 o9 _
              obtain ⟨A9, n9, c9, rfl, hn9⟩ := o9.slice
              have R9 := Lib.hid o9
              have QE9 := Lib.hid (HQE.out.below o9.below)
              have e1 := blk_cell QE9.out.dx 1
              have ht0' : 0 ≤ d.time := by omega
              have ht1' : d.time < 4611686018427387904 := by omega
              clear o9 hn9 R8 O8
              go_wp2_with fail
              --SC
              refine (number_any d.time 8 _ (by omega) (by omega) (by omega)).mono ?_
              rintro e wA ⟨vA, rfl, oA⟩
              obtain ⟨AA, nA, cA, rfl, hnA⟩ := oA.slice
              have RA := Lib.hid (R9.out.step oA.below)
              have OA := Lib.hid oA
              clear oA hnA R9 e1
              go_wp2_with (at_builtin; refine Held.of ?_)
              refine app_bytes (w0 := wr) rfl (.tmp 118) (.tmp 122) 46 rfl Try.underlying46 _ _ _ (Pack.leBytes d.time 8) rfl rfl RA.out OA.out.bs (by simp [leBytes_length]) ?_
              intro vB wB oB _
              obtain ⟨AB, nB, cB, rfl, hnB⟩ := oB.slice
              have RB := Lib.hid oB
              have QEB := Lib.hid (HQE.out.below oB.below)
              have e2 := blk_cell QEB.out.dx 2
              clear oB hnB RA OA
              go_wp2_with fail
              refine (number_any (nd : Int) 4 _ (by omega) (by omega) (by omega)).mono ?_
              rintro e wC ⟨vC, rfl, oC⟩
              obtain ⟨AC, nC, cC, rfl, hnC⟩ := oC.slice
              have RC := Lib.hid (RB.out.step oC.below)
              have OC := Lib.hid oC
              clear oC hnC RB e2
              go_wp2_with (at_builtin; refine Held.of ?_)
              refine app_bytes (w0 := wr) rfl (.tmp 124) (.tmp 129) 46 rfl Try.underlying46 _ _ _ (Pack.leBytes (nd : Int) 4) rfl rfl RC.out OC.out.bs (by simp [leBytes_length]) ?_
              intro vD wD oD _
              obtain ⟨AD, nD, cD, rfl, hnD⟩ := oD.slice
              have RD := Lib.hid oD
              have QED := Lib.hid (HQE.out.below oD.below)
              clear oD hnD RC OC
              go_wp2_with (at_builtin; refine Held.of ?_)
              --SD
              refine app_bytes (w0 := wr) rfl (.tmp 132) (.tmp 133) 46 rfl Try.underlying46 _ _ _ (idsB (allN ns d) d.deps) rfl rfl RD.out QED.out.ids.bs (by have h := idsB_length (allN ns d) d.deps; rw [h, ← HND.out]; simp [leBytes_length]; omega) ?_
              intro vE wE oE _
              obtain ⟨AE, nE, cE, rfl, hnE⟩ := oE.slice
              have QEE := Lib.hid (HQE.out.below oE.below)
              have HOR : Hid (Ow wr wE (.slice AE nE cE) (outRec (allN ns d) d)) := by
                have h := oE
                have e : [2] ++ Pack.leBytes (y : Int) 4 ++ Pack.leBytes d.time 8 ++ Pack.leBytes (nd : Int) 4 ++ idsB (allN ns d) d.deps = outRec (allN ns d) d := by
                  unfold outRec
                  rw [← HY.out, ← HND.out]
                  simp
                rw [e] at h
                exact h
              clear oE hnE RD
              go_wp2_with (at_builtin; refine Held.of ?_)
              refine app_rec_ok (w0 := w) (fun k => True ∧ some k ≠ (Value.slice Ai ni ci).ownBlock) rfl (.tmp 131) (.tmp 135) 31 rfl Try.underlying31 _ _ ((freshN ns d).map nameRec) (outRec (allN ns d) d) rfl rfl QEE.out.out QEE.out.bel HOR.out HQE.out.bel.size ?_ (by have h1 := fresh_len ns d; rw [List.length_map]; rw [← HND.out] at h1; omega) ?_
              · intro k hk
                refine ⟨trivial, fun e => ?_⟩
                obtain ⟨cells, hc⟩ := own_typed HQE.out.ids.own k e.symm
                have := blk_lt hc
                omega
              intro v7 w7 r7 g7
              have HQF := Lib.hid (QEE.out.row r7 g7)
              clear r7 g7
              go_wp2
              go_ret2
              rw [HE.out]
              refine ⟨_, rfl, ?_⟩
              unfold planL
              rw [if_pos HE.out]
              exact HQF.out.recs
end Go.Proofs.Ytinonkakpgiblaa.Nam
namespace Go.Proofs.Ytinonkakpgiblaa.Nam
open Go.RowKit Go.Proofs.YtinonkakpgiblaaW.PrintWords Go.Proofs.YtinonkakpgiblaaW.PrintLast Go.Proofs.Ytinonkakpgiblaa.Base Go.Proofs.Ytinonkakpgiblaa.Pack Go.Maps
set_option linter.unusedVariables false
set_option linter.unusedSimpArgs false

set_option maxRecDepth 100000 in
set_option maxHeartbeats 4000000 in
theorem plan_none (vd : Value) (d : DepV) (w : World) (hd : DepIs w vd d) (hn : d.deps.length ≤ 1000000) :
    Calls Try.prog 12 #[.pointer none, vd] w fun e w' => e = .returned (.tuple #[.slice none 0 0, .int .i64 15]) ∧ Below w.heap.size w w' := by
  obtain ⟨vdd, rfl, hs⟩ := hd
  obtain ⟨Ad, cd, rfl, hcd, hmd⟩ := ss_len hs
  obtain ⟨nd, hnd⟩ : ∃ nd, nd = d.deps.length := ⟨_, rfl⟩
  rw [← hnd] at hn hcd hmd hs ⊢
  have HND := Lib.hid hnd
  obtain ⟨x, hx⟩ : ∃ x, w.heap.size = x := ⟨_, rfl⟩
  obtain ⟨Wb, hWb⟩ : ∃ Wb, Wb = (w.alloc (.cells #[.pointer none] 27)).alloc (.cells #[.string d.out, .int .i64 d.time, .slice Ad nd cd] 36) := ⟨_, rfl⟩
  have hb1 := below_alloc (Below.refl w.heap.size w) (.cells #[.pointer none] 27)
  have hb0 : Below w.heap.size w Wb := by rw [hWb]; exact below_alloc hb1 _
  have hXd : Wb.heap[x + 1]? = some (.cells #[.string d.out, .int .i64 d.time, .slice Ad nd cd] 36 (0, 0)) := by
    have h := blk_new (w.alloc (.cells #[.pointer none] 27)) (.cells #[.string d.out, .int .i64 d.time, .slice Ad nd cd] 36)
    rw [hWb, ← hx]
    simpa using h
  have hXb : Wb.heap[x]? = some (.cells #[.pointer none] 27 (0, 0)) := by
    have h := blk_new w (.cells #[.pointer none] 27)
    have h2 := below_alloc (Below.refl (w.alloc (.cells #[.pointer none] 27)).heap.size (w.alloc (.cells #[.pointer none] 27))) (.cells #[.string d.out, .int .i64 d.time, .slice Ad nd cd] 36)
    rw [hWb, ← hx]
    exact (h2.block w.heap.size (blk_lt h)).trans h
  have XD := Lib.hid hXd
  have XB := Lib.hid hXb
  have HB0 := Lib.hid hb0
  have HSS := Lib.hid (hs.below hb0)
  have HX := Lib.hid hx
  have HWB := Lib.hid hWb
  have d0 := blk_cell hXd 0
  have d1 := blk_cell hXd 1
  have d2 := blk_cell hXd 2
  have bb := blk_cell hXb 0
  have hws : Wb.heap.size = x + 1 + 1 := by rw [hWb, ← hx]; simp
  have HWS := Lib.hid hws
  have HXW : Hid (x ≤ Wb.heap.size) := by show x ≤ Wb.heap.size; omega
  have RA : Hid (Kd.string.R 9 (Wb.alloc (.cells #[.string d.out] 9)) 0 (fun k => x ≤ k) (.slice (some ⟨x + 1 + 1, 0, none⟩) 1 1) [d.out]) := by
    have h := str_lit Wb 0 (Nat.zero_le _) (fun k => x ≤ k) HXW.out d.out
    rw [hws] at h
    exact h
  clear hs hb1 hb0 hXd hXb hWb hnd hws
  go_enter Try.func12, Try.ntmps12
  go_wp2_with (at_builtin; refine Held.of ?_)
  rw [← HWB.out]
  try rw [hx]
  clear hx
  refine Held.out (Kd.R_append_row Value.string ByteArray.empty (h1 := fun _ => rfl) (w0 := Wb) 0 rfl (.tmp 15) (.tmp 17) 22 9 (.string ⟨#[]⟩) 16 rfl Try.underlying22 (by kernel_rfl) rfl (by decide) (.slice (some ⟨x + 1 + 1, 0, none⟩) 1 1) [d.out] d.deps Ad nd cd (fun k => x ≤ k) rfl rfl (fun k hk => by have := HXW.out; simp at hk; omega) RA.out ((ss_C HSS.out) |> fun h => Kd.C_below h (below_alloc (Below.refl _ _) _)) ((Below.refl 0 Wb).alloc (Nat.zero_le _) _) (Nat.zero_le _) (by simp; omega) ?_)
  intro va wa ra ba ga _
  obtain ⟨Aa, ca, ea⟩ := Kd.R_slice ra
  obtain ⟨na, hna⟩ : ∃ na, na = ([d.out] ++ d.deps).length := ⟨_, rfl⟩
  rw [← hna] at ea
  subst ea
  have hba : Below w.heap.size w wa := by
    have h1 : Below w.heap.size w (Wb.alloc (.cells #[.string d.out] 9)) := below_alloc HB0.out _
    exact h1.grown ga h1.size (fun k hk => by rw [HX.out]; exact RA.out.1 k hk)
  have hba2 : Below Wb.heap.size Wb wa := by
    have h1 : Below Wb.heap.size Wb (Wb.alloc (.cells #[.string d.out] 9)) := below_alloc (Below.refl _ _) _
    refine h1.grown ga h1.size (fun k hk => ?_)
    have : x + 1 + 1 = k := by simpa [Value.ownBlock] using hk
    rw [← this, HWS.out]
    exact Nat.le_refl _
  have HBA := Lib.hid hba
  have XD2 := Lib.hid ((hba2.block _ (blk_lt XD.out)).trans XD.out)
  have XB2 := Lib.hid ((hba2.block _ (blk_lt XB.out)).trans XB.out)
  have d0 := blk_cell XD2.out 0
  have d1 := blk_cell XD2.out 1
  have d2 := blk_cell XD2.out 2
  have bb := blk_cell XB2.out 0
  clear ra ba ga hba hba2 hna
  go_wp2
  go_ret2
  exact ⟨rfl, HBA.out⟩
section
variable {w0 w w' : World} {k k' gn g : Nat} {b b' : BookV}
theorem tw_plan (h : Tw w0 w k k' gn g b b') (vd : Value) (d : DepV) (hd : DepIs w vd d) (hf : FitD d) (hn : d.deps.length ≤ 1000000) (hk : k ≤ 1000000) :
    Calls Try.prog 12 #[.pointer (some ⟨gn, 0, none⟩), vd] w fun e w' => ∃ vo, e = .returned (.tuple #[vo, .int .i64 (planE d)]) ∧ Recs w w' vo (planL b.ns d) := by
  obtain ⟨S, T, L, h⟩ := h
  exact plan_any S k gn b vd d w h.bk hd hf hk hn
theorem tw_rplan (h : Tw w0 w k k' gn g b b) (vd : Value) (d : DepV) (hd : DepIs w vd d) (hf : FitD d) (hbr : BriefD d) (hk : k ≤ 1000000) :
    Calls Try.prog 27 #[.pointer (some ⟨g, 0, none⟩), vd] w fun e w' => ∃ vo, e = .returned (.tuple #[vo, .int .i64 (planE d)]) ∧ Recs w w' vo (planL b.ns d) := by
  obtain ⟨S, T, L, h⟩ := h
  exact rplan_any T g b.ns L vd d w h.rb hd hf hbr (by have := h.bk.few; omega)
theorem tw_len (h : Tw w0 w k k' gn g b b') : b.ns.length ≤ k := by
  obtain ⟨S, T, L, h⟩ := h
  exact h.bk.few
end
set_option maxRecDepth 100000 in
set_option maxHeartbeats 1000000 in
theorem look_none2 (s : ByteArray) (w : World) :
    Calls Try.prog 17 #[.pointer none, .string s] w fun e w' => e = .returned (.tuple #[.agg #[.string ⟨#[]⟩, .int .i64 0, .slice none 0 0], .bool false]) ∧ Below w.heap.size w w' := by
  obtain ⟨x, hx⟩ : ∃ x, w.heap.size = x := ⟨_, rfl⟩
  obtain ⟨Wb, hWb⟩ : ∃ Wb, Wb = w.alloc (.cells #[.string ⟨#[]⟩, .int .i64 0, .slice none 0 0] 36) := ⟨_, rfl⟩
  have hb0 : Below w.heap.size w Wb := by rw [hWb]; exact below_alloc (Below.refl _ _) _
  have hXr : Wb.heap[x]? = some (.cells #[.string ⟨#[]⟩, .int .i64 0, .slice none 0 0] 36 (0, 0)) := by rw [hWb, ← hx]; exact blk_new w _
  have XR := Lib.hid hXr
  have HB0 := Lib.hid hb0
  have HX := Lib.hid hx
  have HWB := Lib.hid hWb
  clear hb0 hXr hWb
  go_enter Try.func17, Try.ntmps17
  go_wp2_with (with_reducible refine gate_ (.store 36 (.tmp 4) (.tmp 12)) rfl ?_; refine Held.of ?_)
  rw [← HWB.out]
  try rw [hx]
  clear hx
  refine Held.out (wpList_plain rfl fun K hK => wp_store_row 36 (.tmp 4) (.tmp 12) rfl x #[.string ⟨#[]⟩, .int .i64 0, .slice none 0 0] rfl rfl 36 _ XR.out (by kernel_rfl) rfl (by simp [Value.oneCell']) (hK _ _ ?_))
  have HY := Lib.hid (setRow_heap _ x _ (#[.string ⟨#[]⟩, .int .i64 0, .slice none 0 0]) _ _ XR.out)
  go_wp2
  (try simp only [Exit.inBlock, Exit.then])
  refine bodyPost_ret (cell_row_tmp rfl _ _ x 36 _ (0, 0) _ rfl HY.out Try.underlying36 rfl (by kernel_rfl)) rfl ?_
  exact ⟨rfl, row_below HB0.out (by rw [HX.out]; exact Nat.le_refl _) _⟩
theorem planL_len (ns : List ByteArray) (d : DepV) : (planL ns d).length ≤ d.deps.length + 2 := by
  unfold planL
  split
  · have := fresh_len ns d
    rw [List.length_append, List.length_map, List.length_singleton]
    omega
  · simp
end Go.Proofs.Ytinonkakpgiblaa.Nam
namespace Go.Proofs.Ytinonkakpgiblaa.Nam
open Go.RowKit Go.Proofs.YtinonkakpgiblaaW.PrintWords Go.Proofs.YtinonkakpgiblaaW.PrintLast Go.Proofs.Ytinonkakpgiblaa.Base Go.Proofs.Ytinonkakpgiblaa.Pack Go.Maps
set_option linter.unusedVariables false
set_option linter.unusedSimpArgs false

set_option maxRecDepth 100000 in
set_option maxHeartbeats 8000000 in
theorem NamesPlans_any (v0 v1 : Value) (rs : List (List Int)) (d : DepV) (w : World) (h : Rs w v0 rs) (hb : ∀ r ∈ rs, Bytes r) (hd : DepIs w v1 d) (hf : FitD d) :
    Calls Try.prog 7 #[v0, v1] w fun e w' => e = .returned (.bool true) ∧ Below w.heap.size w w' := by
  have hlen : ∃ A c, v0 = .slice A rs.length c ∧ rs.length ≤ c ∧ rs.length ≤ 9223372036854775807 := by
    obtain ⟨A, c, e, h1, h2, _⟩ := h
    exact ⟨A, c, e, h1, h2⟩
  obtain ⟨A, c, rfl, hc, hm⟩ := hlen
  obtain ⟨n, hn⟩ : ∃ n, n = rs.length := ⟨_, rfl⟩
  rw [← hn] at hc h hm ⊢
  obtain ⟨vdd, rfl, hs⟩ := hd
  obtain ⟨Ad, cd, rfl, hcd, hmd⟩ := ss_len hs
  obtain ⟨nd, hnd⟩ : ∃ nd, nd = d.deps.length := ⟨_, rfl⟩
  rw [← hnd] at hcd hmd hs ⊢
  obtain ⟨x, hx⟩ : ∃ x, w.heap.size = x := ⟨_, rfl⟩
  obtain ⟨Wb, hWb⟩ : ∃ Wb, Wb = w.alloc (.cells #[.string d.out, .int .i64 d.time, .slice Ad nd cd] 24) := ⟨_, rfl⟩
  have hb0 : Below w.heap.size w Wb := by rw [hWb]; exact below_alloc (Below.refl _ _) _
  have hXd : Wb.heap[x]? = some (.cells #[.string d.out, .int .i64 d.time, .slice Ad nd cd] 24 (0, 0)) := by rw [hWb, ← hx]; exact blk_new w _
  have XD := Lib.hid hXd
  have HB0 := Lib.hid hb0
  have HR := Lib.hid (h.below hb0)
  have HDD : Hid (DepIs Wb (.agg #[.string d.out, .int .i64 d.time, .slice Ad nd cd]) d) := ⟨_, rfl, hs.below hb0⟩
  have HN := Lib.hid hn
  have HND := Lib.hid hnd
  have HBB := Lib.hid hb
  have HF := Lib.hid hf
  have HX := Lib.hid hx
  have HWB := Lib.hid hWb
  have d0 := blk_cell hXd 0
  have d1 := blk_cell hXd 1
  have d2 := blk_cell hXd 2
  clear h hn hb hs hf hb0 hXd hWb hnd
  go_enter Try.func7, Try.ntmps7
  go_upto_region 1 with (fail)
  rw [← HWB.out]
  try rw [hx]
  clear hx
  go_wp2_with fail
  refine (light_any _ rs _ HR.out).mono ?_
  rintro e w0 ⟨he, hw0⟩
  subst hw0
  rcases he with ⟨rfl, hl60, hl1⟩ | rfl
  case inr =>
    go_wp2
    go_ret
    exact ⟨rfl, HB0.out⟩
  rw [← HN.out] at hl60
  have HL1 := Lib.hid hl1
  clear hl1
  go_wp2_with fail
  --S1
  refine (brief_any _ d _ HDD.out HF.out).mono ?_
  rintro e w1 ⟨he, hb1⟩
  have HB1 := Lib.hid (HB0.out.trans (hb1.mono HB0.out.size))
  have HR1 := Lib.hid (HR.out.below hb1)
  have HD1 := Lib.hid (HDD.out.below hb1)
  have XD1 := Lib.hid ((hb1.block _ (blk_lt XD.out)).trans XD.out)
  clear hb1 d0 d1 d2
  rcases he with ⟨rfl, hbr⟩ | rfl
  case inr =>
    go_wp2
    go_ret
    exact ⟨rfl, HB1.out⟩
  have HBR := Lib.hid hbr
  have hfew : nd ≤ 50 := by rw [HND.out]; exact hbr.few
  clear hbr
  go_wp2_with fail
  --S2
  refine (bnew_any _).mono ?_
  rintro e w2 ⟨gn, rfl, hk, hb⟩
  obtain ⟨g, hg⟩ : ∃ g, w2.heap.size = g := ⟨_, rfl⟩
  obtain ⟨w3, hw3⟩ : ∃ w3, w3 = w2.alloc (.cells #[.slice none 0 0, .slice none 0 0] 55) := ⟨_, rfl⟩
  have htw := tw_new hk hb
  rw [← hw3, hg] at htw
  have HT0 : Hid (Tw w1 w3 0 0 gn g book0 book0) := htw
  have HW3 := Lib.hid hw3
  clear htw hw3 hk hb
  go_upto_region 5 with (fail)
  rw [← HW3.out]
  try rw [hg]
  clear hg
  go_wp2
  --S3
  go_loopw [7] (fun i wr => ∃ k : Nat, k ≤ n ∧ i = .int .i64 k ∧ Hid (Tw w1 wr k k gn g (takeL (rs.take k)) (takeL (rs.take k)))) (fun i _ => n - (intOf i).toNat)
  case atStart => exact ⟨0, by omega, rfl, by rw [List.take_zero]; exact HT0.out⟩
  case round =>
    obtain ⟨k, hk, rfl, HT⟩ := hrel
    by_cases l1 : k < n
    · have hkl : k < rs.length := by rw [← HN.out]; exact l1
      obtain ⟨ad, u, e1, q, hbs⟩ := rs_get HR1.out k hkl
      subst e1
      obtain ⟨hTK, hmem⟩ := take_at rs [] k hkl
      have HTK := Lib.hid hTK
      have HM : Hid (Bytes (rs.getD k []) ∧ (rs.getD k []).length ≤ 1000) := ⟨HBB.out _ hmem, HL1.out _ hmem⟩
      have HBS := Lib.hid hbs
      clear hTK hmem hbs hkl
      generalize rs.getD k [] = r at HTK HM HBS
      obtain ⟨Ar, cr, er, _, _⟩ := HBS.out.len
      subst er
      obtain ⟨nr, hnr⟩ : ∃ nr, nr = r.length := ⟨_, rfl⟩
      rw [← hnr] at q HBS
      clear hnr
      have Q1 := Lib.hid q
      have HTL : Hid (takeL (rs.take (k + 1)) = (takeV (takeL (rs.take k)) r).getD (takeL (rs.take k))) := by show _ = _; rw [HTK.out]; exact takeL_snoc _ _
      clear q
      have q := pw_cell_below HT.out.below Q1.out
      go_wp2_with fail
      refine (tw_rtake HT.out _ r (HBS.out.below HT.out.below) HM.out.1 (by have := HM.out.2; omega) (by omega)).mono ?_
      rintro e w4 ⟨rfl, ht4⟩
      have HT4 := Lib.hid ht4
      clear ht4 q
      have q := pw_cell_below HT4.out.below Q1.out
      go_wp2_with fail
      refine (tw_take HT4.out _ r (HBS.out.below HT4.out.below) HM.out.1 (by have := HM.out.2; omega) (by omega) rfl).mono ?_
      rintro e w5 ⟨rfl, ht5⟩
      rw [← HTL.out] at ht5
      have HT5 := Lib.hid ht5
      clear ht5 q
      go_wp2
      go_roundw
      case rel => exact ⟨k + 1, by omega, by go_num, HT5.out⟩
      case measure => simp [intOf]; omega
    · have hk2 : k = n := by omega
      have hk60 : k ≤ 60 := by omega
      have htk : rs.take k = rs := by rw [hk2, HN.out, List.take_length]
      rw [htk] at HT
      have HK60 := Lib.hid hk60
      clear htk hk2 hk60
      obtain ⟨bf, hbf⟩ : ∃ bf, bf = takeL rs := ⟨_, rfl⟩
      rw [← hbf] at HT
      clear hbf
      --S4
      have XDr := Lib.hid ((HT.out.below.block _ (blk_lt XD1.out)).trans XD1.out)
      have HDr := Lib.hid (HD1.out.below HT.out.below)
      have d0 := blk_cell XDr.out 0
      have d1 := blk_cell XDr.out 1
      have d2 := blk_cell XDr.out 2
      go_wp2_with fail
      refine (given_any _ d _ HDr.out (by rw [← HND.out]; omega)).mono ?_
      rintro e w4 ⟨v4, rfl, hd4, hb4⟩
      have HT4 := Lib.hid (HT.out.moved hb4)
      have HD4 := Lib.hid hd4
      have XD4 := Lib.hid ((hb4.block _ (blk_lt XDr.out)).trans XDr.out)
      have HDR4 := Lib.hid (HDr.out.below hb4)
      clear hd4 hb4 d0 d1 d2
      go_wp2_with fail
      refine (tw_plan HT4.out _ d HD4.out HF.out (by rw [← HND.out]; omega) (by have := HK60.out; omega)).mono ?_
      rintro e w5 ⟨v5, rfl, hr5⟩
      obtain ⟨A5, n5, c5, ev5, hn5⟩ := hr5.slice
      subst ev5
      have HT5 := Lib.hid (HT4.out.moved hr5.below)
      have HRS5 := Lib.hid hr5.rs
      have XD5 := Lib.hid ((hr5.below.block _ (blk_lt XD4.out)).trans XD4.out)
      have HDR5 := Lib.hid (HDR4.out.below hr5.below)
      have HN5 := Lib.hid hn5
      have d0 := blk_cell XD5.out 0
      have d1 := blk_cell XD5.out 1
      have d2 := blk_cell XD5.out 2
      clear hr5 hn5
      go_wp2_with fail
      --S5
      refine (tw_rplan HT5.out _ d HDR5.out HF.out HBR.out (by have := HK60.out; omega)).mono ?_
      rintro e w6 ⟨v6, rfl, hr6⟩
      obtain ⟨A6, n6, c6, ev6, hn6⟩ := hr6.slice
      subst ev6
      obtain rfl : n6 = n5 := hn6.trans HN5.out.symm
      have HT6 := Lib.hid (HT5.out.moved hr6.below)
      have HRX6 := Lib.hid (HRS5.out.below hr6.below)
      have HRY6 := Lib.hid hr6.rs
      have XD6 := Lib.hid ((hr6.below.block _ (blk_lt XD5.out)).trans XD5.out)
      have HDR6 := Lib.hid (HDR5.out.below hr6.below)
      have hn62 : n6 ≤ 60 := by have := planL_len bf.ns d; rw [hn6]; rw [← HND.out] at this; omega
      clear hr6 hn6 d0 d1 d2
      obtain ⟨pe, hpe⟩ : ∃ pe, pe = planE d := ⟨_, rfl⟩
      rw [← hpe]
      clear hpe
      have hb1 : (pe != pe) = false := by simp
      have hb2 : ((n6 : Int) != (n6 : Int)) = false := by simp
      go_wp2_with fail
      refine (tw_same HT6.out (by have := HK60.out; omega)).mono ?_
      rintro e w7 ⟨rfl, hb7⟩
      have HT7 := Lib.hid (HT6.out.moved hb7)
      have HRX7 := Lib.hid (HRX6.out.below hb7)
      have HRY7 := Lib.hid (HRY6.out.below hb7)
      have XD7 := Lib.hid ((hb7.block _ (blk_lt XD6.out)).trans XD6.out)
      have HDR7 := Lib.hid (HDR6.out.below hb7)
      clear hb7 hb1 hb2
      go_wp2
      clear l1 hk
      --S6
      go_loopw [12] (fun i wr => ∃ j : Nat, j ≤ n6 ∧ i = .int .i64 j ∧ Hid (Below w7.heap.size w7 wr)) (fun i _ => n6 - (intOf i).toNat)
      case atStart => exact ⟨0, by omega, rfl, Below.refl _ _⟩
      case round =>
        obtain ⟨j, hj, rfl, HB⟩ := hrel
        by_cases l2 : j < n6
        · have hjl : j < (planL bf.ns d).length := by
            obtain ⟨_, _, e, _⟩ := HRX7.out
            injection e with _ e2 _
            rw [← e2]
            exact l2
          obtain ⟨ax, u1, e1, q1, hs1⟩ := rs_get (HRX7.out.below HB.out) j hjl
          subst e1
          obtain ⟨ay, u2, e2, q2, hs2⟩ := rs_get (HRY7.out.below HB.out) j hjl
          subst e2
          clear hjl
          generalize (planL bf.ns d).getD j [] = r at hs1 hs2
          obtain ⟨B1, b1, e1, _, _⟩ := hs1.len
          subst e1
          obtain ⟨B2, b2, e2, _, _⟩ := hs2.len
          subst e2
          obtain ⟨nr, hnr⟩ : ∃ nr, nr = r.length := ⟨_, rfl⟩
          rw [← hnr] at q1 q2 hs1 hs2
          clear hnr
          have Q1 := Lib.hid q1
          have Q2 := Lib.hid q2
          have S1 := Lib.hid hs1
          have S2 := Lib.hid hs2
          have hrr : ((strOfNums r).toList != (strOfNums r).toList) = false := by simp
          clear q1 q2 hs1 hs2
          go_wp2
          --S7
          refine start_ (n := 11) (S := fun w' => Below wr.heap.size wr w' ∧ w'.cell? (ax.add j) = some (.slice B1 nr b1) ∧ w'.cell? (ay.add j) = some (.slice B2 nr b2) ∧ (convert 46 9 (.slice B1 nr b1)).run Try.prog w' = .ok (.string (strOfNums r)) w' ∧ (convert 46 9 (.slice B2 nr b2)).run Try.prog w' = .ok (.string (strOfNums r)) w') (ds := []) #[false, false, false, false, false, false, false, false, false, false, false] (by kernel_rfl) rfl rfl ⟨Below.drew (Below.refl _ _), Q1.out, Q2.out, str_of (S1.out.below (Below.drew (Below.refl _ _))), str_of (S2.out.below (Below.drew (Below.refl _ _)))⟩ (fun hHeld => ?_)
          refine pure_ (i := 0) (N := some 82) (v := ?_) (a' := ?_) #[true, false, false, false, false, false, false, false, false, false, false] rfl rfl (by kernel_rfl) (fun _ _ _ h => h) (Or.inl ⟨by rfl, ?_⟩) ?_ ?_
          rotate_left
          · intro w'
            go_simp
            with_reducible rfl
          rotate_left
          · simp only [Act.put, List.setIfInBounds_toArray, List.set_cons_zero, List.set_cons_succ, i64_w, i32_w]
            rfl
          refine pure_ (i := 1) (N := some 83) (v := ?_) (a' := ?_) #[true, true, false, false, false, false, false, false, false, false, false] rfl rfl (by kernel_rfl) (fun _ _ _ h => h) (Or.inl ⟨by rfl, ?_⟩) ?_ ?_
          rotate_left
          · intro w'
            go_simp
            with_reducible rfl
          rotate_left
          · simp only [Act.put, List.setIfInBounds_toArray, List.set_cons_zero, List.set_cons_succ, i64_w, i32_w]
            rfl
          refine pure_ (i := 2) (N := some 84) (v := ?_) (a' := ?_) #[true, true, true, false, false, false, false, false, false, false, false] rfl rfl (by kernel_rfl) (fun _ _ _ h => h) (Or.inl ⟨by rfl, ?_⟩) ?_ ?_
          rotate_left
          · intro w'
            go_simp
            with_reducible rfl
          rotate_left
          · simp only [Act.put, List.setIfInBounds_toArray, List.set_cons_zero, List.set_cons_succ, i64_w, i32_w]
            rfl
          refine pure_ (i := 5) (N := some 87) (v := ?_) (a' := ?_) #[true, true, true, false, false, true, false, false, false, false, false] rfl rfl (by kernel_rfl) (fun _ _ _ h => h) (Or.inl ⟨by rfl, ?_⟩) ?_ ?_
          rotate_left
          · intro w'
            go_simp
            with_reducible rfl
          rotate_left
          · simp only [Act.put, List.setIfInBounds_toArray, List.set_cons_zero, List.set_cons_succ, i64_w, i32_w]
            rfl
          refine pure_ (i := 6) (N := some 88) (v := ?_) (a' := ?_) #[true, true, true, false, false, true, true, false, false, false, false] rfl rfl (by kernel_rfl) (fun _ _ _ h => h) (Or.inl ⟨by rfl, ?_⟩) ?_ ?_
          rotate_left
          · intro w'
            go_simp
            with_reducible rfl
          rotate_left
          · simp only [Act.put, List.setIfInBounds_toArray, List.set_cons_zero, List.set_cons_succ, i64_w, i32_w]
            rfl
          refine pure_ (i := 7) (N := some 89) (v := ?_) (a' := ?_) #[true, true, true, false, false, true, true, true, false, false, false] rfl rfl (by kernel_rfl) (fun _ _ _ h => h) (Or.inl ⟨by rfl, ?_⟩) ?_ ?_
          rotate_left
          · intro w'
            go_simp
            with_reducible rfl
          rotate_left
          · simp only [Act.put, List.setIfInBounds_toArray, List.set_cons_zero, List.set_cons_succ, i64_w, i32_w]
            rfl
          refine take_ (i := 3) (N := some 85) (v := ?_) (a' := ?_) #[true, true, true, true, false, true, true, true, false, false, false] rfl rfl (by kernel_rfl) (fun _ _ _ h => h) (Or.inl ⟨by rfl, ?_⟩) hHeld ?_ ?_
          rotate_left
          · rintro w' ⟨s0, s1, s2, s3, s4⟩
            go_simp
            with_reducible rfl
          rotate_left
          · simp only [Act.put, List.setIfInBounds_toArray, List.set_cons_zero, List.set_cons_succ, i64_w, i32_w]
            rfl
          refine take_ (i := 4) (N := some 86) (v := ?_) (a' := ?_) #[true, true, true, true, true, true, true, true, false, false, false] rfl rfl (by kernel_rfl) (fun _ _ _ h => h) (Or.inl ⟨by rfl, ?_⟩) hHeld ?_ ?_
          rotate_left
          · rintro w' ⟨s0, s1, s2, s3, s4⟩
            go_simp
            with_reducible rfl
          rotate_left
          · simp only [Act.put, List.setIfInBounds_toArray, List.set_cons_zero, List.set_cons_succ, i64_w, i32_w]
            rfl
          refine take_ (i := 8) (N := some 90) (v := ?_) (a' := ?_) #[true, true, true, true, true, true, true, true, true, false, false] rfl rfl (by kernel_rfl) (fun _ _ _ h => h) (Or.inl ⟨by rfl, ?_⟩) hHeld ?_ ?_
          rotate_left
          · rintro w' ⟨s0, s1, s2, s3, s4⟩
            go_simp
            with_reducible rfl
          rotate_left
          · simp only [Act.put, List.setIfInBounds_toArray, List.set_cons_zero, List.set_cons_succ, i64_w, i32_w]
            rfl
          refine take_ (i := 9) (N := some 91) (v := ?_) (a' := ?_) #[true, true, true, true, true, true, true, true, true, true, false] rfl rfl (by kernel_rfl) (fun _ _ _ h => h) (Or.inl ⟨by rfl, ?_⟩) hHeld ?_ ?_
          rotate_left
          · rintro w' ⟨s0, s1, s2, s3, s4⟩
            go_simp
            with_reducible rfl
          rotate_left
          · simp only [Act.put, List.setIfInBounds_toArray, List.set_cons_zero, List.set_cons_succ, i64_w, i32_w]
            rfl
          refine pure_ (i := 10) (N := some 92) (v := ?_) (a' := ?_) #[true, true, true, true, true, true, true, true, true, true, true] rfl rfl (by kernel_rfl) (fun _ _ _ h => h) (Or.inl ⟨by rfl, ?_⟩) ?_ ?_
          rotate_left
          · intro w'
            go_simp
            with_reducible rfl
          rotate_left
          · simp only [Act.put, List.setIfInBounds_toArray, List.set_cons_zero, List.set_cons_succ, i64_w, i32_w]
            rfl
          refine done_ (by kernel_rfl) ?_
          --S8
          have HB8 : Hid (Below w7.heap.size w7 wr.drew) := Below.drew HB.out
          clear hHeld
          go_wp2
          go_roundw
          case rel => exact ⟨j + 1, by omega, by go_num, HB8.out⟩
          case measure => simp [intOf]; omega
        · --S9
          have HTr := Lib.hid (HT7.out.moved HB.out)
          have XDr2 := Lib.hid ((HB.out.block _ (blk_lt XD7.out)).trans XD7.out)
          have HDRr := Lib.hid (HDR7.out.below HB.out)
          have HBE : Hid (Below w.heap.size w wr) := HB1.out.trans (HTr.out.below.mono HB1.out.size)
          have d0 := blk_cell XDr2.out 0
          have d1 := blk_cell XDr2.out 1
          have d2 := blk_cell XDr2.out 2
          go_wp2_with fail
          refine (given_any _ d _ HDRr.out (by rw [← HND.out]; omega)).mono ?_
          rintro e w8 ⟨v8, rfl, hd8, hb8⟩
          have HD8 := Lib.hid hd8
          have HB8 := Lib.hid (HBE.out.trans (hb8.mono HBE.out.size))
          have XD8 := Lib.hid ((hb8.block _ (blk_lt XDr2.out)).trans XDr2.out)
          clear hd8 hb8 d0 d1 d2
          go_wp2_with fail
          refine (plan_none _ d _ HD8.out (by rw [← HND.out]; omega)).mono ?_
          rintro e w9 ⟨rfl, hb9⟩
          have HB9 := Lib.hid (HB8.out.trans (hb9.mono HB8.out.size))
          have XD9 := Lib.hid ((hb9.block _ (blk_lt XD8.out)).trans XD8.out)
          have d0 := blk_cell XD9.out 0
          clear hb9
          go_wp2_with fail
          --SA
          refine (look_none2 d.out _).mono ?_
          rintro e wa ⟨rfl, hba⟩
          have hbz := hba.alloc hba.size (.cells #[.string ⟨#[]⟩, .int .i64 0, .slice none 0 0] 36)
          have HBa := Lib.hid (HB9.out.trans (hbz.mono HB9.out.size))
          clear hba hbz d0
          go_wp2_with fail
          --SB
          refine (take_none _ _).mono ?_
          rintro e wb ⟨rfl, rfl⟩
          go_wp2_with fail
          --SC
          refine (ball_none _).mono ?_
          rintro e wc ⟨rfl, hbc⟩
          have HBc := Lib.hid (HBa.out.trans (hbc.mono HBa.out.size))
          clear hbc
          go_wp2_with fail
          --SD
          refine (names_none _).mono ?_
          rintro e wd ⟨rfl, rfl⟩
          go_wp2_with fail
          --SE
          refine (records_none _ [] _ (ss_nil _)).mono ?_
          rintro e we ⟨rfl, hbe⟩
          have HBe := Lib.hid (HBc.out.trans (hbe.mono HBc.out.size))
          clear hbe
          go_wp2_with fail
          --SF
          refine (awake_any _).mono ?_
          rintro e wf ⟨rfl, hbf⟩
          have HBf := Lib.hid (HBe.out.trans (hbf.mono HBe.out.size))
          clear hbf
          go_wp2
          go_ret
          exact ⟨rfl, HBf.out⟩
end Go.Proofs.Ytinonkakpgiblaa.Nam
