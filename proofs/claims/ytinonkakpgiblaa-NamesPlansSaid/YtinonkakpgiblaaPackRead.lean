/- The contracts of pack.Reader (walks). -/
import Derived.Test.YtinonkakpgiblaaPackFns
namespace Go.Proofs.Ytinonkakpgiblaa.Pack
open Go.RowKit Go.Proofs.YtinonkakpgiblaaW.PrintWords Go.Proofs.Ytinonkakpgiblaa.Base
set_option linter.unusedVariables false
set_option linter.unusedSimpArgs false

/-- What w had stands, but for the block g. -/
structure Only (g : Nat) (w w' : World) : Prop where
  os : w'.os = w.os
  tape : w'.tape = w.tape
  output : w'.output = w.output
  size : w.heap.size ≤ w'.heap.size
  block : ∀ k, k < w.heap.size → k ≠ g → w'.heap[k]? = w.heap[k]?
theorem Only.refl (g : Nat) (w : World) : Only g w w := ⟨rfl, rfl, rfl, Nat.le_refl _, fun _ _ _ => rfl⟩
theorem Only.trans {g : Nat} {a b c : World} (h : Only g a b) (k : Only g b c) : Only g a c :=
  ⟨k.os.trans h.os, k.tape.trans h.tape, k.output.trans h.output, Nat.le_trans h.size k.size, fun i hi hg => (k.block i (Nat.lt_of_lt_of_le hi h.size) hg).trans (h.block i hi hg)⟩
theorem Only.drew {g : Nat} {a w : World} (h : Only g a w) : Only g a w.drew := ⟨h.os, h.tape, h.output, h.size, h.block⟩
theorem Only.drewN {g : Nat} {a w : World} (h : Only g a w) (n : Nat) : Only g a (w.drewN n) := ⟨h.os, h.tape, h.output, h.size, h.block⟩
theorem Only.setCell {g : Nat} {a w : World} (h : Only g a w) (i : Nat) (u : Value) : Only g a (w.setCell ⟨g, i, none⟩ u) :=
  h.trans ⟨rfl, rfl, rfl, by simp [World.setCell], fun k _ hg => Below.heap_setCell _ _ _ _ hg⟩
theorem Only.alloc {g : Nat} {a w : World} (h : Only g a w) (o : Obj) : Only g a (w.alloc o) :=
  h.trans ⟨rfl, rfl, rfl, by simp, fun k hk _ => Below.heap_alloc _ _ _ hk⟩
theorem Only.of_below {g : Nat} {w w' : World} (h : Below w.heap.size w w') : Only g w w' := ⟨h.os, h.tape, h.output, h.size, fun k hk _ => h.block k hk⟩
theorem Only.below {g B : Nat} {w w' : World} (h : Only g w w') (hB : B ≤ g) (hs : B ≤ w.heap.size) : Below B w w' :=
  ⟨h.os, h.tape, h.output, h.size, fun k hk => h.block k (by omega) (by omega)⟩

/-- A reader at block g: what is left, and whether there was too little once. Its bytes lie in a row from block B on. -/
structure Rd (B : Nat) (w : World) (g : Nat) (rest : List Int) (bad : Bool) : Prop where
  cell : ∃ v, w.heap[g]? = some (.cells #[v, .bool bad] 112 (0, 0)) ∧ QRow w B 5 1 v rest.length (nums .u8 rest)
  base : B ≤ g
  none_ : bad = true → rest = []
theorem Rd.lt {B : Nat} {w : World} {g : Nat} {rest : List Int} {bad : Bool} (h : Rd B w g rest bad) : g < w.heap.size := by
  obtain ⟨_, hc, _⟩ := h.cell
  exact blk_lt hc
/-- A reader stands where its block and its row stand. -/
theorem Rd.move {B : Nat} {w w1 : World} {g : Nat} {rest : List Int} {bad : Bool} (h : Rd B w g rest bad) (hm : ∀ k, k < w.heap.size → B ≤ k → w1.heap[k]? = w.heap[k]?) : Rd B w1 g rest bad := by
  obtain ⟨v, hc, hq⟩ := h.cell
  exact ⟨⟨v, (hm g (blk_lt hc) h.base).trans hc, q_move hq fun k hk => hm k (q_lt hq k hk) (q_typed hq k hk).1⟩, h.base, h.none_⟩
theorem Rd.below {B : Nat} {w w1 : World} {g : Nat} {rest : List Int} {bad : Bool} (h : Rd B w g rest bad) (hb : Below w.heap.size w w1) : Rd B w1 g rest bad :=
  h.move fun k hk _ => hb.block k hk
theorem Rd.drewN {B : Nat} {w : World} {g : Nat} {rest : List Int} {bad : Bool} (h : Rd B w g rest bad) (n : Nat) : Rd B (w.drewN n) g rest bad := h.below (pw_below_drewN (Below.refl _ _) n)
/-- Another block, that is no row of bytes, has been written. -/
theorem Rd.only {B : Nat} {w w1 : World} {g g' t : Nat} {rest : List Int} {bad : Bool} {cs : Array Value} (h : Rd B w g rest bad) (ho : Only g' w w1) (hne : g ≠ g') (ht : w.heap[g']? = some (.cells cs t (0, 0))) (h8 : t ≠ 5) : Rd B w1 g rest bad := by
  obtain ⟨v, hc, hq⟩ := h.cell
  refine ⟨⟨v, (ho.block g (blk_lt hc) hne).trans hc, q_move hq fun k hk => ho.block k (q_lt hq k hk) ?_⟩, h.base, h.none_⟩
  obtain ⟨_, cells, hk2⟩ := q_typed hq k hk
  rintro rfl
  rw [ht] at hk2
  injection hk2 with hk2
  injection hk2 with _ e
  exact h8 e
theorem bs_of_q {w : World} {B n : Nat} {v : Value} {xs : List Int} (h : QRow w B 5 1 v n (nums .u8 xs)) (hn : n = xs.length) : Bs w v xs := by
  subst hn
  obtain ⟨A, c, rfl, hc⟩ := q_slice h
  refine ⟨A, c, rfl, hc, rfl, q_max h, fun hp => ?_⟩
  obtain ⟨ad, rfl, hcell⟩ := q_cells h hp
  refine ⟨ad, rfl, fun i hi => hcell i _ ?_⟩
  simp [nums, List.getElem?_eq_getElem hi, List.getD_eq_getElem?_getD]

set_option maxHeartbeats 800000 in
/-- pack.New. -/
theorem new_any (v : Value) (xs : List Int) (w : World) (hv : Bs w v xs) (hl : xs.length ≤ 140737488355328) :
    Calls Try.prog 37 #[v] w fun e w' => ∃ g, e = .returned (.pointer (some ⟨g, 0, none⟩)) ∧ Rd w.heap.size w' g xs false ∧ Below w.heap.size w w' := by
  have HV := Lib.hid hv
  clear hv
  go_enter Try.func37, Try.ntmps37
  go_wp2_with fail
  refine (clone_any _ _ _ HV.out hl).mono ?_
  rintro e w1 ⟨v1, rfl, o1⟩
  obtain ⟨A1, n1, c1, rfl, hn1⟩ := o1.slice
  have HN := Lib.hid hn1
  have O1 := Lib.hid o1
  clear o1 hn1
  go_wp2
  go_ret
  refine ⟨_, rfl, ⟨⟨_, blk_new w1 _, ?_⟩, O1.out.below.size, fun h => by cases h⟩, below_alloc O1.out.below _⟩
  exact q_of_own (O1.out.alloc _).own

theorem q_set {w : World} {B g n i : Nat} {v u : Value} {xs : List Value} {cs : Array Value} {t : TypeId} (h : QRow w B 5 1 v n xs) (hc : w.heap[g]? = some (.cells cs t (0, 0))) (h8 : t ≠ 5) : QRow (w.setCell ⟨g, i, none⟩ u) B 5 1 v n xs := by
  refine q_move h fun k hk => Below.heap_setCell _ _ _ _ ?_
  obtain ⟨_, cells, hk2⟩ := q_typed h k hk
  rintro rfl
  have e := hc.symm.trans hk2
  injection e with e
  injection e with _ e
  exact h8 e

set_option maxHeartbeats 800000 in
theorem take_ok (B g m : Nat) (rest : List Int) (w : World) (h : Rd B w g rest false) (hm : m ≤ rest.length) :
    Calls Try.prog 69 #[.pointer (some ⟨g, 0, none⟩), .int .i64 m] w fun e w' => ∃ u, e = .returned u ∧ Bs w' u (rest.take m) ∧ Rd B w' g (rest.drop m) false ∧ Only g w w' := by
  obtain ⟨v, hc, hq⟩ := h.cell
  obtain ⟨A, c, rfl, hle⟩ := q_slice hq
  have hmax := q_max hq
  have c0 := blk_cell hc 0
  have c1 := blk_cell hc 1
  have f0 := blk_frozen hc 0
  have f1 := blk_frozen hc 1
  have HC := Lib.hid hc
  have HQ := Lib.hid hq
  have HR := Lib.hid h
  clear hc hq h
  have ht := q_take HQ.out hm
  rw [Nat.mul_one] at ht
  have htl : (rest.take m).length = m := by rw [List.length_take]; omega
  have hu : QRow w B 5 1 (.slice A m c) m (nums .u8 (rest.take m)) := by
    rw [show nums .u8 (rest.take m) = (nums .u8 rest).take m from by simp [nums, List.map_take]]; exact ht
  have HU := Lib.hid hu
  have hd := q_drop HQ.out hm
  rw [Nat.mul_one] at hd
  have hdl : (rest.drop m).length = rest.length - m := List.length_drop
  have hd2 : QRow w B 5 1 (.slice (if c = m then A else A.map (·.add m)) (rest.length - m) (c - m)) (rest.drop m).length (nums .u8 (rest.drop m)) := by
    rw [hdl, show nums .u8 (rest.drop m) = (nums .u8 rest).drop m from by simp [nums, List.map_drop]]; exact hd
  have HD := Lib.hid hd2
  have HT := Lib.hid htl
  clear ht htl hu hd hdl hd2
  by_cases hcm : c = m
  · obtain rfl := hcm
    have HD2 : Hid (QRow w B 5 1 (.slice A (rest.length - c) (c - c)) (rest.drop c).length (nums .u8 (rest.drop c))) := by have := HD.out; rw [if_pos rfl] at this; exact this
    clear HD
    go_enter Try.func69, Try.ntmps69
    have hz : rest.length - c = 0 := by omega
    have HZ := Lib.hid hz
    clear hz
    go_wp2
    go_ret
    refine ⟨_, rfl, bs_of_q (q_set HU.out HC.out (by decide)) HT.out.symm, ⟨⟨_, blk_set HC.out 0 _, ?_⟩, HR.out.base, fun h => by cases h⟩, (Only.refl g w).setCell 0 _⟩
    have := q_set (i := 0) (u := .slice A 0 0) HD2.out HC.out (by decide)
    rw [HZ.out, Nat.sub_self] at this
    exact this
  · have HD2 : Hid (QRow w B 5 1 (.slice (A.map (·.add m)) (rest.length - m) (c - m)) (rest.drop m).length (nums .u8 (rest.drop m))) := by have := HD.out; rw [if_neg hcm] at this; exact this
    clear HD
    go_enter Try.func69, Try.ntmps69
    go_wp2
    go_ret
    exact ⟨_, rfl, bs_of_q (q_set HU.out HC.out (by decide)) HT.out.symm, ⟨⟨_, blk_set HC.out 0 _, q_set HD2.out HC.out (by decide)⟩, HR.out.base, fun h => by cases h⟩, (Only.refl g w).setCell 0 _⟩

theorem q_nil (w : World) (B : Nat) : QRow w B 5 1 (.slice none 0 0) ([] : List Int).length (nums .u8 []) := ⟨rfl, .inl ⟨rfl, none, rfl, fun a ha => by cases ha⟩⟩

set_option maxHeartbeats 800000 in
theorem take_short (B g m : Nat) (rest : List Int) (bad : Bool) (w : World) (h : Rd B w g rest bad) (hm : bad = true ∨ rest.length < m) :
    Calls Try.prog 69 #[.pointer (some ⟨g, 0, none⟩), .int .i64 m] w fun e w' => e = .returned (.slice none 0 0) ∧ Rd B w' g [] true ∧ Only g w w' := by
  obtain ⟨v, hc, hq⟩ := h.cell
  obtain ⟨A, c, rfl, hle⟩ := q_slice hq
  have hmax := q_max hq
  have c0 := blk_cell hc 0
  have c1 := blk_cell hc 1
  have f0 := blk_frozen hc 0
  have f1 := blk_frozen hc 1
  have HC := Lib.hid hc
  have HQ := Lib.hid hq
  have HR := Lib.hid h
  clear hc hq h
  cases bad with
  | true =>
    clear hm
    go_enter Try.func69, Try.ntmps69
    go_wp2
    go_ret
    exact ⟨rfl, ⟨⟨_, blk_set (blk_set HC.out 1 _) 0 _, q_nil _ _⟩, HR.out.base, fun _ => rfl⟩, ((Only.refl g w).setCell 1 _).setCell 0 _⟩
  | false =>
    have hm' : rest.length < m := hm.resolve_left (by simp)
    clear hm
    have HT := blk_set (blk_set HC.out 1 (.bool true)) 0 (.slice none 0 0)
    have HT' := Lib.hid HT
    clear HT
    go_enter Try.func69, Try.ntmps69
    go_wp2
    go_ret
    exact ⟨rfl, ⟨⟨_, HT'.out, q_nil _ _⟩, HR.out.base, fun _ => rfl⟩, ((Only.refl g w).setCell 1 _).setCell 0 _⟩
theorem take_nil (m : Int) (w : World) :
    Calls Try.prog 69 #[.pointer none, .int .i64 m] w fun e w' => e = .returned (.slice none 0 0) ∧ w = w' := by
  go_enter Try.func69, Try.ntmps69
  go_wp2
  go_ret
  exact ⟨rfl, rfl⟩
end Go.Proofs.Ytinonkakpgiblaa.Pack
