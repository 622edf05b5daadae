/- runs.Write's two function values: they put into a shared row (walks). -/
import Derived.Test.YtehndlafbbpofaaRunTimes
import Derived.Test.YtehndlafbbpofaaPackFns
import Derived.Test.YtehndlafbbpofaaPackRead
namespace Go.Proofs.Ytehndlafbbpofaa.Run
open Go.RowKit Go.Proofs.YtehndlafbbpofaaW.PrintWords Go.Proofs.Ytehndlafbbpofaa.Base Go.Proofs.Ytehndlafbbpofaa.Pack
set_option linter.unusedVariables false
set_option linter.unusedSimpArgs false

/-- The shared row lies in block g1, the error's number (none so far) in block g2. -/
structure Wr (w0 W : World) (g1 g2 : Nat) (xs : List Int) : Prop where
  c1 : ∃ vb, W.heap[g1]? = some (.cells #[vb] 27 (0, 0)) ∧ Ow w0 W vb xs
  c2 : W.heap[g2]? = some (.cells #[.int .i64 0] 28 (0, 0))
  b1 : w0.heap.size ≤ g1
  b2 : w0.heap.size ≤ g2
  ne : g1 ≠ g2
theorem ow_far {w0 w : World} {v u : Value} {xs : List Int} {g i : Nat} {cs : Array Value} {t : TypeId} (h : Ow w0 w v xs) (hg : w.heap[g]? = some (.cells cs t (0, 0))) (ht : t ≠ 5) (hb : w0.heap.size ≤ g) : Ow w0 (w.setCell ⟨g, i, none⟩ u) v xs := by
  refine ⟨own_move h.own fun k hk => Below.heap_setCell _ _ _ _ ?_, h.below.setCell hb _⟩
  obtain ⟨cells, hk2⟩ := own_typed h.own k hk
  rintro rfl
  rw [hg] at hk2
  injection hk2 with hk2
  injection hk2 with _ h2
  exact ht h2

set_option maxHeartbeats 800000 in
theorem number_c (w0 W : World) (g1 g2 : Nat) (xs : List Int) (n : Int) (h : Wr w0 W g1 g2 xs) (n0 : 0 ≤ n) (n1 : n < 9223372036854775808) (hl : xs.length ≤ 100000) :
    Calls Try.prog 41 #[.int .i64 n, .pointer (some ⟨g1, 0, none⟩)] W fun e w' => e = .returned (.tuple #[]) ∧ Wr w0 w' g1 g2 (xs ++ Pack.leBytes n 8) ∧ Only g1 W w' := by
  obtain ⟨vb, hc1, ho⟩ := h.c1
  obtain ⟨A, m, c, rfl, hm⟩ := ho.slice
  have q0 := blk_cell hc1 0
  have H := Lib.hid h
  have HC := Lib.hid hc1
  have HO := Lib.hid ho
  have HM := Lib.hid hm
  clear h hc1 ho hm
  go_enter Try.func41, Try.ntmps41
  go_wp2_with fail
  refine (u64_any _ xs n _ HO.out.bs (by omega) n0 (by omega)).mono ?_
  rintro e w1 ⟨v1, rfl, o1⟩
  obtain ⟨A1, m1, k1, rfl, hm1⟩ := o1.slice
  clear hm1
  have hc : w1.heap[g1]? = some (.cells #[.slice A m c] 27 (0, 0)) := (o1.below.block g1 (blk_lt HC.out)).trans HC.out
  have hc2 : w1.heap[g2]? = some (.cells #[.int .i64 0] 28 (0, 0)) := (o1.below.block g2 (blk_lt H.out.c2)).trans H.out.c2
  have f0 := blk_frozen hc 0
  have q1 : w1.cell? ⟨g1, 0, none⟩ = some (.slice A m c) := blk_cell hc 0
  have hs := blk_set hc 0 (.slice A1 m1 k1)
  have ho := ow_far (i := 0) (u := .slice A1 m1 k1) (o1.lower HO.out.below) hc (by decide) H.out.b1
  have HS : Hid (Wr w0 (w1.setCell ⟨g1, 0, none⟩ (.slice A1 m1 k1)) g1 g2 (xs ++ Pack.leBytes n 8)) :=
    ⟨⟨_, hs, ho⟩, (Below.heap_setCell _ _ _ _ (fun e => H.out.ne e.symm)).trans hc2, H.out.b1, H.out.b2, H.out.ne⟩
  have HOn : Hid (Only g1 W (w1.setCell ⟨g1, 0, none⟩ (.slice A1 m1 k1))) := (Only.of_below o1.below).setCell 0 _
  clear hc hc2 hs ho o1
  go_wp2
  go_end0
  exact ⟨rfl, HS.out, HOn.out⟩

set_option maxHeartbeats 800000 in
theorem text_c (w0 W : World) (g1 g2 : Nat) (xs : List Int) (t : ByteArray) (h : Wr w0 W g1 g2 xs) (ht : t.size ≤ 65535) (hl : xs.length ≤ 100000) :
    Calls Try.prog 39 #[.string t, .pointer (some ⟨g1, 0, none⟩), .pointer (some ⟨g2, 0, none⟩)] W fun e w' => e = .returned (.tuple #[]) ∧ Wr w0 w' g1 g2 (xs ++ textBytes t) ∧ Only g1 W w' := by
  obtain ⟨vb, hc1, ho⟩ := h.c1
  obtain ⟨A, m, c, rfl, hm⟩ := ho.slice
  have q0 := blk_cell hc1 0
  have H := Lib.hid h
  have HC := Lib.hid hc1
  have HO := Lib.hid ho
  have HM := Lib.hid hm
  clear h hc1 ho hm
  go_enter Try.func39, Try.ntmps39
  go_wp2_with fail
  refine (text_any _ xs t _ HO.out.bs (by omega) ht).mono ?_
  rintro e w1 ⟨v1, rfl, o1⟩
  obtain ⟨A1, m1, k1, rfl, hm1⟩ := o1.slice
  clear hm1
  have hc : w1.heap[g1]? = some (.cells #[.slice A m c] 27 (0, 0)) := (o1.below.block g1 (blk_lt HC.out)).trans HC.out
  have hc2 : w1.heap[g2]? = some (.cells #[.int .i64 0] 28 (0, 0)) := (o1.below.block g2 (blk_lt H.out.c2)).trans H.out.c2
  have f0 := blk_frozen hc 0
  have q1 : w1.cell? ⟨g1, 0, none⟩ = some (.slice A m c) := blk_cell hc 0
  have hs := blk_set hc 0 (.slice A1 m1 k1)
  have ho := ow_far (i := 0) (u := .slice A1 m1 k1) (o1.lower HO.out.below) hc (by decide) H.out.b1
  have HS : Hid (Wr w0 (w1.setCell ⟨g1, 0, none⟩ (.slice A1 m1 k1)) g1 g2 (xs ++ textBytes t)) :=
    ⟨⟨_, hs, ho⟩, (Below.heap_setCell _ _ _ _ (fun e => H.out.ne e.symm)).trans hc2, H.out.b1, H.out.b2, H.out.ne⟩
  have HOn : Hid (Only g1 W (w1.setCell ⟨g1, 0, none⟩ (.slice A1 m1 k1))) := (Only.of_below o1.below).setCell 0 _
  clear hc hc2 hs ho o1
  go_wp2
  go_end0
  exact ⟨rfl, HS.out, HOn.out⟩
end Go.Proofs.Ytehndlafbbpofaa.Run
