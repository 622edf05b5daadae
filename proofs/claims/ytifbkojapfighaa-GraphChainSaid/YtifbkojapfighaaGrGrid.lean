/- A square of truths in memory: rows of a row. -/
import Derived.Test.YtifbkojapfighaaGrRef
import Derived.Test.YtifbkojapfighaaGrPath
import Derived.Deep.OwnRows
namespace Go.Proofs.Ytifbkojapfighaa.Gr
open Go.RowKit Go.Proofs.YtifbkojapfighaaW.PrintWords Go.Proofs.YtifbkojapfighaaW.PrintLast Go.Proofs.Ytifbkojapfighaa.Base Go.Maps
set_option linter.unusedVariables false
set_option linter.unusedSimpArgs false

def rowOf (n : Nat) (f : Nat → Bool) : Array Value := ((List.range n).map fun j => Value.bool (f j)).toArray
theorem rowOf_size (n : Nat) (f : Nat → Bool) : (rowOf n f).size = n := by simp [rowOf]
theorem rowOf_get {n : Nat} {f : Nat → Bool} {j : Nat} (hj : j < n) : (rowOf n f)[j]? = some (.bool (f j)) := by simp [rowOf, hj]
theorem rowOf_set {n : Nat} {f g : Nat → Bool} {j : Nat} (hg : ∀ x, x < n → g x = if x = j then true else f x) : (rowOf n f).setIfInBounds j (.bool true) = rowOf n g := by
  apply Array.ext_getElem?
  intro i
  rw [Array.getElem?_setIfInBounds, rowOf_size]
  by_cases hi : i < n
  · rw [rowOf_get hi, rowOf_get hi, hg i hi]
    by_cases hji : j = i
    · subst hji; rw [if_pos rfl, if_pos rfl, if_pos hi]
    · rw [if_neg hji, if_neg (fun e => hji e.symm)]
  · have h1 : (rowOf n f)[i]? = none := Array.getElem?_eq_none (by rw [rowOf_size]; omega)
    have h2 : (rowOf n g)[i]? = none := Array.getElem?_eq_none (by rw [rowOf_size]; omega)
    by_cases hji : j = i
    · subst hji; rw [if_pos rfl, if_neg hi, h2]
    · rw [if_neg hji, h1, h2]
theorem rowOf_made (n : Nat) {f : Nat → Bool} (hf : ∀ x, x < n → f x = false) : madeCells #[.bool false] n = rowOf n f := by
  apply Array.ext_getElem?
  intro i
  by_cases hi : i < n
  · rw [rowOf_get hi, hf i hi]; simp [madeCells, hi, Nat.mod_one]
  · rw [Array.getElem?_eq_none (by rw [size_madeCells]; omega), Array.getElem?_eq_none (by rw [rowOf_size]; omega)]
/-- The first k rows of a square that is n wide. -/
structure Grid (w0 w : World) (gb n k : Nat) (r : Nat → Nat) (M : Nat → Nat → Bool) : Prop where
  outer : ∃ oc, w.heap[gb]? = some (.cells oc 40 (0, 0)) ∧ oc.size = n ∧ ∀ i, i < k → oc[i]? = some (.slice (some ⟨r i, 0, none⟩) n n)
  row : ∀ i, i < k → w.heap[r i]? = some (.cells (rowOf n (M i)) 4 (0, 0))
  inj : ∀ i j, i < k → j < k → r i = r j → i = j
  below : Below w0.heap.size w0 w
  hg : w0.heap.size ≤ gb
  hr : ∀ i, i < k → w0.heap.size ≤ r i
section
variable {w0 w w1 : World} {gb n k : Nat} {r : Nat → Nat} {M : Nat → Nat → Bool}
theorem Grid.moved (h : Grid w0 w gb n k r M) (hb : Below w.heap.size w w1) : Grid w0 w1 gb n k r M := by
  obtain ⟨oc, h1, h2, h3⟩ := h.outer
  exact ⟨⟨oc, (hb.block _ (blk_lt h1)).trans h1, h2, h3⟩, fun i hi => (hb.block _ (blk_lt (h.row i hi))).trans (h.row i hi), h.inj, h.below.trans (hb.mono h.below.size), h.hg, h.hr⟩
theorem Grid.cell (h : Grid w0 w gb n k r M) {i : Nat} (hi : i < k) : w.cell? ⟨gb, i, none⟩ = some (.slice (some ⟨r i, 0, none⟩) n n) := by
  obtain ⟨oc, h1, h2, h3⟩ := h.outer
  rw [blk_cell h1 i, h3 i hi]
theorem Grid.bit (h : Grid w0 w gb n k r M) {i j : Nat} (hi : i < k) (hj : j < n) : w.cell? ⟨r i, j, none⟩ = some (.bool (M i j)) := by
  rw [blk_cell (h.row i hi) j, rowOf_get hj]
theorem Grid.free (h : Grid w0 w gb n k r M) {i : Nat} (hi : i < k) (j : Nat) : w.frozen? ⟨r i, j, none⟩ = false := blk_frozen (h.row i hi) j
theorem Grid.made (hb : Below w0.heap.size w0 w) (n : Nat) : Grid w0 (w.alloc (.cells (madeCells #[.slice none 0 0] n) 40)) w.heap.size n 0 r M :=
  ⟨⟨_, blk_new w _, size_madeCells _ _, fun i hi => by omega⟩, fun i hi => by omega, fun i j hi => by omega, below_alloc hb _, hb.size, fun i hi => by omega⟩
/-- A row more, of false. -/
theorem Grid.add (h : Grid w0 w gb n k r M) (hk : k < n) {M' : Nat → Nat → Bool} (hM : ∀ i, i < k → M' i = M i) (hz : ∀ j, j < n → M' k j = false) :
    (w.alloc (.cells (madeCells #[.bool false] n) 4)).frozen? ⟨gb, k, none⟩ = false ∧ (∃ old, (w.alloc (.cells (madeCells #[.bool false] n) 4)).cell? ⟨gb, k, none⟩ = some old) ∧
    Grid w0 ((w.alloc (.cells (madeCells #[.bool false] n) 4)).setCell ⟨gb, k, none⟩ (.slice (some ⟨w.heap.size, 0, none⟩) n n)) gb n (k + 1) (fun i => if i = k then w.heap.size else r i) M' := by
  obtain ⟨oc, h1, h2, h3⟩ := h.outer
  have hbw := below_alloc (Below.refl w.heap.size w) (.cells (madeCells #[.bool false] n) 4)
  have e1 := (hbw.block gb (blk_lt h1)).trans h1
  have hgl := blk_lt h1
  have hnew := blk_new w (.cells (madeCells #[.bool false] n) 4)
  refine ⟨blk_frozen e1 k, ⟨oc[k]'(by omega), by rw [blk_cell e1 k, Array.getElem?_eq_getElem]⟩, ⟨⟨_, blk_set e1 k _, by rw [Array.size_setIfInBounds, h2], fun i hi => ?_⟩, fun i hi => ?_, fun i j hi hj he => ?_, (below_alloc h.below _).setCell h.hg _, h.hg, fun i hi => ?_⟩⟩
  · rw [Array.getElem?_setIfInBounds]
    by_cases hik : i = k
    · rw [if_pos hik.symm, if_pos (by rw [h2]; exact hk), if_pos hik]
    · rw [if_neg (fun e => hik e.symm), if_neg hik, h3 i (by omega)]
  · by_cases hik : i = k
    · show _ = _
      simp only [if_pos hik]
      have hne2 : w.heap.size ≠ gb := by omega
      rw [hik, Below.heap_setCell _ _ _ _ hne2, ← rowOf_made n hz]
      exact hnew
    · simp only [if_neg hik]
      have hr := h.row i (by omega)
      have hlt := blk_lt hr
      have hne : r i ≠ gb := fun e => by
        rw [e, h1] at hr
        injection hr with hr
        injection hr with _ ht _
        exact absurd ht (by decide)
      rw [Below.heap_setCell _ _ _ _ hne, hM i (by omega)]
      exact (hbw.block _ hlt).trans hr
  · by_cases hik : i = k
    · by_cases hjk : j = k
      · rw [hik, hjk]
      · simp only [if_pos hik, if_neg hjk] at he
        have := blk_lt (h.row j (by omega))
        omega
    · by_cases hjk : j = k
      · simp only [if_neg hik, if_pos hjk] at he
        have := blk_lt (h.row i (by omega))
        omega
      · simp only [if_neg hik, if_neg hjk] at he
        exact h.inj i j (by omega) (by omega) he
  · show _ ≤ if i = k then _ else _
    split
    · exact h.below.size
    · exact h.hr i (by omega)
/-- A place is made true. -/
theorem Grid.put (h : Grid w0 w gb n k r M) {i j : Nat} (hi : i < k) (hj : j < n) : Grid w0 (w.setCell ⟨r i, j, none⟩ (.bool true)) gb n k r (updM M i j) := by
  obtain ⟨oc, h1, h2, h3⟩ := h.outer
  have hri := h.row i hi
  have hne : gb ≠ r i := fun e => by
    rw [← e, h1] at hri
    injection hri with hri
    injection hri with _ ht _
    exact absurd ht (by decide)
  refine ⟨⟨oc, by rw [Below.heap_setCell _ _ _ _ hne]; exact h1, h2, h3⟩, fun a ha => ?_, h.inj, h.below.setCell (h.hr i hi) _, h.hg, h.hr⟩
  by_cases hai : a = i
  · rw [hai, blk_set hri j _]
    rw [rowOf_set (g := updM M i j i) fun x hx => by
      unfold updM
      by_cases hxj : x = j
      · rw [if_pos ⟨rfl, hxj⟩, if_pos hxj]
      · rw [if_neg (fun e => hxj e.2), if_neg hxj]]
  · rw [Below.heap_setCell _ _ _ _ (fun e => hai (h.inj a i ha hi e)), h.row a ha]
    have : updM M i j a = M a := funext fun x => by
      unfold updM
      rw [if_neg (fun e => hai e.1)]
    rw [this]
end
theorem info_bool : (Try.prog.info? 4).map (fun i => (i.zero, i.size, i.bytes)) = some (some (.bool false), 1, 1) := by kernel_rfl
theorem info_row : (Try.prog.info? 40).map (fun i => (i.zero, i.size, i.bytes)) = some (some (.slice none 0 0), 1, 24) := by kernel_rfl
theorem mk_rows (n : Nat) (hn : n ≤ 1000) (W : World) : (Instr.makeSlice 77 (.int .i64 (n : Int)) (.int .i64 (n : Int))).run Try.prog W = .ok (.slice (some ⟨W.heap.size, 0, none⟩) n n) (W.alloc (.cells (madeCells #[.slice none 0 0] n) 40)) :=
  run_make_row' _ _ _ 24 Try.underlying77 info_row rfl _ _ n (by omega) (by omega) W
theorem mk_bools (n : Nat) (hn : n ≤ 1000) (W : World) : (Instr.makeSlice 40 (.int .i64 (n : Int)) (.int .i64 (n : Int))).run Try.prog W = .ok (.slice (some ⟨W.heap.size, 0, none⟩) n n) (W.alloc (.cells (madeCells #[.bool false] n) 4)) :=
  run_make_row' _ _ _ 1 Try.underlying40 info_bool rfl _ _ n (by omega) (by omega) W
end Go.Proofs.Ytifbkojapfighaa.Gr
