/- The fold of runs, as the document has it (plain). -/
import Derived.Test.YtehndlafbbpofaaRunRowsOf
namespace Go.Proofs.Ytehndlafbbpofaa.Run
open Go.RowKit Go.Proofs.YtehndlafbbpofaaW.PrintWords Go.Proofs.Ytehndlafbbpofaa.Base Go.Proofs.Ytehndlafbbpofaa.Pack
set_option linter.unusedVariables false
set_option linter.unusedSimpArgs false

def bl (a b : ByteArray) : Bool := Op.bytesLess a.toList b.toList
/-- How many of a row stand ahead of a name. -/
def posR (s : ByteArray) : List RunV → Nat
  | [] => 0
  | x :: l => if bl x.out s = true then posR s l + 1 else 0
theorem posR_le (s : ByteArray) : ∀ l, posR s l ≤ l.length
  | [] => Nat.le_refl _
  | x :: l => by
    unfold posR
    split
    · have := posR_le s l; simp only [List.length_cons]; omega
    · simp
theorem posR_lt (s : ByteArray) : ∀ (l : List RunV) (j : Nat), j < posR s l → bl (l.getD j zv).out s = true
  | [], j, h => by simp [posR] at h
  | x :: l, j, h => by
    unfold posR at h
    split at h
    · rename_i hx
      cases j with
      | zero => simpa using hx
      | succ j => simpa using posR_lt s l j (by omega)
    · omega
theorem posR_at (s : ByteArray) : ∀ (l : List RunV), posR s l < l.length → bl (l.getD (posR s l) zv).out s = false
  | [], h => by simp at h
  | x :: l, h => by
    by_cases hx : bl x.out s = true
    · have e : posR s (x :: l) = posR s l + 1 := by rw [posR, if_pos hx]
      rw [e] at h ⊢
      simpa using posR_at s l (by simpa using h)
    · have e : posR s (x :: l) = 0 := by rw [posR, if_neg hx]
      rw [e]
      simpa using hx
/-- A run is put into a row: it takes the place of one with its output, or goes to its own place. -/
def insR (r : RunV) (acc : List RunV) : List RunV :=
  if posR r.out acc < acc.length ∧ (acc.getD (posR r.out acc) zv).out = r.out then acc.set (posR r.out acc) r
  else acc.take (posR r.out acc) ++ [r] ++ acc.drop (posR r.out acc)
def foldR (l : List RunV) : List RunV := l.foldl (fun acc r => insR r acc) []
theorem foldR_snoc (l : List RunV) (r : RunV) : foldR (l ++ [r]) = insR r (foldR l) := by
  unfold foldR
  rw [List.foldl_append]
  rfl
theorem insR_len (r : RunV) (acc : List RunV) : (insR r acc).length ≤ acc.length + 1 := by
  unfold insR
  have := posR_le r.out acc
  split
  · rw [List.length_set]; omega
  · simp only [List.length_append, List.length_take, List.length_drop, List.length_cons, List.length_nil]; omega
theorem str_eq_iff (a b : ByteArray) : (a.toList == b.toList) = decide (a = b) := by
  by_cases h : a = b
  · subst h; simp
  · rw [decide_eq_false h]
    rw [beq_eq_false_iff_ne]
    intro e
    refine h ?_
    rw [ByteArray.toList_eq, ByteArray.toList_eq] at e
    cases a
    cases b
    simp only at e
    exact congrArg ByteArray.mk (Array.toList_inj.1 e)
end Go.Proofs.Ytehndlafbbpofaa.Run
