/- Arguments: the cells of a struct; slices of texts and of bytes, out of their cells. -/
import Derived.Test.YtinonkakpgiblaaArgRows
import Derived.Lib.SmallJoins
import Derived.KernelRfl
namespace Go.Proofs.Ytinonkakpgiblaa.Base
open Go.RowKit Go.Proofs.YtinonkakpgiblaaW.PrintWords Go.ChangeShapes Go.WideShapes Go.Deep
set_option linter.unusedVariables false
set_option linter.unusedSimpArgs false

section
variable {H : Type} {enc : TypeId × Value → H} {P : Program} {W : World} {base fuel : Nat} {spare : Nat → Bool} {held : Bool}
/-- The cells of a struct of one-cell fields, each with its reading. -/
theorem open_cells {t : TypeId} {fs : Array Field} {cs : List Value} {x : DataW H × List MemPlace} (ht : P.underlying t = some (.struct fs)) (hone : oneCellFields P fs = true) (hC : P.cellsOf t = fs.size)
    (h : DataW.trod enc P W base spare held fuel t cs = some x) :
    cs.length = fs.size ∧ ∀ (j : Nat) (f : Field), fs[j]? = some f → ∃ v y n, cs[j]? = some v ∧ DataW.trod enc P W base spare held n f.type [v] = some y := by
  obtain ⟨xs, n, _, _, hl, hlen, hf⟩ := DataW.trod_struct ht h
  rw [hC] at hl
  refine ⟨hl, fun j f hj => ?_⟩
  obtain ⟨ho, hk⟩ := hone_of hone j f hj
  have hlt : j < fs.size := (Array.getElem?_eq_some_iff.1 hj).1
  have h1 := hf j f hj
  rw [ho, hk, List.drop_eq_getElem_cons (by omega)] at h1
  rw [List.getElem?_eq_getElem (by omega : j < xs.length)] at h1
  exact ⟨_, _, n, List.getElem?_eq_getElem (by omega), h1⟩
/-- A slice of texts, out of its cells. -/
theorem open_strs {t e : TypeId} {cs : List Value} {x : DataW H × List MemPlace} (ht : P.underlying t = some (.slice e)) (he : P.underlying e = some .string) (hc : P.cellsOf e = 1) (h : DataW.trod enc P W base spare held fuel t cs = some x) :
    ∃ (v : Value) (l : List ByteArray), cs = [v] ∧ Ss W v l ∧ ∀ s ∈ l, s.size ≤ maxLen := by
  rcases open_strings ht he hc h with ⟨hcs, _⟩ | ⟨x, l, c, ss, hcs, _, hl, hm, hz, _, hcell, hss⟩
  · exact ⟨_, [], hcs, ⟨none, 0, rfl, by simp, by simp, fun h => absurd h (Nat.lt_irrefl 0)⟩, fun s hs => by cases hs⟩
  · have hle : l ≤ ss.length := by rw [hz]; split <;> omega
    have hlt : (ss.take l).length = l := by rw [List.length_take]; omega
    simp only [maxLen] at hm
    refine ⟨_, ss.take l, hcs, ⟨some x, c, by rw [hlt], by rw [hlt]; exact hl, by rw [hlt]; omega, fun _ => ⟨x, rfl, fun i hi => ?_⟩⟩, fun s hs => hss s (List.mem_of_mem_take hs)⟩
    rw [hlt] at hi
    rw [hcell i (by omega)]
    simp [List.getD_eq_getElem?_getD, List.getElem?_take, hi]
end
theorem list3 {α : Type} {l : List α} {a b c : α} (h : l.length = 3) (h0 : l[0]? = some a) (h1 : l[1]? = some b) (h2 : l[2]? = some c) : l = [a, b, c] := by
  match l, h with
  | [x0, x1, x2], _ =>
    simp only [List.getElem?_cons_zero, List.getElem?_cons_succ, Option.some.injEq] at h0 h1 h2
    rw [h0, h1, h2]
end Go.Proofs.Ytinonkakpgiblaa.Base
