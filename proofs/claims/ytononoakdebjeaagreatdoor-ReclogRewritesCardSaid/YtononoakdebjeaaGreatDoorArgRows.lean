/- Arguments as they are read: slices of slices of bytes. -/
import Derived.Test.YtononoakdebjeaaGreatDoorArgs
import Derived.Test.YtononoakdebjeaaGreatDoorRecs
import Derived.Test.YtononoakdebjeaaGreatDoorPackAll
import Derived.ChangeSlices
import Derived.OpenShut
namespace Go.Proofs.YtononoakdebjeaaGreatDoor.Base
open Go.RowKit Go.Proofs.YtononoakdebjeaaGreatDoorW.PrintWords Go.ChangeShapes Go.WideShapes
set_option linter.unusedVariables false
set_option linter.unusedSimpArgs false

/-- A slice out of its reading: each element reads. -/
theorem open_each {H : Type} {enc : TypeId × Value → H} {P : Program} {W : World} {base fuel : Nat} {spare : Nat → Bool} {held : Bool} {t e : TypeId} {cs : List Value} {x : DataW H × List MemPlace}
    (ht : P.underlying t = some (.slice e)) (h : DataW.trod enc P W base spare held fuel t cs = some x) :
    ∃ (A : Option Addr) (len cap : Nat), cs = [.slice A len cap] ∧ len ≤ cap ∧ cap ≤ 9223372036854775807 ∧ (0 < len → ∃ ad n, A = some ad ∧ ∀ i, i < len → ∃ cs' y, W.cells? base (ad.add (i * P.cellsOf e)) (P.cellsOf e) = some cs' ∧ DataW.trod enc P W base spare held n e cs' = some y) := by
  rcases DataW.trod_slice ht h with ⟨rfl, _⟩ | ⟨a, len, cap, elems, rest, n, _, rfl, rfl, hb, hl, hm, hlen, hel, hsp, hns⟩
  · exact ⟨none, 0, 0, rfl, Nat.le_refl _, by omega, fun h => absurd h (Nat.lt_irrefl 0)⟩
  · simp only [maxLen] at hm
    refine ⟨some a, len, cap, rfl, hl, by omega, fun _ => ⟨a, n, rfl, fun i hi => ?_⟩⟩
    have h1 := hel i hi
    rw [List.getElem?_eq_getElem (by omega), Option.bind_eq_some_iff] at h1
    obtain ⟨cs', hcs, hy⟩ := h1
    exact ⟨cs', _, hcs, hy⟩
theorem open_rows {H : Type} {enc : TypeId × Value → H} {W : World} {base fuel : Nat} {spare : Nat → Bool} {held : Bool} {cs : List Value} {x : DataW H × List MemPlace}
    (h : DataW.trod enc Tryz.prog W base spare held fuel 53 cs = some x) :
    ∃ (v : Value) (ps : List (List Int)), cs = [v] ∧ Rs W v ps ∧ ∀ p ∈ ps, Pack.Bytes p := by
  obtain ⟨A, len, cap, rfl, hl, hm, he⟩ := open_each Tryz.underlying53 h
  have hc1 : Tryz.prog.cellsOf 23 = 1 := by kernel_rfl
  have key : ∀ i : Nat, ∃ xs : List Int, i < len → ∃ ad u, A = some ad ∧ W.cell? (ad.add i) = some u ∧ Bs W u xs ∧ Pack.Bytes xs := by
    intro i
    by_cases hi : i < len
    · obtain ⟨ad, n, e, hf⟩ := he (by omega)
      obtain ⟨cs', y, hcs, hy⟩ := hf i hi
      rw [hc1, Nat.mul_one] at hcs
      obtain ⟨A', l, c', rfl, hr, hlc, hw⟩ := open_nums Tryz.underlying23 Tryz.underlying5 (by kernel_rfl) hy
      exact ⟨l, fun _ => ⟨ad, _, e, cell_of_cells?_one hcs, ⟨A', c', rfl, hlc, hr⟩, Pack.Bytes.of_wf hw⟩⟩
    · exact ⟨[], fun h => absurd h hi⟩
  obtain ⟨f, hf⟩ := Classical.axiomOfChoice key
  have hlen : ((List.range len).map f).length = len := by simp
  refine ⟨_, (List.range len).map f, rfl, ⟨A, cap, by rw [hlen], by rw [hlen]; exact hl, by rw [hlen]; omega, fun hp => ?_⟩, fun p hp => ?_⟩
  · rw [hlen] at hp ⊢
    obtain ⟨ad, u, e, _, _, _⟩ := hf 0 hp
    refine ⟨ad, e, fun i hi => ?_⟩
    obtain ⟨ad', u, e', hu, hbs, _⟩ := hf i hi
    rw [e] at e'
    cases e'
    refine ⟨u, hu, ?_⟩
    rw [List.getD_eq_getElem?_getD, List.getElem?_map, List.getElem?_range hi]
    exact hbs
  · obtain ⟨i, hi, rfl⟩ := List.mem_map.1 hp
    obtain ⟨_, _, _, _, _, hb⟩ := hf i (List.mem_range.1 hi)
    exact hb
theorem open_rows' {H : Type} {enc : TypeId × Value → H} {W : World} {base : Nat} {spare : Nat → Bool} {held : Bool} {A : Option Addr} {len cap : Nat} {d : DataW H} {q : List MemPlace}
    (h : DataW.Trod enc Tryz.prog W base spare held 53 (.slice A len cap) d q) : ∃ ps : List (List Int), Rs W (.slice A len cap) ps ∧ ∀ p ∈ ps, Pack.Bytes p := by
  obtain ⟨fuel, hf⟩ := h
  obtain ⟨v, ps, e, h1, h2⟩ := open_rows hf
  simp [Value.cells] at e
  subst e
  exact ⟨ps, h1, h2⟩
end Go.Proofs.YtononoakdebjeaaGreatDoor.Base
