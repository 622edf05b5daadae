/- Arguments as they are read: slices of texts. -/
import Derived.Test.YtononoakdebjeaaGreatDoorBase
import Derived.ChangeSlices
import Derived.SliceStrings
import Derived.SizedLaws
import Derived.OpenShut
namespace Go.Proofs.YtononoakdebjeaaGreatDoor.Base
open Go.RowKit Go.Proofs.YtononoakdebjeaaGreatDoorW.PrintWords Go.ChangeShapes Go.WideShapes
set_option linter.unusedVariables false
set_option linter.unusedSimpArgs false

/-- v reads as the texts l. -/
def Ss (w : World) (v : Value) (l : List ByteArray) : Prop := ∃ A c, v = .slice A l.length c ∧ l.length ≤ c ∧ l.length ≤ 9223372036854775807 ∧ (0 < l.length → ∃ ad, A = some ad ∧ ∀ i, i < l.length → w.cell? (ad.add i) = some (.string (l.getD i ByteArray.empty)))
theorem Ss.below {w w1 : World} {v : Value} {l : List ByteArray} (h : Ss w v l) (hb : Below w.heap.size w w1) : Ss w1 v l := by
  obtain ⟨A, c, h1, h2, h3, h4⟩ := h
  exact ⟨A, c, h1, h2, h3, fun hp => by
    obtain ⟨ad, e, hc⟩ := h4 hp
    exact ⟨ad, e, fun i hi => pw_cell_below hb (hc i hi)⟩⟩

theorem open_ss {H : Type} {enc : TypeId × Value → H} {P : Program} {W : World} {base : Nat} {spare : Nat → Bool} {held : Bool} {t e : TypeId} {a : Option Addr} {len cap : Nat} {d : DataW H} {ps : List MemPlace}
    (ht : P.underlying t = some (.slice e)) (he : P.underlying e = some .string) (hc : P.cellsOf e = 1) (h : DataW.Trod enc P W base spare held t (.slice a len cap) d ps) :
    ∃ l, Ss W (.slice a len cap) l ∧ ∀ s ∈ l, s.size ≤ maxLen := by
  obtain ⟨fuel, hf⟩ := h
  rcases open_strings ht he hc hf with ⟨hcs, _⟩ | ⟨x, l, c, ss, hcs, _, hl, hm, hz, _, hcell, hss⟩
  · simp [Value.cells] at hcs
    obtain ⟨rfl, rfl, rfl⟩ := hcs
    exact ⟨[], ⟨none, 0, rfl, by simp, by simp, fun h => absurd h (Nat.lt_irrefl 0)⟩, fun s hs => by cases hs⟩
  · simp [Value.cells] at hcs
    obtain ⟨rfl, rfl, rfl⟩ := hcs
    have hle : len ≤ ss.length := by rw [hz]; split <;> omega
    have hlt : (ss.take len).length = len := by rw [List.length_take]; omega
    simp only [maxLen] at hm
    refine ⟨ss.take len, ⟨some x, cap, by rw [hlt], by rw [hlt]; exact hl, by rw [hlt]; omega, fun _ => ⟨x, rfl, fun i hi => ?_⟩⟩, fun s hs => hss s (List.mem_of_mem_take hs)⟩
    rw [hlt] at hi
    rw [hcell i (by omega)]
    simp [List.getD_eq_getElem?_getD, List.getElem?_take, hi]
/-- A slice of whole numbers, out of its reading. -/
theorem open_nums {H : Type} {enc : TypeId × Value → H} {P : Program} {W : World} {base fuel : Nat} {spare : Nat → Bool} {held : Bool} {t e : TypeId} {k : IntKind} {cs : List Value} {x : DataW H × List MemPlace}
    (ht : P.underlying t = some (.slice e)) (he : P.underlying e = some (.int k)) (hc : P.cellsOf e = 1) (h : DataW.trod enc P W base spare held fuel t cs = some x) :
    ∃ (A : Option Addr) (l : List Int) (c : Nat), cs = [.slice A l.length c] ∧ ReadsInt W k A l.length l ∧ l.length ≤ c ∧ ∀ n ∈ l, (Lit.int k n).wf = true := by
  rcases open_ints ht he hc h with ⟨rfl, _⟩ | ⟨a, len, cap, zs, rfl, _, hl, hm, hz, _, hcell, hw⟩
  · exact ⟨none, [], 0, rfl, ⟨rfl, by simp, fun h => absurd h (Nat.lt_irrefl 0)⟩, by simp, fun n hn => by cases hn⟩
  · have hle : len ≤ zs.length := by rw [hz]; split <;> omega
    have hlt : (zs.take len).length = len := by rw [List.length_take]; omega
    simp only [maxLen] at hm
    refine ⟨some a, zs.take len, cap, by rw [hlt], ⟨rfl, by rw [hlt]; omega, fun _ => ⟨a, rfl, fun i hi => ?_⟩⟩, by rw [hlt]; exact hl, fun n hn => hw n (List.mem_of_mem_take hn)⟩
    rw [hlt] at hi
    rw [hcell i (by omega)]
    simp [List.getD_eq_getElem?_getD, List.getElem?_take, hi]
end Go.Proofs.YtononoakdebjeaaGreatDoor.Base
