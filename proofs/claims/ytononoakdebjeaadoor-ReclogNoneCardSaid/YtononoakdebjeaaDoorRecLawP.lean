/- A log over a disk, plainly: what opening and the deeds of a log do to a disk with one file, and where it is down. -/
import Derived.Test.YtononoakdebjeaaDoorRecOpen
namespace Go.Proofs.YtononoakdebjeaaDoor.Rec
open Go.RowKit Go.Proofs.YtononoakdebjeaaDoorW.PrintWords Go.Proofs.YtononoakdebjeaaDoorW.PrintLast Go.Proofs.YtononoakdebjeaaDoor.Base Go.Proofs.YtononoakdebjeaaDoor.Path Go.Proofs.YtononoakdebjeaaDoor.Pack Go.Proofs.YtononoakdebjeaaDoor.Dk Go.Maps
set_option linter.unusedVariables false
set_option linter.unusedSimpArgs false
abbrev logN : ByteArray := ⟨#[108, 111, 103]⟩
abbrev newN : ByteArray := ⟨#[108, 111, 103, 46, 110, 101, 119]⟩
theorem newName_log : newName logN = newN := by decide +kernel
theorem logN_no : logN ≠ noName := by decide
theorem newN_no : newN ≠ noName := by decide
theorem newN_log : newN ≠ logN := by decide
theorem scanRes_nil (kd : Int) : scanRes kd [] = ([], 0, 0) := scanRes_short (by simp) (by simp)
theorem open_none {q : Nat} {D D' : DiskV} {kd : Int} {nm : ByteArray} {k : Nat} {rs : List (List Int)} (h : NoneI q D) (ha : D.armed ≠ 0) (hr : rightB nm = true) (hn : nm ≠ noName) (hq : 8 ≤ q) (ho : OpenR kd nm D D' k rs) :
    k = 0 ∧ rs = [] ∧ ∃ j, OneI q nm j ⟨headBytes kd, 0, D.clock⟩ false D' ∧ D'.armed = (countV D).armed ∧ D'.deeds = D.deeds + 1 := by
  have hl : ∀ s, Dk.look D.dir s = none := fun s => by rw [h.dir]; rfl
  obtain ⟨D1, k1, hs, ho⟩ := ho
  rcases hs with ⟨_, rfl, rfl⟩ | ⟨_, ⟨i, hi⟩, _⟩
  · rcases ho with ⟨h1, _⟩ | ⟨_, ho⟩
    · exact absurd rfl h1
    · have hb : bytesAt D1 nm = [] := by unfold bytesAt; rw [hl nm]
      unfold OpenB at ho
      rw [hb, scanRes_nil] at ho
      rcases ho with ⟨h1, _⟩ | ⟨_, h1, _⟩ | ⟨_, _, rfl, ⟨_, ho⟩ | ⟨h1, _⟩ | ⟨h1, _⟩⟩
      · rw [h.down] at h1; cases h1
      · exact absurd rfl h1
      · obtain ⟨a1, j, a2, a3, a4⟩ := h.writeD ha hr (by show (8 : Nat) ≤ _; omega) (by show (8 : Nat) ≤ _; omega) hn ho
        exact ⟨a1, rfl, j, a2, a3, a4⟩
      · exact absurd rfl h1
      · exact absurd rfl h1
  · rw [hl] at hi; cases hi
/-- Where the disk is down, or down at the next deed. -/
def Dead (D : DiskV) : Prop := D.down = true ∨ D.armed = 0
theorem Dead.deed {D D' : DiskV} {ok : Bool} {body : DiskV → DiskV → Nat → Prop} {k : Nat} (h : Dead D) (hd : DeedR D ok body D' k) : D'.down = true ∧ k = 8 := by
  obtain ⟨rfl, hk⟩ := hd.dead h
  exact ⟨rfl, hk⟩
theorem Dead.sync {D D' : DiskV} {nm : ByteArray} {k : Nat} (h : Dead D) (hd : SyncAllR nm D D' k) : D'.down = true ∧ k = 8 := by
  obtain ⟨D1, k1, h1, ⟨_, rfl, rfl⟩ | ⟨h2, _⟩⟩ := hd
  · exact h.deed h1
  · have := (h.deed h1).2
    omega
theorem Dead.rewrite {D D' : DiskV} {nm fr : ByteArray} {xs : List Int} {k : Nat} (h : Dead D) (hd : RewR nm fr xs D D' k) : D'.down = true ∧ k = 8 := by
  obtain ⟨D1, k1, h1, ⟨_, rfl, rfl⟩ | ⟨h2, _⟩⟩ := hd
  · exact h.deed h1
  · have := (h.deed h1).2
    omega
theorem open_down {D D' : DiskV} {kd : Int} {nm : ByteArray} {k : Nat} {rs : List (List Int)} (h : D.down = true) (ho : OpenR kd nm D D' k rs) : D' = D ∧ k = 8 := by
  obtain ⟨D1, k1, hs, ho⟩ := ho
  rcases hs with ⟨_, rfl, rfl⟩ | ⟨h1, _⟩
  · rcases ho with ⟨h1, _⟩ | ⟨_, ho⟩
    · exact absurd rfl h1
    · rcases ho with ⟨_, rfl, rfl⟩ | ⟨h1, _⟩ | ⟨h1, _⟩
      · exact ⟨rfl, rfl⟩
      · rw [h] at h1; cases h1
      · rw [h] at h1; cases h1
  · rw [h] at h1; cases h1
end Go.Proofs.YtononoakdebjeaaDoor.Rec
