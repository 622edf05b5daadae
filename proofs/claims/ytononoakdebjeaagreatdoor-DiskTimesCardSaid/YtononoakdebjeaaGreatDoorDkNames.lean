/- disk.Names (walk). -/
import Derived.Test.YtononoakdebjeaaGreatDoorDkKeys
namespace Go.Proofs.YtononoakdebjeaaGreatDoor.Dk
open Go.RowKit Go.Proofs.YtononoakdebjeaaGreatDoorW.PrintWords Go.Proofs.YtononoakdebjeaaGreatDoorW.PrintLast Go.Proofs.YtononoakdebjeaaGreatDoor.Base Go.Proofs.YtononoakdebjeaaGreatDoor.Path Go.Maps Go.Sort
set_option linter.unusedVariables false
set_option linter.unusedSimpArgs false
/-- What is told of all paths. -/
def NamesP (D : DiskV) (w : World) (e : Ending) (w' : World) : Prop :=
  Below w.heap.size w w' ∧ ((D.down = true ∧ e = .returned (.slice none 0 0)) ∨ (D.down = false ∧ ∃ v, e = .returned v ∧ w'.ownsRow w.heap.size 9 1 v D.dir.length ((pathsL D.dir).map encS)))
theorem names_any (S : Nat → Prop) (c g : Nat) (D : DiskV) (w : World) (h : Dk S c w g D) (hc : c ≤ 1000000000) :
    Calls Tryz.prog 20 #[.pointer (some ⟨g, 0, none⟩)] w (NamesP D w) := by
  obtain ⟨mf, ms, vp, q1, _, _, _, q5, _⟩ := h.ex
  have c4 := (show w.cell? ⟨g, 4, none⟩ = some (.bool D.down) from blk_cell q1 4)
  have c5 := (show w.cell? ⟨g, 5, none⟩ = some (.map (some mf)) from blk_cell q1 5)
  obtain ⟨dn, hdn⟩ : ∃ dn, dn = D.down := ⟨_, rfl⟩
  rw [← hdn] at c4
  have HDN := Lib.hid hdn
  have HSO := Lib.hid (sorted_any mf D.dir w q5 h.ok.dirUp (Nat.le_trans h.ok.dirLen hc))
  clear h q1 q5 hdn
  cases dn with
  | true =>
    go_enter Tryz.func20, Tryz.ntmps20
    go_wp2
    go_ret
    exact ⟨Below.refl _ _, .inl ⟨HDN.out.symm, rfl⟩⟩
  | false =>
    go_enter Tryz.func20, Tryz.ntmps20
    go_wp2_with fail
    refine (keys_call mf w).mono ?_
    rintro e w1 ⟨rfl, rfl⟩
    go_wp2_with fail
    refine HSO.out.mono ?_
    rintro e w2 ⟨v, rfl, hr, hb⟩
    obtain ⟨A, cp, rfl⟩ := own_slice hr
    obtain ⟨n, hn⟩ : ∃ n, n = D.dir.length := ⟨_, rfl⟩
    rw [← hn] at hr
    have HR := Lib.hid hr
    have HB := Lib.hid hb
    have HN := Lib.hid hn
    rw [← hn]
    clear hr hb hn HSO c4 c5
    go_wp2
    go_ret
    exact ⟨(below_alloc (Below.refl _ _) _).trans (HB.out.mono (Nat.le_succ _)), .inr ⟨HDN.out.symm, _, rfl, by rw [← HN.out]; exact own_weaken HR.out (Nat.le_succ _)⟩⟩
end Go.Proofs.YtononoakdebjeaaGreatDoor.Dk
