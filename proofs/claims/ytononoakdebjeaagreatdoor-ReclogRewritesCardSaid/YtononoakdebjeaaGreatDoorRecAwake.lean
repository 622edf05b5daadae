/- The reference's Same on rows that are alike, and the chapter's example. -/
import Derived.Test.YtononoakdebjeaaGreatDoorRecWalk
import Derived.Test.YtononoakdebjeaaGreatDoorCut
namespace Go.Proofs.YtononoakdebjeaaGreatDoor.Rec
open Go.RowKit Go.Proofs.YtononoakdebjeaaGreatDoorW.PrintWords Go.Proofs.YtononoakdebjeaaGreatDoor.Base Go.Proofs.YtononoakdebjeaaGreatDoor.Pack
set_option linter.unusedVariables false
set_option linter.unusedSimpArgs false

set_option maxHeartbeats 800000 in
theorem same_true (v1 v2 : Value) (rs : List (List Int)) (w : World) (h1 : Rs w v1 rs) (h2 : Rs w v2 rs) :
    Calls Tryz.prog 28 #[v1, v2] w fun e w' => e = .returned (.bool true) ∧ Below w.heap.size w w' := by
  obtain ⟨A1, c1, rfl, hc1, hm1, hr1⟩ := h1
  obtain ⟨A2, c2, rfl, hc2, hm2, hr2⟩ := h2
  have R1 := Lib.hid hr1
  have R2 := Lib.hid hr2
  clear hr1 hr2
  go_enter Tryz.func28, Tryz.ntmps28
  go_wp2
  go_loopw [5] (fun i wr => ∃ k : Nat, k ≤ rs.length ∧ i = .int .i64 k ∧ Hid (Below w.heap.size w wr)) (fun i _ => rs.length - (intOf i).toNat)
  case atStart => exact ⟨0, by omega, rfl, Below.refl _ _⟩
  case round =>
    obtain ⟨k, hk, rfl, HB⟩ := hrel
    by_cases l1 : k < rs.length
    · obtain ⟨ad1, e1, f1⟩ := R1.out (by omega)
      obtain ⟨ad2, e2, f2⟩ := R2.out (by omega)
      subst e1 e2
      obtain ⟨u1, q1, b1⟩ := f1 k l1
      obtain ⟨u2, q2, b2⟩ := f2 k l1
      generalize rs.getD k [] = pk at b1 b2
      have s1 := fun m => str_of ((b1.below HB.out).drewN m)
      have s2 := fun m => str_of ((b2.below HB.out).drewN m)
      obtain ⟨B1, n1, rfl, _, _⟩ := b1.len
      obtain ⟨B2, n2, rfl, _, _⟩ := b2.len
      have c1' := pw_cell_below HB.out q1
      have c2' := pw_cell_below HB.out q2
      clear f1 f2 b1 b2
      have hb : ((strOfNums pk).toList != (strOfNums pk).toList) = false := by simp
      go_wp2
      go_quiet (fail)
      go_wp2
      go_roundw
      case rel => exact ⟨k + 1, by omega, by go_num, pw_below_drewN HB.out _⟩
      case measure => simp [intOf]; omega
    · go_wp2
      go_ret
      exact ⟨rfl, HB.out⟩

theorem awake_pure : frameBytes [97] = [1, 0, 0, 0, 67, 190, 183, 232, 97] := by decide +kernel
theorem awake_str : ((strOfNums [1, 0, 0, 0, 67, 190, 183, 232, 97]).toList == [1, 0, 0, 0, 67, 190, 183, 232, 97]) = true := by decide +kernel
set_option maxRecDepth 100000 in
set_option maxHeartbeats 800000 in
theorem awake_any (w : World) :
    Calls Tryz.prog 29 #[] w fun e w' => e = .returned (.bool true) ∧ Below w.heap.size w w' := by
  have kc := fun (w : World) (C : Array Value) (n c : Nat) => Lib.run_convert_bytes_const (P := Tryz.prog) w 23 5 C n c Tryz.underlying23 Tryz.underlying5
  have h1 := awake_str
  have b1 := Lib.hid (Bs.mark w 5 [97] 1 rfl (by simp) (1, 2))
  have HB0 := Lib.hid (below_alloc (Below.refl w.heap.size w) (.cells (nums .u8 [97]).toArray 5 (1, 2)))
  go_enter Tryz.func29, Tryz.ntmps29
  go_wp2_with fail
  refine (frame_any _ [97] _ b1.out (by intro x hx; simp at hx; omega) (by simp)).mono ?_
  rintro e w1 ⟨v1, rfl, o1⟩
  rw [awake_pure] at o1
  have O1 := Lib.hid o1
  clear o1
  have k1 := str_of O1.out.bs
  go_wp2
  go_ret
  exact ⟨rfl, HB0.out.trans (O1.out.below.mono HB0.out.size)⟩
end Go.Proofs.YtononoakdebjeaaGreatDoor.Rec
