/- slices.Clone of bytes (walk). -/
import Derived.Test.YtononoakdebjeaaGreatDoorBase
import Derived.Test.YtononoakdebjeaaGreatDoorRecs
namespace Go.Proofs.YtononoakdebjeaaGreatDoor.Dk
open Go.RowKit Go.Proofs.YtononoakdebjeaaGreatDoorW.PrintWords Go.Proofs.YtononoakdebjeaaGreatDoor.Base
set_option linter.unusedVariables false
set_option linter.unusedSimpArgs false
theorem cloneB_any (v : Value) (xs : List Int) (w : World) (hv : Bs w v xs) (hl : xs.length ≤ 140737488355328) :
    Calls Tryz.prog 49 #[v] w fun e w' => ∃ v', e = .returned v' ∧ Ow w w' v' xs := by
  obtain ⟨A, c, rfl, hc, hr⟩ := hv
  have hm := hr.2.1
  have hn := fun (w : World) (n c : Nat) (a : Option Addr) => Lib.run_eql_slice_nil (P := Tryz.prog) w 23 5 a n c 0 0 Tryz.underlying23
  have R := Lib.hid hr
  clear hr
  have HE := Lib.hid (Ow.lit (Below.refl w.heap.size w) [] (by simp))
  cases A with
  | none =>
    have hx : xs = [] := by
      rcases Nat.eq_zero_or_pos xs.length with h | h
      · exact List.eq_nil_of_length_eq_zero h
      · obtain ⟨_, h', _⟩ := R.out.2.2 h
        cases h'
    subst hx
    go_enter Tryz.func49, Tryz.ntmps49
    go_wp2
    go_ret
    exact ⟨_, rfl, Ow.nil (Below.refl _ _)⟩
  | some ad =>
    go_enter Tryz.func49, Tryz.ntmps49
    go_wp2_with (at_builtin; refine Held.of ?_)
    refine app_bytes rfl (.tmp 5) (.tmp 6) 23 rfl Tryz.underlying23 _ _ [] xs rfl rfl HE.out ((show Bs w _ xs from ⟨_, _, rfl, hc, R.out⟩).alloc _) (by (try simp only [List.length_append, List.length_nil, List.length_cons]); omega) ?_
    clear HE
    intro va w1 o1 _
    rw [List.nil_append] at o1
    have O1 := Lib.hid o1
    clear o1
    go_wp2
    go_ret
    exact ⟨_, rfl, O1.out⟩
end Go.Proofs.YtononoakdebjeaaGreatDoor.Dk
