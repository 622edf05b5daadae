/- slices.Clone of bytes (walk). -/
import Derived.Test.YtononoakdebjeaaDoorBase
import Derived.Test.YtononoakdebjeaaDoorRecs
namespace Go.Proofs.YtononoakdebjeaaDoor.Dk
open Go.RowKit Go.Proofs.YtononoakdebjeaaDoorW.PrintWords Go.Proofs.YtononoakdebjeaaDoor.Base
set_option linter.unusedVariables false
set_option linter.unusedSimpArgs false
theorem cloneB_any (v : Value) (xs : List Int) (w : World) (hv : Bs w v xs) (hl : xs.length ≤ 140737488355328) :
    Calls Tryd.prog 41 #[v] w fun e w' => ∃ v', e = .returned v' ∧ Ow w w' v' xs := by
  obtain ⟨A, c, rfl, hc, hr⟩ := hv
  have hm := hr.2.1
  have hn := fun (w : World) (n c : Nat) (a : Option Addr) => Lib.run_eql_slice_nil (P := Tryd.prog) w 22 5 a n c 0 0 Tryd.underlying22
  have R := Lib.hid hr
  clear hr
  have HE := Lib.hid (Ow.lit (Below.refl w.heap.size w) [] (by simp))
  cases A with
  | none =>
    have hx : xs = [] := by
      rcases Nat.eq_zero_or_pos xs.length with h | h
      · exact List.eq_nil_of_length_eq_zero h
      · obtain ⟨_, h', _⟩ := R.out.2.2 h
        cases h'
    subst hx
    go_enter Tryd.func41, Tryd.ntmps41
    go_wp2
    go_ret
    exact ⟨_, rfl, Ow.nil (Below.refl _ _)⟩
  | some ad =>
    go_enter Tryd.func41, Tryd.ntmps41
    go_wp2_with (at_builtin; refine Held.of ?_)
    refine app_bytes rfl (.tmp 5) (.tmp 6) 22 rfl Tryd.underlying22 _ _ [] xs rfl rfl HE.out ((show Bs w _ xs from ⟨_, _, rfl, hc, R.out⟩).alloc _) (by (try simp only [List.length_append, List.length_nil, List.length_cons]); omega) ?_
    clear HE
    intro va w1 o1 _
    rw [List.nil_append] at o1
    have O1 := Lib.hid o1
    clear o1
    go_wp2
    go_ret
    exact ⟨_, rfl, O1.out⟩
end Go.Proofs.YtononoakdebjeaaDoor.Dk
