/- The statement DiskNone, at an act as it came. -/
import Derived.Test.YtononoakdebjeaaGreatDoorDkActs
import Derived.Test.YtononoakdebjeaaGreatDoorDiskNoneW
namespace Go.Proofs.YtononoakdebjeaaGreatDoor.Dk
open Go.RowKit Go.Proofs.YtononoakdebjeaaGreatDoorW.PrintWords Go.Proofs.YtononoakdebjeaaGreatDoorW.PrintLast Go.Proofs.YtononoakdebjeaaGreatDoor.Base Go.Proofs.YtononoakdebjeaaGreatDoor.Path Go.Proofs.YtononoakdebjeaaGreatDoor.Pack Go.Maps
set_option linter.unusedVariables false
theorem DiskNone_act (a : ActV) (vb vt : Value) (w : World) (hf : FitA a) (hb : Bs w vb a.b) (ht : Ti w vt a.tails) :
    Calls Tryz.prog 5 #[.agg (actC a vb vt).toArray] w fun e w' => e = .returned (.bool true) ∧ Below w.heap.size w w' := by
  obtain ⟨A, c, rfl, _, hm⟩ := hb.len
  obtain ⟨A2, c2, rfl, _⟩ := ht
  have hs := hf.name
  simp only [maxLen] at hs
  exact DiskNone_any a.wh a.n a.name a.dst A _ c A2 _ c2 w (by omega) (by omega)
end Go.Proofs.YtononoakdebjeaaGreatDoor.Dk
