/- The argument of the statement ReclogOpens, opened. -/
import Derived.Test.YtononoakdebjeaaDoorReclogOpensW
import Derived.Test.YtononoakdebjeaaDoorArgs
import Derived.ChangeArms
import Derived.Lib.SmallJoins
import Derived.KernelRfl
namespace Go.Proofs.YtononoakdebjeaaDoor.Rec
open Go.RowKit Go.Proofs.YtononoakdebjeaaDoorW.PrintWords Go.Proofs.YtononoakdebjeaaDoor.Base Go.Proofs.YtononoakdebjeaaDoor.Pack Go.ChangeShapes Go.WideShapes
set_option linter.unusedVariables false
set_option linter.unusedSimpArgs false

set_option maxRecDepth 100000 in
theorem open_opened {H : Type} {enc : TypeId × Value → H} {W : World} {r : Reach} {b0 base : Nat} {spare : Nat → Bool} {held : Bool} {v : Value} {d : DataW H} {ps : List MemPlace}
    (hv : Value.okWide Tryd.prog W r b0 24 v) (h : DataW.Trod enc Tryd.prog W base spare held 24 v d ps) :
    ∃ (u : Value) (xs : List Int) (k : Int) (th sp : Bool), v = .agg #[u, .int .u8 k, .bool th, .bool sp] ∧ Bs W u xs ∧ Bytes xs ∧ (0 ≤ k ∧ k < 256) := by
  obtain ⟨u0, u1, u2, u3, y0, y1, y2, y3, n, rfl, _, _, t0, t1, t2, t3⟩ := Go.Joins.open_agg4 Tryd.underlying24 (by kernel_rfl) (by kernel_rfl) hv h
  obtain ⟨N, e1, _, w1⟩ := DataW.trod_int Tryd.underlying5 t1
  obtain ⟨b2, e2, _⟩ := DataW.trod_bool Tryd.underlying4 t2
  obtain ⟨b3, e3, _⟩ := DataW.trod_bool Tryd.underlying4 t3
  obtain rfl := List.singleton_inj.1 e1
  obtain rfl := List.singleton_inj.1 e2
  obtain rfl := List.singleton_inj.1 e3
  obtain ⟨A1, l1, k1, e0, r1, hk1, hw⟩ := open_nums Tryd.underlying22 Tryd.underlying5 (by kernel_rfl) t0
  obtain rfl := List.singleton_inj.1 e0
  simp [Lit.wf, IntKind.min, IntKind.max, IntKind.bits, IntKind.signed] at w1
  exact ⟨_, l1, N, b2, b3, rfl, ⟨A1, k1, rfl, hk1, r1⟩, Bytes.of_wf hw, by omega⟩
end Go.Proofs.YtononoakdebjeaaDoor.Rec
