/- The argument of the law ReclogTurned, opened. -/
import Derived.Test.YtehndlafbbpofaaReclogTurnedW
import Derived.Test.YtehndlafbbpofaaArgRows
import Derived.Lib.SmallJoins
import Derived.KernelRfl
namespace Go.Proofs.Ytehndlafbbpofaa.Rec
open Go.RowKit Go.Proofs.YtehndlafbbpofaaW.PrintWords Go.Proofs.Ytehndlafbbpofaa.Base Go.Proofs.Ytehndlafbbpofaa.Pack Go.ChangeShapes Go.WideShapes
set_option linter.unusedVariables false
set_option linter.unusedSimpArgs false

set_option maxRecDepth 100000 in
theorem open_turned {H : Type} {enc : TypeId × Value → H} {W : World} {r : Reach} {b0 base : Nat} {spare : Nat → Bool} {held : Bool} {v : Value} {d : DataW H} {ps : List MemPlace}
    (hv : Value.okWide Try.prog W r b0 78 v) (h : DataW.Trod enc Try.prog W base spare held 78 v d ps) :
    ∃ (u : Value) (rs : List (List Int)) (k a m : Int), v = .agg #[u, .int .u8 k, .int .u16 a, .int .u8 m] ∧ Rs W u rs ∧ AllBytes rs ∧ (Lit.int .u8 k).wf = true ∧ (Lit.int .u16 a).wf = true ∧ (Lit.int .u8 m).wf = true := by
  obtain ⟨u0, u1, u2, u3, y0, y1, y2, y3, n, rfl, _, _, t0, t1, t2, t3⟩ := Go.Joins.open_agg4 Try.underlying78 (by kernel_rfl) (by kernel_rfl) hv h
  obtain ⟨N, e1, _, w1⟩ := DataW.trod_int Try.underlying5 t1
  obtain ⟨s, e2, _, w2⟩ := DataW.trod_int Try.underlying73 t2
  obtain ⟨L, e3, _, w3⟩ := DataW.trod_int Try.underlying5 t3
  obtain rfl := List.singleton_inj.1 e1
  obtain rfl := List.singleton_inj.1 e2
  obtain rfl := List.singleton_inj.1 e3
  obtain ⟨u, rs, e0, hr, hb⟩ := open_rows t0
  obtain rfl := List.singleton_inj.1 e0
  exact ⟨_, rs, N, s, L, rfl, hr, hb, w1, w2, w3⟩
theorem ReclogTurned_int (u : Value) (rs : List (List Int)) (k a m : Int) (w : World) (h : Rs w u rs) (hb : AllBytes rs) (hk : (Lit.int .u8 k).wf = true) (ha : (Lit.int .u16 a).wf = true) (hm : (Lit.int .u8 m).wf = true) :
    Calls Try.prog 12 #[.agg #[u, .int .u8 k, .int .u16 a, .int .u8 m]] w fun e w' => e = .returned (.bool true) ∧ Below w.heap.size w w' := by
  simp [Lit.wf, IntKind.min, IntKind.max, IntKind.bits, IntKind.signed] at hk ha hm
  obtain ⟨n, rfl⟩ := Int.eq_ofNat_of_zero_le ha.1
  exact ReclogTurned_any u rs k n m w h hb hk.1 (by omega) (by omega) hm.1 (by omega)
end Go.Proofs.Ytehndlafbbpofaa.Rec
