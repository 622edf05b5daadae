/- The argument of the law RunsTurned, opened. -/
import Derived.Test.YtehndlafbbpofaaRunsTurnedW
import Derived.Lib.SmallJoins
import Derived.KernelRfl
namespace Go.Proofs.Ytehndlafbbpofaa.Run
open Go.RowKit Go.Proofs.YtehndlafbbpofaaW.PrintWords Go.Proofs.Ytehndlafbbpofaa.Base Go.Proofs.Ytehndlafbbpofaa.Pack Go.ChangeShapes Go.WideShapes
set_option linter.unusedVariables false
set_option linter.unusedSimpArgs false

set_option maxRecDepth 100000 in
theorem open_turned {H : Type} {enc : TypeId × Value → H} {W : World} {r : Reach} {b0 base : Nat} {spare : Nat → Bool} {held : Bool} {v : Value} {d : DataW H} {ps : List MemPlace}
    (hv : Value.okWide Try.prog W r b0 49 v) (h : DataW.Trod enc Try.prog W base spare held 49 v d ps) :
    ∃ (out cmd : ByteArray) (a m : Int), v = .agg #[.string out, .string cmd, .int .u8 a, .int .u8 m] ∧ out.size ≤ maxLen ∧ cmd.size ≤ maxLen ∧ (Lit.int .u8 a).wf = true ∧ (Lit.int .u8 m).wf = true := by
  obtain ⟨u0, u1, u2, u3, y0, y1, y2, y3, n, rfl, _, _, t0, t1, t2, t3⟩ := Go.Joins.open_agg4 Try.underlying49 (by kernel_rfl) (by kernel_rfl) hv h
  obtain ⟨s0, e0, _, w0⟩ := DataW.trod_string Try.underlying9 t0
  obtain ⟨s1, e1, _, w1⟩ := DataW.trod_string Try.underlying9 t1
  obtain ⟨N, e2, _, w2⟩ := DataW.trod_int Try.underlying5 t2
  obtain ⟨L, e3, _, w3⟩ := DataW.trod_int Try.underlying5 t3
  obtain rfl := List.singleton_inj.1 e0
  obtain rfl := List.singleton_inj.1 e1
  obtain rfl := List.singleton_inj.1 e2
  obtain rfl := List.singleton_inj.1 e3
  exact ⟨s0, s1, N, L, rfl, w0, w1, w2, w3⟩
theorem RunsTurned_int (out cmd : ByteArray) (a m : Int) (w : World) (ho : out.size ≤ maxLen) (hc : cmd.size ≤ maxLen) (ha : (Lit.int .u8 a).wf = true) (hm : (Lit.int .u8 m).wf = true) :
    Calls Try.prog 6 #[.agg #[.string out, .string cmd, .int .u8 a, .int .u8 m]] w fun e w' => e = .returned (.bool true) ∧ Below w.heap.size w w' := by
  simp [Lit.wf, IntKind.min, IntKind.max, IntKind.bits, IntKind.signed] at ha hm
  simp only [maxLen] at ho hc
  obtain ⟨n, rfl⟩ := Int.eq_ofNat_of_zero_le ha.1
  exact RunsTurned_any out cmd n m w (by omega) hm.1 (by omega) (by omega) (by omega)
end Go.Proofs.Ytehndlafbbpofaa.Run
