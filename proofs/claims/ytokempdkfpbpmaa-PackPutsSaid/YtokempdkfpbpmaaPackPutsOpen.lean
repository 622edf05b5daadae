/- The argument of the law PackPuts, opened. -/
import Derived.Test.YtokempdkfpbpmaaPackPutsW
import Derived.Test.YtokempdkfpbpmaaArgs
import Derived.Lib.SmallJoins
import Derived.KernelRfl
namespace Go.Proofs.Ytokempdkfpbpmaa.Pack
open Go.RowKit Go.Proofs.YtokempdkfpbpmaaW.PrintWords Go.Proofs.Ytokempdkfpbpmaa.Base Go.ChangeShapes Go.WideShapes
set_option linter.unusedVariables false
set_option linter.unusedSimpArgs false

theorem open_put {H : Type} {enc : TypeId × Value → H} {W : World} {r : Reach} {b0 base : Nat} {spare : Nat → Bool} {held : Bool} {v : Value} {d : DataW H} {ps : List MemPlace}
    (hv : Value.okWide Try.prog W r b0 37 v) (h : DataW.Trod enc Try.prog W base spare held 37 v d ps) :
    ∃ (A : Option Addr) (c : Nat) (xs : List Int) (N : Int) (s : ByteArray) (L : Int), v = .agg #[.slice A xs.length c, .int .u64 N, .string s, .int .u16 L] ∧ ReadsInt W .u8 A xs.length xs ∧ xs.length ≤ c ∧ Bytes xs ∧ (Lit.int .u64 N).wf = true ∧ s.size ≤ maxLen ∧ (Lit.int .u16 L).wf = true := by
  obtain ⟨u0, u1, u2, u3, y0, y1, y2, y3, n, rfl, _, _, t0, t1, t2, t3⟩ := Go.Joins.open_agg4 Try.underlying37 (by kernel_rfl) (by kernel_rfl) hv h
  obtain ⟨N, e1, _, w1⟩ := DataW.trod_int Try.underlying25 t1
  obtain ⟨s, e2, _, w2⟩ := DataW.trod_string Try.underlying9 t2
  obtain ⟨L, e3, _, w3⟩ := DataW.trod_int Try.underlying31 t3
  obtain rfl := List.singleton_inj.1 e1
  obtain rfl := List.singleton_inj.1 e2
  obtain rfl := List.singleton_inj.1 e3
  obtain ⟨A, l, cap, e0, hr, hc, hw⟩ := open_nums Try.underlying22 Try.underlying5 (by kernel_rfl) t0
  obtain rfl := List.singleton_inj.1 e0
  exact ⟨A, cap, l, N, s, L, rfl, hr, hc, Bytes.of_wf hw, w1, w2, w3⟩
theorem PackPuts_int (A : Option Addr) (c : Nat) (xs : List Int) (N : Int) (s : ByteArray) (L : Int) (w : World) (r : ReadsInt w .u8 A xs.length xs) (hc : xs.length ≤ c) (hb : Bytes xs) (hN : (Lit.int .u64 N).wf = true) (hs : s.size ≤ maxLen) (hL : (Lit.int .u16 L).wf = true) :
    Calls Try.prog 10 #[.agg #[.slice A xs.length c, .int .u64 N, .string s, .int .u16 L]] w fun e w' => e = .returned (.bool true) ∧ Below w.heap.size w w' := by
  simp [Lit.wf, IntKind.min, IntKind.max, IntKind.bits, IntKind.signed] at hN hL
  simp only [maxLen] at hs
  obtain ⟨n, rfl⟩ := Int.eq_ofNat_of_zero_le hL.1
  exact PackPuts_any A c xs N s n w r hc hb hN.1 (by omega) (by omega) (by omega)
end Go.Proofs.Ytokempdkfpbpmaa.Pack
