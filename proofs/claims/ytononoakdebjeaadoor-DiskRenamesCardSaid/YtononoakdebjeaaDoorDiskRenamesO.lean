/- The argument of DiskRenames, opened. -/
import Derived.Test.YtononoakdebjeaaDoorDkAll
import Derived.Test.YtononoakdebjeaaDoorArgs
import Derived.ChangeSame
namespace Go.Proofs.YtononoakdebjeaaDoor.Dk
open Go.RowKit Go.Proofs.YtononoakdebjeaaDoorW.PrintWords Go.Proofs.YtononoakdebjeaaDoor.Base Go.ChangeShapes Go.WideShapes
set_option linter.unusedVariables false
set_option linter.unusedSimpArgs false
section
variable {H : Type} {enc : TypeId × Value → H} {W : World} {base fuel : Nat} {spare : Nat → Bool} {held : Bool}
set_option maxRecDepth 100000 in
theorem open_keepc {cs : List Value} {x : DataW H × List MemPlace} (h : DataW.trod enc Tryd.prog W base spare held fuel 57 cs = some x) :
    ∃ (n : Int) (t : Value) (tails : List Int), cs = [.int .i64 n, t] ∧ (-9223372036854775808 ≤ n ∧ n ≤ 9223372036854775807) ∧ Ti W t tails := by
  obtain ⟨xs, n, _, _, hl, hlen, hF⟩ := DataW.trod_struct Tryd.underlying57 h
  have c0 : Tryd.prog.cellsOf 57 = 2 := by kernel_rfl
  have c1 : Tryd.prog.cellsOf 3 = 1 := by kernel_rfl
  have c2 : Tryd.prog.cellsOf 55 = 1 := by kernel_rfl
  rw [c0] at hl
  match cs, hl with
  | [a, b], _ =>
    match xs, hlen with
    | [y0, y1], _ =>
      have f0 : DataW.trod enc Tryd.prog W base spare held n 3 [a] = some y0 := by have := hF 0 _ rfl; simpa [c1] using this
      have f1 : DataW.trod enc Tryd.prog W base spare held n 55 [b] = some y1 := by have := hF 1 _ rfl; simpa [c2] using this
      obtain ⟨m, e0, _, w0⟩ := DataW.trod_int Tryd.underlying3 f0
      obtain rfl := List.singleton_inj.1 e0
      obtain ⟨A, l, c, e1, r1, _, _⟩ := open_nums Tryd.underlying55 Tryd.underlying3 (by kernel_rfl) f1
      obtain rfl := List.singleton_inj.1 e1
      exact ⟨m, _, l, rfl, by simp [Lit.wf, IntKind.min, IntKind.max, IntKind.bits, IntKind.signed] at w0; omega, A, c, rfl, r1⟩
set_option maxRecDepth 100000 in
theorem open_renc {cs : List Value} {x : DataW H × List MemPlace} (h : DataW.trod enc Tryd.prog W base spare held fuel 60 cs = some x) :
    ∃ (u v t : Value) (was thn tails : List Int) (arm : Nat) (n : Int), cs = [u, v, .int .u8 (arm : Int), .int .i64 n, t] ∧ Bs W u was ∧ Bs W v thn ∧ Ti W t tails ∧ arm ≤ 255 ∧ (-9223372036854775808 ≤ n ∧ n ≤ 9223372036854775807) := by
  obtain ⟨xs, n, _, _, hl, hlen, hF⟩ := DataW.trod_struct Tryd.underlying60 h
  have c0 : Tryd.prog.cellsOf 60 = 5 := by kernel_rfl
  have c1 : Tryd.prog.cellsOf 22 = 1 := by kernel_rfl
  have c2 : Tryd.prog.cellsOf 5 = 1 := by kernel_rfl
  have c3 : Tryd.prog.cellsOf 57 = 2 := by kernel_rfl
  rw [c0] at hl
  match cs, hl with
  | [a, b, c, d, e], _ =>
    match xs, hlen with
    | [y0, y1, y2, y3], _ =>
      have f0 : DataW.trod enc Tryd.prog W base spare held n 22 [a] = some y0 := by have := hF 0 _ rfl; simpa [c1] using this
      have f1 : DataW.trod enc Tryd.prog W base spare held n 22 [b] = some y1 := by have := hF 1 _ rfl; simpa [c1] using this
      have f2 : DataW.trod enc Tryd.prog W base spare held n 5 [c] = some y2 := by have := hF 2 _ rfl; simpa [c2] using this
      have f3 : DataW.trod enc Tryd.prog W base spare held n 57 [d, e] = some y3 := by have := hF 3 _ rfl; simpa [c3] using this
      obtain ⟨A1, l1, k1, e1, r1, hk1, _⟩ := open_nums Tryd.underlying22 Tryd.underlying5 (by kernel_rfl) f0
      obtain rfl := List.singleton_inj.1 e1
      obtain ⟨A2, l2, k2, e2, r2, hk2, _⟩ := open_nums Tryd.underlying22 Tryd.underlying5 (by kernel_rfl) f1
      obtain rfl := List.singleton_inj.1 e2
      obtain ⟨m, e3, _, w3⟩ := DataW.trod_int Tryd.underlying5 f2
      obtain rfl := List.singleton_inj.1 e3
      simp [Lit.wf, IntKind.min, IntKind.max, IntKind.bits, IntKind.signed] at w3
      obtain ⟨q, rfl⟩ : ∃ q : Nat, m = (q : Int) := ⟨m.toNat, by omega⟩
      obtain ⟨z, t, tails, e4, hz, ht⟩ := open_keepc f3
      cases e4
      exact ⟨_, _, _, l1, l2, tails, q, z, rfl, ⟨A1, k1, rfl, hk1, r1⟩, ⟨A2, k2, rfl, hk2, r2⟩, ht, by omega, hz⟩
set_option maxRecDepth 100000 in
theorem open_renamed {r0 : Reach} {b0 : Nat} {v : Value} {d : DataW H} {ps : List MemPlace} (hv : Value.okWide Tryd.prog W r0 b0 60 v) (h : DataW.Trod enc Tryd.prog W base spare held 60 v d ps) :
    ∃ (u u' t : Value) (was thn tails : List Int) (arm : Nat) (n : Int), v = .agg #[u, u', .int .u8 (arm : Int), .int .i64 n, t] ∧ Bs W u was ∧ Bs W u' thn ∧ Ti W t tails ∧ arm ≤ 255 ∧ (-9223372036854775808 ≤ n ∧ n ≤ 9223372036854775807) := by
  obtain ⟨cs, rfl, hsz⟩ := okWide_struct Tryd.underlying60 hv
  obtain ⟨fuel, hf⟩ := h
  obtain ⟨u, u', t, was, thn, tails, arm, n, e, hr⟩ := open_renc hf
  refine ⟨u, u', t, was, thn, tails, arm, n, ?_, hr⟩
  have e2 : cs.toList = [u, u', .int .u8 (arm : Int), .int .i64 n, t] := e
  rw [← Array.toArray_toList (xs := cs), e2]
end
end Go.Proofs.YtononoakdebjeaaDoor.Dk
