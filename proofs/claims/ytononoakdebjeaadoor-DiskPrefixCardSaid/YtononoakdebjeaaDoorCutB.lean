/- Cutting bytes that are read. -/
import Derived.Test.YtononoakdebjeaaDoorPackFns
namespace Go.Proofs.YtononoakdebjeaaDoor.Pack
open Go.RowKit Go.Proofs.YtononoakdebjeaaDoorW.PrintWords Go.Proofs.YtononoakdebjeaaDoor.Base
set_option linter.unusedVariables false
set_option linter.unusedSimpArgs false

theorem cut_mid {w : World} {v : Value} {xs : List Int} (h : Bs w v xs) (lo hi : Nat) (h1 : lo ≤ hi) (h2 : hi ≤ xs.length) :
    ∃ u, (∀ W, (Instr.slice 22 v (some (.int .i64 (lo : Int))) (some (.int .i64 (hi : Int))) none).run Tryd.prog W = .ok u W) ∧ Bs w u ((xs.drop lo).take (hi - lo)) := by
  obtain ⟨A, c, rfl, hc, hr⟩ := h
  obtain ⟨i0, hi0, hz⟩ := info_u8'
  have hel : Tryd.prog.elem 22 = 5 := by simp [Program.elem, Tryd.underlying22]
  have hu : Tryd.prog.underlying 22 = some (.slice (Tryd.prog.elem 22)) := by rw [hel]; exact Tryd.underlying22
  have hd := (hr.drop_ (c := c) lo (by omega) hc).take_ (hi - lo) (by omega)
  have hl : ((xs.drop lo).take (hi - lo)).length = hi - lo := by rw [List.length_take, List.length_drop]; omega
  refine ⟨.slice (if c = lo then A else A.map (·.add lo)) (hi - lo) (c - lo), fun W => ?_, ⟨_, c - lo, by rw [hl], by rw [hl]; omega, by rw [hl]; exact hd⟩⟩
  rw [run_slice_lh W 22 A xs.length c hu .i64 .i64 (lo : Int) (hi : Int) (by omega) (by omega) (by omega), hel]
  simp [sizeOf, typeInfo, hi0, hz, sliced, Result.andThen]
theorem cut_from {w : World} {v : Value} {xs : List Int} (h : Bs w v xs) (lo : Nat) (h1 : lo ≤ xs.length) :
    ∃ u, (∀ W, (Instr.slice 22 v (some (.int .i64 (lo : Int))) none none).run Tryd.prog W = .ok u W) ∧ Bs w u (xs.drop lo) := by
  obtain ⟨A, c, rfl, hc, hr⟩ := h
  obtain ⟨i0, hi0, hz⟩ := info_u8'
  have hel : Tryd.prog.elem 22 = 5 := by simp [Program.elem, Tryd.underlying22]
  have hu : Tryd.prog.underlying 22 = some (.slice (Tryd.prog.elem 22)) := by rw [hel]; exact Tryd.underlying22
  have hd := hr.drop_ (c := c) lo (by omega) hc
  have hl : (xs.drop lo).length = xs.length - lo := by rw [List.length_drop]
  refine ⟨.slice (if c = lo then A else A.map (·.add lo)) (xs.length - lo) (c - lo), fun W => ?_, ⟨_, c - lo, by rw [hl], by rw [hl]; omega, by rw [hl]; exact hd⟩⟩
  rw [run_slice_l W 22 A xs.length c hu .i64 (lo : Int) (by omega) (by omega), hel]
  simp [sizeOf, typeInfo, hi0, hz, sliced, Result.andThen]
theorem cut_to {w : World} {v : Value} {xs : List Int} (h : Bs w v xs) (hi : Nat) (h2 : hi ≤ xs.length) :
    ∃ u, (∀ W, (Instr.slice 22 v none (some (.int .i64 (hi : Int))) none).run Tryd.prog W = .ok u W) ∧ Bs w u (xs.take hi) := by
  obtain ⟨A, c, rfl, hc, hr⟩ := h
  have hl : (xs.take hi).length = hi := by rw [List.length_take]; omega
  exact ⟨.slice A hi c, fun W => cut_cap A xs.length c hi (by omega) W, ⟨A, c, by rw [hl], by rw [hl]; omega, by rw [hl]; exact hr.take_ hi h2⟩⟩

end Go.Proofs.YtononoakdebjeaaDoor.Pack
