/- Cutting bytes that are read; bytes.Equal and bytes.HasPrefix. -/
import Derived.Test.YtononoakdebjeaaGreatDoorPackAll
namespace Go.Proofs.YtononoakdebjeaaGreatDoor.Pack
open Go.RowKit Go.Proofs.YtononoakdebjeaaGreatDoorW.PrintWords Go.Proofs.YtononoakdebjeaaGreatDoor.Base
set_option linter.unusedVariables false
set_option linter.unusedSimpArgs false

theorem cut_mid {w : World} {v : Value} {xs : List Int} (h : Bs w v xs) (lo hi : Nat) (h1 : lo ≤ hi) (h2 : hi ≤ xs.length) :
    ∃ u, (∀ W, (Instr.slice 23 v (some (.int .i64 (lo : Int))) (some (.int .i64 (hi : Int))) none).run Tryz.prog W = .ok u W) ∧ Bs w u ((xs.drop lo).take (hi - lo)) := by
  obtain ⟨A, c, rfl, hc, hr⟩ := h
  obtain ⟨i0, hi0, hz⟩ := info_u8'
  have hel : Tryz.prog.elem 23 = 5 := by simp [Program.elem, Tryz.underlying23]
  have hu : Tryz.prog.underlying 23 = some (.slice (Tryz.prog.elem 23)) := by rw [hel]; exact Tryz.underlying23
  have hd := (hr.drop_ (c := c) lo (by omega) hc).take_ (hi - lo) (by omega)
  have hl : ((xs.drop lo).take (hi - lo)).length = hi - lo := by rw [List.length_take, List.length_drop]; omega
  refine ⟨.slice (if c = lo then A else A.map (·.add lo)) (hi - lo) (c - lo), fun W => ?_, ⟨_, c - lo, by rw [hl], by rw [hl]; omega, by rw [hl]; exact hd⟩⟩
  rw [run_slice_lh W 23 A xs.length c hu .i64 .i64 (lo : Int) (hi : Int) (by omega) (by omega) (by omega), hel]
  simp [sizeOf, typeInfo, hi0, hz, sliced, Result.andThen]
theorem cut_from {w : World} {v : Value} {xs : List Int} (h : Bs w v xs) (lo : Nat) (h1 : lo ≤ xs.length) :
    ∃ u, (∀ W, (Instr.slice 23 v (some (.int .i64 (lo : Int))) none none).run Tryz.prog W = .ok u W) ∧ Bs w u (xs.drop lo) := by
  obtain ⟨A, c, rfl, hc, hr⟩ := h
  obtain ⟨i0, hi0, hz⟩ := info_u8'
  have hel : Tryz.prog.elem 23 = 5 := by simp [Program.elem, Tryz.underlying23]
  have hu : Tryz.prog.underlying 23 = some (.slice (Tryz.prog.elem 23)) := by rw [hel]; exact Tryz.underlying23
  have hd := hr.drop_ (c := c) lo (by omega) hc
  have hl : (xs.drop lo).length = xs.length - lo := by rw [List.length_drop]
  refine ⟨.slice (if c = lo then A else A.map (·.add lo)) (xs.length - lo) (c - lo), fun W => ?_, ⟨_, c - lo, by rw [hl], by rw [hl]; omega, by rw [hl]; exact hd⟩⟩
  rw [run_slice_l W 23 A xs.length c hu .i64 (lo : Int) (by omega) (by omega), hel]
  simp [sizeOf, typeInfo, hi0, hz, sliced, Result.andThen]
theorem cut_to {w : World} {v : Value} {xs : List Int} (h : Bs w v xs) (hi : Nat) (h2 : hi ≤ xs.length) :
    ∃ u, (∀ W, (Instr.slice 23 v none (some (.int .i64 (hi : Int))) none).run Tryz.prog W = .ok u W) ∧ Bs w u (xs.take hi) := by
  obtain ⟨A, c, rfl, hc, hr⟩ := h
  have hl : (xs.take hi).length = hi := by rw [List.length_take]; omega
  exact ⟨.slice A hi c, fun W => cut_cap A xs.length c hi (by omega) W, ⟨A, c, by rw [hl], by rw [hl]; omega, by rw [hl]; exact hr.take_ hi h2⟩⟩

theorem equal_any (v1 v2 : Value) (xs ys : List Int) (w : World) (h1 : Bs w v1 xs) (h2 : Bs w v2 ys) (b1 : Bytes xs) (b2 : Bytes ys) :
    Calls Tryz.prog 86 #[v1, v2] w fun e w' => e = .returned (.bool (decide (xs = ys))) ∧ w = w' := by
  have k1 := str_of h1
  have k2 := str_of h2
  have HE := Lib.hid (str_eql b1 b2)
  obtain ⟨A1, c1, rfl, _, _⟩ := h1.len
  obtain ⟨A2, c2, rfl, _, _⟩ := h2.len
  clear h1 h2 b1 b2
  go_enter Tryz.func86, Tryz.ntmps86
  go_wp2
  go_ret
  exact ⟨congrArg (fun b => Ending.returned (.bool b)) HE.out, rfl⟩

theorem prefix_any (v1 v2 : Value) (xs ys : List Int) (w : World) (h1 : Bs w v1 xs) (h2 : Bs w v2 ys) (b1 : Bytes xs) (b2 : Bytes ys) :
    Calls Tryz.prog 74 #[v1, v2] w fun e w' => e = .returned (.bool (decide (xs.take ys.length = ys))) ∧ w = w' := by
  by_cases hle : ys.length ≤ xs.length
  · obtain ⟨u, ku, hu⟩ := cut_to h1 ys.length hle
    obtain ⟨A1, c1, rfl, _, _⟩ := h1.len
    obtain ⟨A2, c2, rfl, _, _⟩ := h2.len
    have HU := Lib.hid hu
    have H2 := Lib.hid h2
    have HB := Lib.hid (And.intro (b1.take ys.length) b2)
    clear h1 h2 b1 b2 hu
    go_enter Tryz.func74, Tryz.ntmps74
    go_wp2_with fail
    refine (equal_any _ _ _ _ _ HU.out H2.out HB.out.1 HB.out.2).mono ?_
    rintro e w' ⟨rfl, rfl⟩
    go_wp2
    go_ret
    exact ⟨rfl, rfl⟩
  · have hne : Hid (decide (xs.take ys.length = ys) = false) := by
      refine decide_eq_false (fun h => ?_)
      have := congrArg List.length h
      rw [List.length_take] at this
      omega
    obtain ⟨A1, c1, rfl, _, _⟩ := h1.len
    obtain ⟨A2, c2, rfl, _, _⟩ := h2.len
    clear h1 h2 b1 b2
    go_enter Tryz.func74, Tryz.ntmps74
    go_wp2
    go_ret
    exact ⟨by rw [hne.out]; rfl, rfl⟩
end Go.Proofs.YtononoakdebjeaaGreatDoor.Pack
