/- Whether two runs are the same: runs.Same and the reference's Same (walks). -/
import Derived.Test.YtehndlafbbpofaaRunClones
import Derived.Deep.CutRange
namespace Go.Proofs.Ytehndlafbbpofaa.Run
open Go.RowKit Go.Proofs.YtehndlafbbpofaaW.PrintWords Go.Proofs.Ytehndlafbbpofaa.Base Go.Proofs.Ytehndlafbbpofaa.Pack
set_option linter.unusedVariables false
set_option linter.unusedSimpArgs false

def sameB (a b : RunV) : Bool := decide (a.out = b.out) && decide (a.cmd = b.cmd) && decide (a.time = b.time) && decide (a.mark = b.mark) && decide (a.ins = b.ins) && decide (a.found = b.found)
--BEGIN WALK
set_option maxRecDepth 100000 in
set_option maxHeartbeats 8000000 in
theorem psame_any (v1 v2 : Value) (a b : RunV) (w : World) (h1 : RunIs w v1 a) (h2 : RunIs w v2 b) :
    Calls Try.prog 26 #[v1, v2] w fun e w' => e = .returned (.bool (sameB a b)) ∧ Below w.heap.size w w' := by
  obtain ⟨vi1, vf1, rfl, hI1, hF1⟩ := h1
  obtain ⟨vi2, vf2, rfl, hI2, hF2⟩ := h2
  obtain ⟨AI1, cI1, rfl, hcI1, hmI1⟩ := hI1.len
  obtain ⟨AI2, cI2, rfl, hcI2, hmI2⟩ := hI2.len
  obtain ⟨AF1, cF1, rfl, hcF1, hmF1⟩ := hF1.len
  obtain ⟨AF2, cF2, rfl, hcF2, hmF2⟩ := hF2.len
  obtain ⟨i1, hi1⟩ : ∃ i1, i1 = a.ins.length := ⟨_, rfl⟩
  obtain ⟨i2, hi2⟩ : ∃ i2, i2 = b.ins.length := ⟨_, rfl⟩
  obtain ⟨f1, hf1⟩ : ∃ f1, f1 = a.found.length := ⟨_, rfl⟩
  obtain ⟨f2, hf2⟩ : ∃ f2, f2 = b.found.length := ⟨_, rfl⟩
  rw [← hi1] at hI1 hcI1 hmI1 ⊢
  rw [← hi2] at hI2 hcI2 hmI2 ⊢
  rw [← hf1] at hF1 hcF1 hmF1 ⊢
  rw [← hf2] at hF2 hcF2 hmF2 ⊢
  have HN := Lib.hid (And.intro (And.intro hi1 hi2) (And.intro hf1 hf2))
  obtain ⟨Wb, hWb⟩ : ∃ Wb, Wb = (w.alloc (.cells #[.string a.out, .string a.cmd, .int .i64 a.time, .int .i64 a.mark, .slice AI1 i1 cI1, .slice AF1 f1 cF1] 33)).alloc (.cells #[.string b.out, .string b.cmd, .int .i64 b.time, .int .i64 b.mark, .slice AI2 i2 cI2, .slice AF2 f2 cF2] 33) := ⟨_, rfl⟩
  have hb0 : Below w.heap.size w Wb := by rw [hWb]; exact below_alloc (below_alloc (Below.refl _ _) _) _
  have hx1 : Wb.heap[w.heap.size]? = some (.cells #[.string a.out, .string a.cmd, .int .i64 a.time, .int .i64 a.mark, .slice AI1 i1 cI1, .slice AF1 f1 cF1] 33 (0, 0)) := by rw [hWb]; exact (Below.heap_alloc _ _ _ (by simp)).trans (heap_alloc_new w _)
  have hx2 : Wb.heap[w.heap.size + 1]? = some (.cells #[.string b.out, .string b.cmd, .int .i64 b.time, .int .i64 b.mark, .slice AI2 i2 cI2, .slice AF2 f2 cF2] 33 (0, 0)) := by
    have e : (w.alloc (.cells #[.string a.out, .string a.cmd, .int .i64 a.time, .int .i64 a.mark, .slice AI1 i1 cI1, .slice AF1 f1 cF1] 33)).heap.size = w.heap.size + 1 := by simp
    rw [hWb, ← e]
    exact heap_alloc_new _ _
  have I1 := Lib.hid (hI1.below hb0)
  have I2 := Lib.hid (hI2.below hb0)
  have F1 := Lib.hid (hF1.below hb0)
  have F2 := Lib.hid (hF2.below hb0)
  have HB0 := Lib.hid hb0
  have HWB := Lib.hid hWb
  have q10 : Wb.cell? ⟨w.heap.size, 0, none⟩ = some (.string a.out) := blk_cell hx1 0
  have q11 : Wb.cell? ⟨w.heap.size, 1, none⟩ = some (.string a.cmd) := blk_cell hx1 1
  have q12 : Wb.cell? ⟨w.heap.size, 2, none⟩ = some (.int .i64 a.time) := blk_cell hx1 2
  have q13 : Wb.cell? ⟨w.heap.size, 3, none⟩ = some (.int .i64 a.mark) := blk_cell hx1 3
  have q14 : Wb.cell? ⟨w.heap.size, 4, none⟩ = some (.slice AI1 i1 cI1) := blk_cell hx1 4
  have q15 : Wb.cell? ⟨w.heap.size, 5, none⟩ = some (.slice AF1 f1 cF1) := blk_cell hx1 5
  have q20 : Wb.cell? ⟨w.heap.size + 1, 0, none⟩ = some (.string b.out) := blk_cell hx2 0
  have q21 : Wb.cell? ⟨w.heap.size + 1, 1, none⟩ = some (.string b.cmd) := blk_cell hx2 1
  have q22 : Wb.cell? ⟨w.heap.size + 1, 2, none⟩ = some (.int .i64 b.time) := blk_cell hx2 2
  have q23 : Wb.cell? ⟨w.heap.size + 1, 3, none⟩ = some (.int .i64 b.mark) := blk_cell hx2 3
  have q24 : Wb.cell? ⟨w.heap.size + 1, 4, none⟩ = some (.slice AI2 i2 cI2) := blk_cell hx2 4
  have q25 : Wb.cell? ⟨w.heap.size + 1, 5, none⟩ = some (.slice AF2 f2 cF2) := blk_cell hx2 5
  clear hI1 hI2 hF1 hF2 hb0 hWb hx1 hx2 hi1 hi2 hf1 hf2
  by_cases s0 : a.out = b.out
  case neg =>
    have e0 : (a.out.toList == b.out.toList) = false := by rw [str_eq_iff]; exact decide_eq_false s0
    have d0 : (a.out.toList != b.out.toList) = true := by rw [bne, e0]; rfl
    have HS : Hid (sameB a b = false) := by show _ = _; unfold sameB; simp [s0]
    clear s0
    go_enter Try.func26, Try.ntmps26
    go_upto_region 1 with fail
    rw [← HWB.out]
    go_wp2
    go_ret
    exact ⟨by rw [HS.out]; rfl, HB0.out⟩
  have e0 : (a.out.toList == b.out.toList) = true := by rw [str_eq_iff]; exact decide_eq_true s0
  have d0 : (a.out.toList != b.out.toList) = false := by rw [bne, e0]; rfl
  by_cases s1 : a.cmd = b.cmd
  case neg =>
    have e1 : (a.cmd.toList == b.cmd.toList) = false := by rw [str_eq_iff]; exact decide_eq_false s1
    have d1 : (a.cmd.toList != b.cmd.toList) = true := by rw [bne, e1]; rfl
    have HS : Hid (sameB a b = false) := by show _ = _; unfold sameB; simp [s1]
    clear s0 s1
    go_enter Try.func26, Try.ntmps26
    go_upto_region 1 with fail
    rw [← HWB.out]
    go_wp2
    go_ret
    exact ⟨by rw [HS.out]; rfl, HB0.out⟩
  have e1 : (a.cmd.toList == b.cmd.toList) = true := by rw [str_eq_iff]; exact decide_eq_true s1
  have d1 : (a.cmd.toList != b.cmd.toList) = false := by rw [bne, e1]; rfl
  by_cases s2 : a.time = b.time
  case neg =>
    have e2 : (a.time == b.time) = false := by simp [s2]
    have d2 : (a.time != b.time) = true := by simp [s2]
    have HS : Hid (sameB a b = false) := by show _ = _; unfold sameB; simp [s2]
    clear s0 s1 s2
    go_enter Try.func26, Try.ntmps26
    go_upto_region 1 with fail
    rw [← HWB.out]
    go_wp2
    go_ret
    exact ⟨by rw [HS.out]; rfl, HB0.out⟩
  have e2 : (a.time == b.time) = true := by simp [s2]
  have d2 : (a.time != b.time) = false := by simp [s2]
  by_cases s3 : a.mark = b.mark
  case neg =>
    have e3 : (a.mark == b.mark) = false := by simp [s3]
    have d3 : (a.mark != b.mark) = true := by simp [s3]
    have HS : Hid (sameB a b = false) := by show _ = _; unfold sameB; simp [s3]
    clear s0 s1 s2 s3
    go_enter Try.func26, Try.ntmps26
    go_upto_region 1 with fail
    rw [← HWB.out]
    go_wp2
    go_ret
    exact ⟨by rw [HS.out]; rfl, HB0.out⟩
  have e3 : (a.mark == b.mark) = true := by simp [s3]
  have d3 : (a.mark != b.mark) = false := by simp [s3]
  have HS : Hid (sameB a b = (decide (a.ins = b.ins) && decide (a.found = b.found))) := by show _ = _; unfold sameB; simp [s0, s1, s2, s3]
  have HI1 : Hid (Is Wb (.slice AI1 i1 cI1) a.ins) := I1.out
  clear s0 s1 s2 s3
  go_enter Try.func26, Try.ntmps26
  go_upto_region 1 with fail
  rw [← HWB.out]
  go_wp2_with fail
  refine (equal_ins _ _ _ _ _ I1.out I2.out).mono ?_
  rintro e w1 ⟨rfl, hb1⟩
  have HB1 := Lib.hid hb1
  have r15 := pw_cell_below hb1 q15
  have r25 := pw_cell_below hb1 q25
  clear hb1
  obtain ⟨c1, hc1⟩ : ∃ c1, c1 = decide (a.ins = b.ins) := ⟨_, rfl⟩
  rw [← hc1]
  rw [← hc1] at HS
  clear hc1
  cases c1
  · go_wp2
    go_ret
    exact ⟨by rw [HS.out]; rfl, HB0.out.trans (HB1.out.mono HB0.out.size)⟩
  · go_wp2_with fail
    refine (equal_ints _ _ _ _ _ (F1.out.below HB1.out) (F2.out.below HB1.out)).mono ?_
    rintro e w2 ⟨rfl, hb2⟩
    have HB2 := Lib.hid (HB1.out.trans (hb2.mono HB1.out.size))
    clear hb2
    go_wp2
    go_ret
    exact ⟨by rw [HS.out]; rfl, HB0.out.trans (HB2.out.mono HB0.out.size)⟩
set_option maxRecDepth 100000 in
set_option maxHeartbeats 8000000 in
theorem rsame_any (v1 v2 : Value) (a b : RunV) (w : World) (h1 : RunIs w v1 a) (h2 : RunIs w v2 b) :
    Calls Try.prog 20 #[v1, v2] w fun e w' => e = .returned (.bool (sameB a b)) ∧ Below w.heap.size w w' := by
  obtain ⟨vi1, vf1, rfl, hI1, hF1⟩ := h1
  obtain ⟨vi2, vf2, rfl, hI2, hF2⟩ := h2
  obtain ⟨AI1, cI1, rfl, hcI1, hmI1⟩ := hI1.len
  obtain ⟨AI2, cI2, rfl, hcI2, hmI2⟩ := hI2.len
  obtain ⟨AF1, cF1, rfl, hcF1, hmF1⟩ := hF1.len
  obtain ⟨AF2, cF2, rfl, hcF2, hmF2⟩ := hF2.len
  obtain ⟨i1, hi1⟩ : ∃ i1, i1 = a.ins.length := ⟨_, rfl⟩
  obtain ⟨i2, hi2⟩ : ∃ i2, i2 = b.ins.length := ⟨_, rfl⟩
  obtain ⟨f1, hf1⟩ : ∃ f1, f1 = a.found.length := ⟨_, rfl⟩
  obtain ⟨f2, hf2⟩ : ∃ f2, f2 = b.found.length := ⟨_, rfl⟩
  rw [← hi1] at hI1 hcI1 hmI1 ⊢
  rw [← hi2] at hI2 hcI2 hmI2 ⊢
  rw [← hf1] at hF1 hcF1 hmF1 ⊢
  rw [← hf2] at hF2 hcF2 hmF2 ⊢
  have HN := Lib.hid (And.intro (And.intro hi1 hi2) (And.intro hf1 hf2))
  obtain ⟨Wb, hWb⟩ : ∃ Wb, Wb = (w.alloc (.cells #[.string a.out, .string a.cmd, .int .i64 a.time, .int .i64 a.mark, .slice AI1 i1 cI1, .slice AF1 f1 cF1] 25)).alloc (.cells #[.string b.out, .string b.cmd, .int .i64 b.time, .int .i64 b.mark, .slice AI2 i2 cI2, .slice AF2 f2 cF2] 25) := ⟨_, rfl⟩
  have hb0 : Below w.heap.size w Wb := by rw [hWb]; exact below_alloc (below_alloc (Below.refl _ _) _) _
  have hx1 : Wb.heap[w.heap.size]? = some (.cells #[.string a.out, .string a.cmd, .int .i64 a.time, .int .i64 a.mark, .slice AI1 i1 cI1, .slice AF1 f1 cF1] 25 (0, 0)) := by rw [hWb]; exact (Below.heap_alloc _ _ _ (by simp)).trans (heap_alloc_new w _)
  have hx2 : Wb.heap[w.heap.size + 1]? = some (.cells #[.string b.out, .string b.cmd, .int .i64 b.time, .int .i64 b.mark, .slice AI2 i2 cI2, .slice AF2 f2 cF2] 25 (0, 0)) := by
    have e : (w.alloc (.cells #[.string a.out, .string a.cmd, .int .i64 a.time, .int .i64 a.mark, .slice AI1 i1 cI1, .slice AF1 f1 cF1] 25)).heap.size = w.heap.size + 1 := by simp
    rw [hWb, ← e]
    exact heap_alloc_new _ _
  have I1 := Lib.hid (hI1.below hb0)
  have I2 := Lib.hid (hI2.below hb0)
  have F1 := Lib.hid (hF1.below hb0)
  have F2 := Lib.hid (hF2.below hb0)
  have HB0 := Lib.hid hb0
  have HWB := Lib.hid hWb
  have q10 : Wb.cell? ⟨w.heap.size, 0, none⟩ = some (.string a.out) := blk_cell hx1 0
  have q11 : Wb.cell? ⟨w.heap.size, 1, none⟩ = some (.string a.cmd) := blk_cell hx1 1
  have q12 : Wb.cell? ⟨w.heap.size, 2, none⟩ = some (.int .i64 a.time) := blk_cell hx1 2
  have q13 : Wb.cell? ⟨w.heap.size, 3, none⟩ = some (.int .i64 a.mark) := blk_cell hx1 3
  have q14 : Wb.cell? ⟨w.heap.size, 4, none⟩ = some (.slice AI1 i1 cI1) := blk_cell hx1 4
  have q15 : Wb.cell? ⟨w.heap.size, 5, none⟩ = some (.slice AF1 f1 cF1) := blk_cell hx1 5
  have q20 : Wb.cell? ⟨w.heap.size + 1, 0, none⟩ = some (.string b.out) := blk_cell hx2 0
  have q21 : Wb.cell? ⟨w.heap.size + 1, 1, none⟩ = some (.string b.cmd) := blk_cell hx2 1
  have q22 : Wb.cell? ⟨w.heap.size + 1, 2, none⟩ = some (.int .i64 b.time) := blk_cell hx2 2
  have q23 : Wb.cell? ⟨w.heap.size + 1, 3, none⟩ = some (.int .i64 b.mark) := blk_cell hx2 3
  have q24 : Wb.cell? ⟨w.heap.size + 1, 4, none⟩ = some (.slice AI2 i2 cI2) := blk_cell hx2 4
  have q25 : Wb.cell? ⟨w.heap.size + 1, 5, none⟩ = some (.slice AF2 f2 cF2) := blk_cell hx2 5
  clear hI1 hI2 hF1 hF2 hb0 hWb hx1 hx2 hi1 hi2 hf1 hf2
  by_cases s0 : a.out = b.out
  case neg =>
    have e0 : (a.out.toList == b.out.toList) = false := by rw [str_eq_iff]; exact decide_eq_false s0
    have d0 : (a.out.toList != b.out.toList) = true := by rw [bne, e0]; rfl
    have HS : Hid (sameB a b = false) := by show _ = _; unfold sameB; simp [s0]
    clear s0
    go_enter Try.func20, Try.ntmps20
    go_upto_region 1 with fail
    rw [← HWB.out]
    go_wp2
    go_ret
    exact ⟨by rw [HS.out]; rfl, HB0.out⟩
  have e0 : (a.out.toList == b.out.toList) = true := by rw [str_eq_iff]; exact decide_eq_true s0
  have d0 : (a.out.toList != b.out.toList) = false := by rw [bne, e0]; rfl
  by_cases s1 : a.cmd = b.cmd
  case neg =>
    have e1 : (a.cmd.toList == b.cmd.toList) = false := by rw [str_eq_iff]; exact decide_eq_false s1
    have d1 : (a.cmd.toList != b.cmd.toList) = true := by rw [bne, e1]; rfl
    have HS : Hid (sameB a b = false) := by show _ = _; unfold sameB; simp [s1]
    clear s0 s1
    go_enter Try.func20, Try.ntmps20
    go_upto_region 1 with fail
    rw [← HWB.out]
    go_wp2
    go_ret
    exact ⟨by rw [HS.out]; rfl, HB0.out⟩
  have e1 : (a.cmd.toList == b.cmd.toList) = true := by rw [str_eq_iff]; exact decide_eq_true s1
  have d1 : (a.cmd.toList != b.cmd.toList) = false := by rw [bne, e1]; rfl
  by_cases s2 : a.time = b.time
  case neg =>
    have e2 : (a.time == b.time) = false := by simp [s2]
    have d2 : (a.time != b.time) = true := by simp [s2]
    have HS : Hid (sameB a b = false) := by show _ = _; unfold sameB; simp [s2]
    clear s0 s1 s2
    go_enter Try.func20, Try.ntmps20
    go_upto_region 1 with fail
    rw [← HWB.out]
    go_wp2
    go_ret
    exact ⟨by rw [HS.out]; rfl, HB0.out⟩
  have e2 : (a.time == b.time) = true := by simp [s2]
  have d2 : (a.time != b.time) = false := by simp [s2]
  by_cases s3 : a.mark = b.mark
  case neg =>
    have e3 : (a.mark == b.mark) = false := by simp [s3]
    have d3 : (a.mark != b.mark) = true := by simp [s3]
    have HS : Hid (sameB a b = false) := by show _ = _; unfold sameB; simp [s3]
    clear s0 s1 s2 s3
    go_enter Try.func20, Try.ntmps20
    go_upto_region 1 with fail
    rw [← HWB.out]
    go_wp2
    go_ret
    exact ⟨by rw [HS.out]; rfl, HB0.out⟩
  have e3 : (a.mark == b.mark) = true := by simp [s3]
  have d3 : (a.mark != b.mark) = false := by simp [s3]
  by_cases s4 : i1 = i2
  case neg =>
    have dls4 : ((i1 : Int) != (i2 : Int)) = true := by simp only [bne_iff_ne, ne_eq]; omega
    have HS : Hid (sameB a b = false) := by
      show _ = _
      have hne : ¬ a.ins = b.ins := fun e => s4 (by rw [HN.out.1.1, HN.out.1.2, e])
      unfold sameB
      simp [hne]
    clear s4 s0 s1 s2 s3
    go_enter Try.func20, Try.ntmps20
    go_upto_region 1 with fail
    rw [← HWB.out]
    go_wp2
    go_ret
    exact ⟨by rw [HS.out]; rfl, HB0.out⟩
  have dls4 : ((i1 : Int) != (i2 : Int)) = false := by simp only [bne_eq_false_iff_eq]; omega
  by_cases s5 : f1 = f2
  case neg =>
    have dls5 : ((f1 : Int) != (f2 : Int)) = true := by simp only [bne_iff_ne, ne_eq]; omega
    have HS : Hid (sameB a b = false) := by
      show _ = _
      have hne : ¬ a.found = b.found := fun e => s5 (by rw [HN.out.2.1, HN.out.2.2, e])
      unfold sameB
      simp [hne]
    clear s5 s0 s1 s2 s3 s4
    go_enter Try.func20, Try.ntmps20
    go_upto_region 1 with fail
    rw [← HWB.out]
    go_wp2
    go_ret
    exact ⟨by rw [HS.out]; rfl, HB0.out⟩
  have dls5 : ((f1 : Int) != (f2 : Int)) = false := by simp only [bne_eq_false_iff_eq]; omega
  have HS : Hid (sameB a b = (decide (a.ins = b.ins) && decide (a.found = b.found))) := by show _ = _; unfold sameB; simp [s0, s1, s2, s3]
  have HL := Lib.hid (And.intro s4 s5)
  clear s0 s1 s2 s3 s4 s5
  go_enter Try.func20, Try.ntmps20
  go_upto_region 1 with fail
  rw [← HWB.out]
  go_wp2
  clear e0 d0 e1 d1 e2 d2 e3 d3 q10 q11 q12 q13 q20 q21 q22 q23 dls4 dls5
  go_loopw [5] (fun i wr => ∃ k : Nat, k ≤ i1 ∧ i = .int .i64 k ∧ Hid (a.ins.take k = b.ins.take k) ∧ Hid (Below Wb.heap.size Wb wr)) (fun i _ => i1 - (intOf i).toNat)
  case atStart => exact ⟨0, by omega, rfl, by show _ = _; rw [List.take_zero, List.take_zero], Below.refl _ _⟩
  case round =>
    obtain ⟨k, hk, rfl, HT, HB⟩ := hrel
    have p14 := pw_cell_below HB.out q14
    have p24 := pw_cell_below HB.out q24
    by_cases t1 : k < i1
    · have t2 : k < i2 := by have := HL.out.1; omega
      obtain ⟨ad1, e1, z1, y1⟩ := I1.out.get k (by rw [← HN.out.1.1]; exact t1)
      obtain ⟨ad2, e2, z2, y2⟩ := I2.out.get k (by rw [← HN.out.1.2]; exact t2)
      subst e1
      subst e2
      obtain ⟨x1, hx1⟩ : ∃ x1, x1 = a.ins.getD k (ByteArray.empty, 0) := ⟨_, rfl⟩
      obtain ⟨x2, hx2⟩ : ∃ x2, x2 = b.ins.getD k (ByteArray.empty, 0) := ⟨_, rfl⟩
      rw [← hx1] at z1 y1
      rw [← hx2] at z2 y2
      have HX1 := Lib.hid hx1
      have HX2 := Lib.hid hx2
      clear hx1 hx2
      obtain ⟨t1', m1⟩ := x1
      obtain ⟨t2', m2⟩ := x2
      simp only at z1 y1 z2 y2
      have p1 := pw_cell_below HB.out z1
      have p2 := pw_cell_below HB.out z2
      have p3 := second_cell (pw_cell_below HB.out y1)
      have p4 := second_cell (pw_cell_below HB.out y2)
      clear z1 z2 y1 y2 q14 q24 q15 q25
      by_cases hx : (t1', m1) = (t2', m2)
      · obtain ⟨rfl, rfl⟩ := Prod.mk.inj hx
        have b1 : (t1'.toList == t1'.toList) = true := by simp
        have b2 : (m1 == m1) = true := by simp
        have HT2 : Hid (a.ins.take (k + 1) = b.ins.take (k + 1)) := take_ext (d := (ByteArray.empty, 0)) HT.out (by rw [← HN.out.1.1]; exact t1) (by rw [← HN.out.1.2]; exact t2) (by rw [← HX1.out, ← HX2.out])
        clear hx
        go_wp2
        go_quiet (fail)
        go_wp2
        go_roundw
        case rel => exact ⟨k + 1, by omega, by go_num, HT2.out, pw_below_drewN HB.out _⟩
        case measure => simp [intOf]; omega
      · have HNE : Hid (sameB a b = false) := by
          show _ = _
          rw [HS.out, decide_eq_false (fun e => hx (by rw [HX1.out, HX2.out, e]))]
          rfl
        by_cases hs : t1' = t2'
        · subst hs
          have hmm : m1 ≠ m2 := fun e => hx (by rw [e])
          have b1 : (t1'.toList == t1'.toList) = true := by simp
          have b2 : (m1 == m2) = false := by simp [hmm]
          clear hmm hx
          go_wp2
          go_quiet (fail)
          go_wp2
          go_ret
          exact ⟨by rw [HNE.out]; rfl, HB0.out.trans ((pw_below_drewN HB.out _).mono HB0.out.size)⟩
        · have b1 : (t1'.toList == t2'.toList) = false := by rw [str_eq_iff]; exact decide_eq_false hs
          clear hs hx
          go_wp2
          go_quiet (fail)
          go_wp2
          go_ret
          exact ⟨by rw [HNE.out]; rfl, HB0.out.trans ((pw_below_drewN HB.out _).mono HB0.out.size)⟩
    · have HEQ : Hid (a.ins = b.ins) := by
        have h := HT.out
        rw [List.take_of_length_le (by rw [← HN.out.1.1]; omega), List.take_of_length_le (by rw [← HN.out.1.2, ← HL.out.1]; omega)] at h
        exact h
      go_wp2
      clear p14 p24
      obtain ⟨Wc, hWc⟩ : ∃ Wc, Wc = wr := ⟨_, rfl⟩
      rw [← hWc] at HB ⊢
      clear hWc
      go_loopw [6] (fun i wr => ∃ k : Nat, k ≤ f1 ∧ i = .int .i64 k ∧ Hid (a.found.take k = b.found.take k) ∧ Hid (Below Wb.heap.size Wb wr)) (fun i _ => f1 - (intOf i).toNat)
      case atStart => exact ⟨0, by omega, rfl, by show _ = _; rw [List.take_zero, List.take_zero], HB.out⟩
      case round =>
        clear HB HT
        obtain ⟨k, hk, rfl, HT, HB⟩ := hrel
        have p15 := pw_cell_below HB.out q15
        have p25 := pw_cell_below HB.out q25
        clear q14 q24 q15 q25
        by_cases t1 : k < f1
        · have t2 : k < f2 := by have := HL.out.2; omega
          obtain ⟨A', c', e', _, hrf⟩ := F1.out
          injection e' with e'1 e'2 e'3
          subst e'1
          obtain ⟨ad1, e1, z1⟩ := at_nat hrf k (by rw [← HN.out.2.1]; exact t1)
          obtain ⟨A', c', e', _, hrf2⟩ := F2.out
          injection e' with e'4 e'5 e'6
          subst e'4
          obtain ⟨ad2, e2, z2⟩ := at_nat hrf2 k (by rw [← HN.out.2.2]; exact t2)
          subst e1
          subst e2
          have p1 := pw_cell_below HB.out z1
          have p2 := pw_cell_below HB.out z2
          obtain ⟨x1, hx1⟩ : ∃ x1, x1 = rd a.found k := ⟨_, rfl⟩
          obtain ⟨x2, hx2⟩ : ∃ x2, x2 = rd b.found k := ⟨_, rfl⟩
          rw [← hx1] at p1
          rw [← hx2] at p2
          have HX1 := Lib.hid hx1
          have HX2 := Lib.hid hx2
          clear z1 z2 hrf hrf2 e'2 e'3 e'5 e'6 hx1 hx2
          by_cases hx : x1 = x2
          · have hb : (x1 != x2) = false := by simp [hx]
            have HT2 : Hid (a.found.take (k + 1) = b.found.take (k + 1)) := take_ext (d := 0) HT.out (by rw [← HN.out.2.1]; exact t1) (by rw [← HN.out.2.2]; exact t2) (by have h := hx; rw [HX1.out, HX2.out] at h; unfold rd at h; rw [Int.toNat_natCast] at h; exact h)
            clear hx
            go_wp2
            go_quiet (fail)
            go_wp2
            go_roundw
            case rel => exact ⟨k + 1, by omega, by go_num, HT2.out, pw_below_drewN HB.out _⟩
            case measure => simp [intOf]; omega
          · have hb : (x1 != x2) = true := by simp [hx]
            have HNE : Hid (sameB a b = false) := by
              show _ = _
              rw [HS.out, decide_eq_false (show ¬ a.found = b.found from fun e => hx (by rw [HX1.out, HX2.out, e])), Bool.and_false]
            clear hx
            go_wp2
            go_quiet (fail)
            go_wp2
            go_ret
            exact ⟨by rw [HNE.out]; rfl, HB0.out.trans ((pw_below_drewN HB.out _).mono HB0.out.size)⟩
        · have HEQ2 : Hid (sameB a b = true) := by
            have h := HT.out
            rw [List.take_of_length_le (by rw [← HN.out.2.1]; omega), List.take_of_length_le (by rw [← HN.out.2.2, ← HL.out.2]; omega)] at h
            show _ = _
            rw [HS.out, decide_eq_true HEQ.out, decide_eq_true h]
            rfl
          go_wp2
          go_ret
          exact ⟨by rw [HEQ2.out]; rfl, HB0.out.trans (HB.out.mono HB0.out.size)⟩
--END WALK
end Go.Proofs.Ytehndlafbbpofaa.Run
