/- The reference's Same on runs that are alike (a walk). -/
import Derived.Test.YtehndlafbbpofaaRunTimes
import Derived.Test.YtehndlafbbpofaaPackRead
import Derived.Deep.CutRange
namespace Go.Proofs.Ytehndlafbbpofaa.Run
open Go.RowKit Go.Proofs.YtehndlafbbpofaaW.PrintWords Go.Proofs.Ytehndlafbbpofaa.Base Go.Proofs.Ytehndlafbbpofaa.Pack
set_option linter.unusedVariables false
set_option linter.unusedSimpArgs false

set_option maxRecDepth 100000 in
set_option maxHeartbeats 4000000 in
theorem same_true (v1 v2 : Value) (r : RunV) (w : World) (h1 : RunIs w v1 r) (h2 : RunIs w v2 r) :
    Calls Try.prog 20 #[v1, v2] w fun e w' => e = .returned (.bool true) ∧ Below w.heap.size w w' := by
  obtain ⟨vi1, vf1, rfl, hI1, hF1⟩ := h1
  obtain ⟨vi2, vf2, rfl, hI2, hF2⟩ := h2
  obtain ⟨AI1, cI1, rfl, hcI1, hmI1⟩ := hI1.len
  obtain ⟨AI2, cI2, rfl, hcI2, hmI2⟩ := hI2.len
  obtain ⟨AF1, cF1, rfl, hcF1, hmF1⟩ := hF1.len
  obtain ⟨AF2, cF2, rfl, hcF2, hmF2⟩ := hF2.len
  obtain ⟨out, cmd, time, mark, ins, found⟩ := r
  simp only at hcI1 hmI1 hcI2 hmI2 hcF1 hmF1 hcF2 hmF2 hI1 hI2 hF1 hF2
  obtain ⟨Wb, hWb⟩ : ∃ Wb, Wb = (w.alloc (.cells #[.string out, .string cmd, .int .i64 time, .int .i64 mark, .slice AI1 ins.length cI1, .slice AF1 found.length cF1] 25)).alloc (.cells #[.string out, .string cmd, .int .i64 time, .int .i64 mark, .slice AI2 ins.length cI2, .slice AF2 found.length cF2] 25) := ⟨_, rfl⟩
  have hb0 : Below w.heap.size w Wb := by rw [hWb]; exact below_alloc (below_alloc (Below.refl _ _) _) _
  have hx1 : Wb.heap[w.heap.size]? = some (.cells #[.string out, .string cmd, .int .i64 time, .int .i64 mark, .slice AI1 ins.length cI1, .slice AF1 found.length cF1] 25 (0, 0)) := by rw [hWb]; exact (Below.heap_alloc _ _ _ (by simp)).trans (heap_alloc_new w _)
  have hx2 : Wb.heap[w.heap.size + 1]? = some (.cells #[.string out, .string cmd, .int .i64 time, .int .i64 mark, .slice AI2 ins.length cI2, .slice AF2 found.length cF2] 25 (0, 0)) := by
    have e : (w.alloc (.cells #[.string out, .string cmd, .int .i64 time, .int .i64 mark, .slice AI1 ins.length cI1, .slice AF1 found.length cF1] 25)).heap.size = w.heap.size + 1 := by simp
    rw [hWb, ← e]
    exact heap_alloc_new _ _
  have I1 := Lib.hid (hI1.below hb0)
  have I2 := Lib.hid (hI2.below hb0)
  have F1 := Lib.hid (hF1.below hb0)
  have F2 := Lib.hid (hF2.below hb0)
  have X1 := Lib.hid hx1
  have X2 := Lib.hid hx2
  have HB0 := Lib.hid hb0
  have HWB := Lib.hid hWb
  have b1 : (out.toList != out.toList) = false := by simp
  have b2 : (cmd.toList != cmd.toList) = false := by simp
  have b3 : (time != time) = false := by simp
  have b4 : (mark != mark) = false := by simp
  have b5 : ((ins.length : Int) != (ins.length : Int)) = false := by simp
  have b6 : ((found.length : Int) != (found.length : Int)) = false := by simp
  clear hI1 hI2 hF1 hF2 hb0 hWb hx1 hx2
  go_enter Try.func20, Try.ntmps20
  go_upto_region 1 with fail
  rw [← HWB.out]
  have q10 : Wb.cell? ⟨w.heap.size, 0, none⟩ = some (.string out) := blk_cell X1.out 0
  have q11 : Wb.cell? ⟨w.heap.size, 1, none⟩ = some (.string cmd) := blk_cell X1.out 1
  have q12 : Wb.cell? ⟨w.heap.size, 2, none⟩ = some (.int .i64 time) := blk_cell X1.out 2
  have q13 : Wb.cell? ⟨w.heap.size, 3, none⟩ = some (.int .i64 mark) := blk_cell X1.out 3
  have q14 : Wb.cell? ⟨w.heap.size, 4, none⟩ = some (.slice AI1 ins.length cI1) := blk_cell X1.out 4
  have q15 : Wb.cell? ⟨w.heap.size, 5, none⟩ = some (.slice AF1 found.length cF1) := blk_cell X1.out 5
  have q20 : Wb.cell? ⟨w.heap.size + 1, 0, none⟩ = some (.string out) := blk_cell X2.out 0
  have q21 : Wb.cell? ⟨w.heap.size + 1, 1, none⟩ = some (.string cmd) := blk_cell X2.out 1
  have q22 : Wb.cell? ⟨w.heap.size + 1, 2, none⟩ = some (.int .i64 time) := blk_cell X2.out 2
  have q23 : Wb.cell? ⟨w.heap.size + 1, 3, none⟩ = some (.int .i64 mark) := blk_cell X2.out 3
  have q24 : Wb.cell? ⟨w.heap.size + 1, 4, none⟩ = some (.slice AI2 ins.length cI2) := blk_cell X2.out 4
  have q25 : Wb.cell? ⟨w.heap.size + 1, 5, none⟩ = some (.slice AF2 found.length cF2) := blk_cell X2.out 5
  go_wp2
  clear q10 q11 q12 q13 q20 q21 q22 q23 b1 b2 b3 b4 b5 b6
  go_loopw [5] (fun i wr => ∃ k : Nat, k ≤ ins.length ∧ i = .int .i64 k ∧ Hid (Below Wb.heap.size Wb wr)) (fun i _ => ins.length - (intOf i).toNat)
  case atStart => exact ⟨0, by omega, rfl, Below.refl _ _⟩
  case round =>
    obtain ⟨k, hk, rfl, HB⟩ := hrel
    have p14 := pw_cell_below HB.out q14
    have p24 := pw_cell_below HB.out q24
    by_cases l1 : k < ins.length
    · obtain ⟨ad1, e1, c11, c12⟩ := I1.out.get k l1
      obtain ⟨ad2, e2, c21, c22⟩ := I2.out.get k l1
      cases e1
      cases e2
      generalize ins.getD k (ByteArray.empty, 0) = pk at c11 c12 c21 c22
      obtain ⟨nm, tm⟩ := pk
      simp only at c11 c12 c21 c22
      have d11 := pw_cell_below HB.out c11
      have d12 := second_cell (pw_cell_below HB.out c12)
      have d21 := pw_cell_below HB.out c21
      have d22 := second_cell (pw_cell_below HB.out c22)
      have b1 : (nm.toList == nm.toList) = true := by simp
      have b2 : (tm == tm) = true := by simp
      have b3 : (nm.toList != nm.toList) = false := by simp
      have b4 : (tm != tm) = false := by simp
      clear c11 c12 c21 c22 q14 q24 q15 q25
      go_wp2
      go_quiet (fail)
      go_wp2
      go_roundw
      case rel => exact ⟨k + 1, by omega, by go_num, pw_below_drewN HB.out _⟩
      case measure => simp [intOf]; omega
    · go_wp2
      clear p14 p24
      obtain ⟨Wc, hWc⟩ : ∃ Wc, Wc = wr := ⟨_, rfl⟩
      rw [← hWc] at HB ⊢
      clear hWc
      go_loopw [6] (fun i wr => ∃ k : Nat, k ≤ found.length ∧ i = .int .i64 k ∧ Hid (Below Wb.heap.size Wb wr)) (fun i _ => found.length - (intOf i).toNat)
      case atStart => exact ⟨0, by omega, rfl, HB.out⟩
      case round =>
        clear HB
        obtain ⟨k, hk, rfl, HB⟩ := hrel
        have p15 := pw_cell_below HB.out q15
        have p25 := pw_cell_below HB.out q25
        clear q14 q24 q15 q25
        by_cases l2 : k < found.length
        · obtain ⟨A', c', e', hcc, hrf⟩ := F1.out
          cases e'
          obtain ⟨ad1, e1, c11⟩ := at_nat hrf k l2
          cases e1
          obtain ⟨A', c', e', hcc2, hrf2⟩ := F2.out
          cases e'
          obtain ⟨ad2, e2, c21⟩ := at_nat hrf2 k l2
          cases e2
          generalize rd found (k : Int) = tm at c11 c21
          have d11 := pw_cell_below HB.out c11
          have d21 := pw_cell_below HB.out c21
          have b4 : (tm != tm) = false := by simp
          clear c11 c21 hrf hrf2
          go_wp2
          go_quiet (fail)
          go_wp2
          go_roundw
          case rel => exact ⟨k + 1, by omega, by go_num, pw_below_drewN HB.out _⟩
          case measure => simp [intOf]; omega
        · go_wp2
          go_ret
          exact ⟨rfl, HB0.out.trans (HB.out.mono HB0.out.size)⟩
end Go.Proofs.Ytehndlafbbpofaa.Run
