/- RunsWrites: the record of any run is the document's (a walk). -/
import Derived.Test.YtehndlafbbpofaaRunRef
import Derived.Test.YtehndlafbbpofaaRunOf
import Derived.Test.YtehndlafbbpofaaRunAwake
namespace Go.Proofs.Ytehndlafbbpofaa.Run
open Go.RowKit Go.Proofs.YtehndlafbbpofaaW.PrintWords Go.Proofs.Ytehndlafbbpofaa.Base Go.Proofs.Ytehndlafbbpofaa.Pack
set_option linter.unusedVariables false
set_option linter.unusedSimpArgs false

set_option maxRecDepth 100000 in
set_option maxHeartbeats 1600000 in
theorem RunsWrites_any (v : Value) (r : RunV) (w : World) (h : RunIs w v r) (ho : r.out.size ≤ 9223372036854775807) (hc : r.cmd.size ≤ 9223372036854775807) (hn : ∀ p ∈ r.ins, p.1.size ≤ 9223372036854775807) (hT : ∀ t ∈ timesOf r, t < 9223372036854775808) :
    Calls Try.prog 3 #[v] w fun e w' => e = .returned (.bool true) ∧ Below w.heap.size w w' := by
  obtain ⟨vi, vf, rfl, hI, hF⟩ := h
  obtain ⟨AI, cI, rfl, hcI, hmI⟩ := hI.len
  obtain ⟨AF, cF, rfl, hcF, hmF⟩ := hF.len
  obtain ⟨Wb, hWb⟩ : ∃ Wb, Wb = w.alloc (.cells #[.string r.out, .string r.cmd, .int .i64 r.time, .int .i64 r.mark, .slice AI r.ins.length cI, .slice AF r.found.length cF] 25) := ⟨_, rfl⟩
  have hb0 : Below w.heap.size w Wb := by rw [hWb]; exact below_alloc (Below.refl _ _) _
  have hbx : Wb.heap[w.heap.size]? = some (.cells #[.string r.out, .string r.cmd, .int .i64 r.time, .int .i64 r.mark, .slice AI r.ins.length cI, .slice AF r.found.length cF] 25 (0, 0)) := by rw [hWb]; exact blk_new w _
  have HR0 : Hid (RunIs Wb (.agg #[.string r.out, .string r.cmd, .int .i64 r.time, .int .i64 r.mark, .slice AI r.ins.length cI, .slice AF r.found.length cF]) r) := ⟨_, _, rfl, hI.below hb0, hF.below hb0⟩
  have HBX := Lib.hid hbx
  have HB0 := Lib.hid hb0
  have HWB := Lib.hid hWb
  have HH := Lib.hid (And.intro ho (And.intro hc (And.intro hn hT)))
  clear hI hF hb0 hbx hWb ho hc hn hT
  go_enter Try.func3, Try.ntmps3
  go_wp2_with fail
  rw [← HWB.out]
  refine (light_any _ r _ HR0.out HH.out.1 HH.out.2.1 HH.out.2.2.1).mono ?_
  rintro e w1 ⟨he, hb1⟩
  have HB1 := Lib.hid hb1
  clear hb1
  rcases he with ⟨rfl, hL⟩ | rfl
  · have HL := Lib.hid hL
    have HR1 := Lib.hid (HR0.out.below HB1.out)
    have HX1 := Lib.hid ((HB1.out.block _ (blk_lt HBX.out)).trans HBX.out)
    clear hL
    go_wp2_with (with_reducible refine gate_ (.load 25 (.tmp 1)) rfl ?_; refine Held.of ?_)
    refine Held.out (wpList_load_row rfl 25 (.tmp 1) rfl w.heap.size rfl 25 _ (0, 0) _ HX1.out Try.underlying25 rfl (by kernel_rfl) ?_)
    go_wp2_with fail
    refine (of_any _ r _ HR1.out (by have := HL.out.ins; omega) (by have := HL.out.found; omega)).mono ?_
    rintro e w2 ⟨v2, rfl, hr2, hb2⟩
    have HR2 := Lib.hid hr2
    have HB2 := Lib.hid hb2
    clear hr2 hb2
    go_wp2_with fail
    refine (write_any _ r _ HR2.out HL.out HH.out.2.2.2).mono ?_
    rintro e w3 ⟨v3, rfl, o3⟩
    have HB3 := Lib.hid (HB2.out.trans (o3.below.mono HB2.out.size))
    have HX3 := Lib.hid ((HB3.out.block _ (blk_lt HX1.out)).trans HX1.out)
    have HR3 := Lib.hid (HR1.out.below HB3.out)
    have HS3 := Lib.hid o3.bs
    obtain ⟨A3, n3, c3, rfl, hn3⟩ := o3.slice
    clear o3 hn3
    go_wp2_with (with_reducible refine gate_ (.load 25 (.tmp 1)) rfl ?_; refine Held.of ?_)
    refine Held.out (wpList_load_row rfl 25 (.tmp 1) rfl w.heap.size rfl 25 _ (0, 0) _ HX3.out Try.underlying25 rfl (by kernel_rfl) ?_)
    go_wp2_with fail
    refine (refwrite_any _ r _ HR3.out HL.out HH.out.2.2.2).mono ?_
    rintro e w4 ⟨v4, rfl, o4⟩
    have HB4 := Lib.hid ((HB0.out.trans ((HB1.out.trans (HB3.out.mono HB1.out.size)).mono HB0.out.size)).trans (o4.below.mono (by have := HB0.out.size; have := HB1.out.size; have := HB3.out.size; omega)))
    have k1 := str_of (HS3.out.below o4.below)
    have k2 := str_of o4.bs
    obtain ⟨A4, n4, c4, rfl, hn4⟩ := o4.slice
    clear o4 hn4
    generalize (writeRes r).1 = xs at k1 k2
    generalize (writeRes r).2 = er
    have q1 : ((strOfNums xs).toList == (strOfNums xs).toList) = true := by simp
    have q2 : (er == er) = true := by simp
    go_wp2_with fail
    refine (awake_any _).mono ?_
    rintro e w5 ⟨rfl, hb5⟩
    have HB5 := Lib.hid (HB4.out.trans (hb5.mono HB4.out.size))
    clear hb5
    go_wp2
    go_ret
    exact ⟨rfl, HB5.out⟩
  · go_wp2
    go_ret
    exact ⟨rfl, HB0.out.trans (HB1.out.mono HB0.out.size)⟩
end Go.Proofs.Ytehndlafbbpofaa.Run
