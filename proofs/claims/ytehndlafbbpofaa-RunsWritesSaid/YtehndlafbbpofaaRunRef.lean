/- The contract of the reference's Write of a run (a walk). -/
import Derived.Test.YtehndlafbbpofaaRunWrite
import Derived.Test.YtehndlafbbpofaaPackRef
import Derived.Test.YtehndlafbbpofaaCrcRef
import Derived.Test.YtehndlafbbpofaaWLast
import Derived.Test.YtehndlafbbpofaaStep
import Derived.Deep.CutRange
namespace Go.Proofs.Ytehndlafbbpofaa.Run
open Go.RowKit Go.Proofs.YtehndlafbbpofaaW.PrintWords Go.Proofs.YtehndlafbbpofaaW.PrintLast Go.Proofs.Ytehndlafbbpofaa.Base Go.Proofs.Ytehndlafbbpofaa.Pack
set_option linter.unusedVariables false
set_option linter.unusedSimpArgs false

theorem foundBytes_length (l : List Int) : (foundBytes l).length = 8 * l.length := by
  unfold foundBytes
  induction l with
  | nil => rfl
  | cons x l ih => rw [List.flatMap_cons, List.length_append, leBytes_length, ih, List.length_cons]; omega
theorem runBytes_length (r : RunV) : (runBytes r).length = 36 + r.out.size + r.cmd.size + (insBytes r.ins).length + 8 * r.found.length := by
  unfold runBytes headOf
  simp only [List.length_append, leBytes_length, textBytes_length, foundBytes_length]
  omega
theorem low_false (r : RunV) (h : false = (decide (r.time < 0) || decide (r.mark < 0) || r.ins.any (fun p => decide (p.2 < 0)) || r.found.any (fun t => decide (t < 0)))) : ∀ t ∈ timesOf r, 0 ≤ t := by
  have h2 := h.symm
  simp only [Bool.or_eq_false_iff, decide_eq_false_iff_not, List.any_eq_false, decide_eq_true_eq] at h2
  intro t ht
  unfold timesOf at ht
  simp only [List.mem_append, List.mem_cons, List.not_mem_nil, or_false, List.mem_map] at ht
  rcases ht with ((rfl | rfl) | ht) | ⟨p, hp, rfl⟩
  · omega
  · omega
  · have := h2.2 t ht; omega
  · have := h2.1.2 p hp; omega
theorem low_true (r : RunV) (h : true = (decide (r.time < 0) || decide (r.mark < 0) || r.ins.any (fun p => decide (p.2 < 0)) || r.found.any (fun t => decide (t < 0)))) : writeRes r = ([], 1) := by
  refine writeRes_low r ((least_neg r).2 ?_)
  have h2 := h.symm
  simp only [Bool.or_eq_true, decide_eq_true_eq, List.any_eq_true] at h2
  unfold low timesOf
  rcases h2 with ((h2 | h2) | ⟨p, hp, h2⟩) | ⟨t, ht, h2⟩
  · exact ⟨r.time, by simp, h2⟩
  · exact ⟨r.mark, by simp, h2⟩
  · exact ⟨p.2, List.mem_append_right _ (List.mem_map.2 ⟨p, hp, rfl⟩), h2⟩
  · exact ⟨t, List.mem_append_left _ (List.mem_append_right _ ht), h2⟩

theorem number_w (n : Int) (w : World) (n0 : 0 ≤ n) (n1 : n < 9223372036854775808) :
    Calls Try.prog 45 #[.int .u64 (IntKind.u64.wrap n), .int .i64 8] w fun e w' => ∃ v, e = .returned v ∧ Ow w w' v (Pack.leBytes n 8) := by
  rw [IntWalk.u64_in n ⟨n0, by omega⟩]
  exact number_any n 8 w (by omega) n0 (by omega)

--BEGIN WALK
set_option maxRecDepth 100000 in
set_option maxHeartbeats 16000000 in
theorem refwrite_any (v : Value) (r : RunV) (w : World) (h : RunIs w v r) (hL : LightR r) (hT : ∀ t ∈ timesOf r, t < 9223372036854775808) :
    Calls Try.prog 16 #[v] w fun e w' => ∃ v', e = .returned (.tuple #[v', .int .i64 (writeRes r).2]) ∧ Ow w w' v' (writeRes r).1 := by
  obtain ⟨vi, vf, rfl, hI, hF⟩ := h
  obtain ⟨AI, cI, rfl, hcI, hmI⟩ := hI.len
  obtain ⟨AF, cF, rfl, hcF, hmF⟩ := hF.len
  have HI := Lib.hid hI
  have HF := Lib.hid hF
  have HL := Lib.hid hL
  have HT := Lib.hid hT
  clear hI hF hL hT
  obtain ⟨out, cmd, time, mark, ins, found⟩ := r
  simp only at hcI hmI hcF hmF HI HF
  have hi5 : ins.length ≤ 500 := HL.out.ins
  have hf6 : found.length ≤ 600 := HL.out.found
  have ho5 : out.size ≤ 5000 := HL.out.out
  have hc5 : cmd.size ≤ 5000 := HL.out.cmd
  have hb0 := below_alloc (Below.refl w.heap.size w) (.cells #[.string out, .string cmd, .int .i64 time, .int .i64 mark, .slice AI ins.length cI, .slice AF found.length cF] 25)
  obtain ⟨Wb, hWb⟩ : ∃ Wb, Wb = w.alloc (.cells #[.string out, .string cmd, .int .i64 time, .int .i64 mark, .slice AI ins.length cI, .slice AF found.length cF] 25) := ⟨_, rfl⟩
  have hbx : Wb.heap[w.heap.size]? = some (.cells #[.string out, .string cmd, .int .i64 time, .int .i64 mark, .slice AI ins.length cI, .slice AF found.length cF] 25 (0, 0)) := by rw [hWb]; exact blk_new w _
  rw [← hWb] at hb0
  have HBX := Lib.hid hbx
  have HB0 := Lib.hid hb0
  have HWB := Lib.hid hWb
  clear hbx hb0 hWb
  obtain ⟨lo0, hlo0⟩ : ∃ lo0 : Bool, lo0 = (decide (time < 0) || decide (mark < 0)) := ⟨_, rfl⟩
  have HLO := Lib.hid hlo0
  clear hlo0
  have c0 : Wb.cell? ⟨w.heap.size, 0, none⟩ = some (.string out) := blk_cell HBX.out 0
  have c1 : Wb.cell? ⟨w.heap.size, 1, none⟩ = some (.string cmd) := blk_cell HBX.out 1
  have c2 : Wb.cell? ⟨w.heap.size, 2, none⟩ = some (.int .i64 time) := blk_cell HBX.out 2
  have c3 : Wb.cell? ⟨w.heap.size, 3, none⟩ = some (.int .i64 mark) := blk_cell HBX.out 3
  have c4 : Wb.cell? ⟨w.heap.size, 4, none⟩ = some (.slice AI ins.length cI) := blk_cell HBX.out 4
  go_enter Try.func16, Try.ntmps16
  go_upto_region 1 with fail
  rw [← HWB.out]
  go_cut [4] from 13 (fun s4 wx => s4 = .bool lo0 ∧ Wb = wx)
  case first =>
    by_cases t0 : time < 0
    · have s0 : decide (time < 0) = true := decide_eq_true t0
      go_wp2
      go_meet
      case rel => exact ⟨by rw [HLO.out, s0]; rfl, rfl⟩
    · have s0 : decide (time < 0) = false := decide_eq_false t0
      by_cases t1 : mark < 0
      · have s1 : decide (mark < 0) = true := decide_eq_true t1
        go_wp2
        go_meet
        case rel => exact ⟨by rw [HLO.out, s0, s1]; rfl, rfl⟩
      · have s1 : decide (mark < 0) = false := decide_eq_false t1
        go_wp2
        go_meet
        case rel => exact ⟨by rw [HLO.out, s0, s1]; rfl, rfl⟩
  case rest =>
    obtain ⟨rfl, rfl⟩ := hcut
    go_wp2
    clear c0 c1 c2 c3 c4
    go_loop [4, 5, 6] (fun s4 s5 s6 => ∃ (k sz : Nat) (lo : Bool), k ≤ ins.length ∧ s6 = .int .i64 k ∧ s4 = .bool lo ∧ s5 = .int .i64 sz ∧ sz ≤ 10036 + 5010 * k ∧ Hid (sz = 36 + out.size + cmd.size + (insBytes (ins.take k)).length) ∧ Hid (lo = (decide (time < 0) || decide (mark < 0) || (ins.take k).any (fun p => decide (p.2 < 0))))) (fun _ _ s6 => ins.length - (intOf s6).toNat)
    case atStart =>
      refine ⟨0, 36 + out.size + cmd.size, lo0, by omega, rfl, rfl, by go_num, by omega, ?_, ?_⟩
      · show _ = _
        simp [insBytes]
      · show _ = _
        rw [HLO.out]; simp
    case round =>
      obtain ⟨k, sz, lo, hk, rfl, rfl, rfl, hsz, HSZ, HLOW⟩ := hrel
      by_cases l1 : k < ins.length
      · obtain ⟨ad, e1, q1, q2⟩ := HI.out.get k l1
        cases e1
        have r1 := pw_cell_below HB0.out q1
        have r2 := pw_cell_below HB0.out q2
        have hmem : ins.getD k (ByteArray.empty, 0) ∈ ins := by
          rw [List.getD_eq_getElem?_getD, List.getElem?_eq_getElem l1]
          exact List.getElem_mem l1
        have hin := ins_snoc ins k l1
        clear q1 q2
        generalize ins.getD k (ByteArray.empty, 0) = pk at r1 r2 hin hmem
        obtain ⟨nm, tm⟩ := pk
        simp only at r1 r2
        have r3 := second_cell r2
        have hnm : nm.size ≤ 5000 := HL.out.names _ hmem
        have HSZ2 : Hid (sz + (10 + nm.size) = 36 + out.size + cmd.size + (insBytes (ins.take (k + 1))).length) := by
          show _ = _
          rw [hin, insBytes_snoc, HSZ.out]
          simp only [List.length_append, leBytes_length, textBytes_length]
          omega
        have hlow2 : (lo || decide (tm < 0)) = (decide (time < 0) || decide (mark < 0) || (ins.take (k + 1)).any (fun p => decide (p.2 < 0))) := by
          rw [hin, List.any_append, ← Bool.or_assoc, ← HLOW.out]
          simp
        have q4' : Wb.cell? ⟨w.heap.size, 4, none⟩ = some (.slice (some ad) ins.length cI) := blk_cell HBX.out 4
        clear r2 hin hmem
        cases lo
        · by_cases l2 : tm < 0
          · have d2 : decide (tm < 0) = true := decide_eq_true l2
            have HLOW2 := Lib.hid hlow2
            clear hlow2 HLOW
            go_wp2
            go_round
            case rel => exact ⟨k + 1, sz + (10 + nm.size), true, by omega, by go_num, rfl, by go_num, by omega, HSZ2, by show _ = _; rw [← HLOW2.out, d2]; rfl⟩
            case measure => simp [intOf]; omega
          · have d2 : decide (tm < 0) = false := decide_eq_false l2
            have HLOW2 := Lib.hid hlow2
            clear hlow2 HLOW
            go_wp2
            go_round
            case rel => exact ⟨k + 1, sz + (10 + nm.size), false, by omega, by go_num, rfl, by go_num, by omega, HSZ2, by show _ = _; rw [← HLOW2.out, d2]; rfl⟩
            case measure => simp [intOf]; omega
        · have HLOW2 := Lib.hid hlow2
          clear hlow2 HLOW
          go_wp2
          go_round
          case rel => exact ⟨k + 1, sz + (10 + nm.size), true, by omega, by go_num, rfl, by go_num, by omega, HSZ2, by show _ = _; rw [← HLOW2.out]; rfl⟩
          case measure => simp [intOf]; omega
      · have hk2 : k = ins.length := by omega
        have HSZ1 : Hid (sz = 36 + out.size + cmd.size + (insBytes ins).length) := by have h := HSZ.out; rw [hk2, List.take_length] at h; exact h
        have HLOW1 : Hid (lo = (decide (time < 0) || decide (mark < 0) || ins.any (fun p => decide (p.2 < 0)))) := by have h := HLOW.out; rw [hk2, List.take_length] at h; exact h
        have hsz1 : sz ≤ 3000000 := by omega
        have q4' : Wb.cell? ⟨w.heap.size, 4, none⟩ = some (.slice AI ins.length cI) := blk_cell HBX.out 4
        have q5' : Wb.cell? ⟨w.heap.size, 5, none⟩ = some (.slice AF found.length cF) := blk_cell HBX.out 5
        clear hk2 HSZ HLOW hsz
        go_wp2
        go_loop [4, 5, 7] (fun s4 s5 s7 => ∃ (k sz2 : Nat) (lo2 : Bool), k ≤ found.length ∧ s7 = .int .i64 k ∧ s4 = .bool lo2 ∧ s5 = .int .i64 sz2 ∧ sz2 = sz + 8 * k ∧ Hid (lo2 = (lo || (found.take k).any (fun t => decide (t < 0))))) (fun _ _ s7 => found.length - (intOf s7).toNat)
        case atStart => exact ⟨0, sz, lo, by omega, rfl, rfl, rfl, by omega, by show _ = _; simp⟩
        case round =>
          obtain ⟨k, sz2, lo2, hk, rfl, rfl, rfl, hsz2, HLOW⟩ := hrel
          by_cases l1 : k < found.length
          · obtain ⟨A', c', e', hcc, hrf⟩ := HF.out
            cases e'
            obtain ⟨ad, e1, q1⟩ := at_nat hrf k l1
            cases e1
            have r1 := pw_cell_below HB0.out q1
            have hin : found.take (k + 1) = found.take k ++ [rd found k] := Pack.take_snoc found k l1
            clear q1 hrf
            generalize rd found (k : Int) = tm at r1 hin
            have hlow2 : (lo2 || decide (tm < 0)) = (lo || (found.take (k + 1)).any (fun t => decide (t < 0))) := by
              rw [hin, List.any_append, ← Bool.or_assoc, ← HLOW.out]
              simp
            have HLOW2 := Lib.hid hlow2
            clear hin hlow2 HLOW
            cases lo2
            · by_cases l2 : tm < 0
              · have d2 : decide (tm < 0) = true := decide_eq_true l2
                go_wp2
                go_round
                case rel => exact ⟨k + 1, sz2 + 8, true, by omega, by go_num, rfl, by go_num, by omega, by show _ = _; rw [← HLOW2.out, d2]; rfl⟩
                case measure => simp [intOf]; omega
              · have d2 : decide (tm < 0) = false := decide_eq_false l2
                go_wp2
                go_round
                case rel => exact ⟨k + 1, sz2 + 8, false, by omega, by go_num, rfl, by go_num, by omega, by show _ = _; rw [← HLOW2.out, d2]; rfl⟩
                case measure => simp [intOf]; omega
            · go_wp2
              go_round
              case rel => exact ⟨k + 1, sz2 + 8, true, by omega, by go_num, rfl, by go_num, by omega, by show _ = _; rw [← HLOW2.out]; rfl⟩
              case measure => simp [intOf]; omega
          · have hk2 : k = found.length := by omega
            have HLOW3 : Hid (lo2 = (decide (time < 0) || decide (mark < 0) || ins.any (fun p => decide (p.2 < 0)) || found.any (fun t => decide (t < 0)))) := by
              have h := HLOW.out
              rw [hk2, List.take_length, HLOW1.out] at h
              exact h
            have HSZ3 : Hid (sz2 = (runBytes ⟨out, cmd, time, mark, ins, found⟩).length) := by
              show _ = _
              rw [hsz2, hk2, HSZ1.out, runBytes_length]
            have hsz3 : sz2 ≤ 3100000 := by omega
            clear hk2 HLOW HLOW1 HSZ1 hsz2 q4'
            cases lo2
            · have HNL := Lib.hid (low_false ⟨out, cmd, time, mark, ins, found⟩ HLOW3.out)
              by_cases l3 : sz2 ≤ 4096
              · have f1 : Wb.cell? ⟨w.heap.size, 1, none⟩ = some (.string cmd) := blk_cell HBX.out 1
                obtain ⟨As, cs, ws, ks, hbs, hbws⟩ := bytes_conv Wb cmd (by omega)
                have HBS := Lib.hid hbs
                have HBWS := Lib.hid hbws
                have HRH := Lib.hid (Crc.refHash_eq (bytesOf cmd) (bytesOf_bytes cmd))
                have hhr := hashOf_range (bytesOf cmd)
                clear hbs hbws
                --S0
                go_wp2_with fail
                --S1
                refine (Crc.refhash_any _ _ _ HBS.out).mono ?_
                rintro e w' ⟨rfl, rfl⟩
                rw [HRH.out]
                --S2
                go_wp2_with fail
                --S3
                refine (number_any _ 8 _ (by omega) hhr.1 hhr.2).mono ?_
                rintro e w1 ⟨v1, rfl, o1⟩
                obtain ⟨A8, n8, c8, rfl, h8⟩ := o1.slice
                have HO := Lib.hid (o1.lower HBWS.out)
                clear o1 h8 ks f1
                have f0 := pw_cell_below (HO.out.below) (show Wb.cell? ⟨w.heap.size, 0, none⟩ = some (.string out) from blk_cell HBX.out 0)
                go_wp2_with fail
                --S4
                refine (reftext_any out _ (by omega)).mono ?_
                rintro e wt ⟨vt, rfl, ot⟩
                clear f0
                --S5
                --SA92
                obtain ⟨A9, n9, c9, rfl, h9⟩ := ot.slice
                have HOs := Lib.hid (HO.out.step ot.below)
                have HBt := Lib.hid ot.bs
                clear ot h9 HO
                go_wp2_with (at_builtin; refine Held.of ?_)
                --S6
                refine app_bytes rfl (.tmp 92) (.tmp 93) 27 rfl Try.underlying27 _ _ _ _ rfl rfl HOs.out HBt.out (by simp only [List.length_append, leBytes_length, textBytes_length]; omega) ?_
                intro va wa oa _
                obtain ⟨A8, n8, c8, rfl, h8⟩ := oa.slice
                have HO := Lib.hid oa
                clear oa h8 HOs HBt
                --S7
                have f1 := pw_cell_below (HO.out.below) (show Wb.cell? ⟨w.heap.size, 1, none⟩ = some (.string cmd) from blk_cell HBX.out 1)
                go_wp2_with fail
                --S4
                refine (reftext_any cmd _ (by omega)).mono ?_
                rintro e wt ⟨vt, rfl, ot⟩
                clear f1
                --S5
                --SA101
                obtain ⟨A9, n9, c9, rfl, h9⟩ := ot.slice
                have HOs := Lib.hid (HO.out.step ot.below)
                have HBt := Lib.hid ot.bs
                clear ot h9 HO
                go_wp2_with (at_builtin; refine Held.of ?_)
                --S6
                refine app_bytes rfl (.tmp 101) (.tmp 102) 27 rfl Try.underlying27 _ _ _ _ rfl rfl HOs.out HBt.out (by simp only [List.length_append, leBytes_length, textBytes_length]; omega) ?_
                intro va wa oa _
                obtain ⟨A8, n8, c8, rfl, h8⟩ := oa.slice
                have HO := Lib.hid oa
                clear oa h8 HOs HBt
                --S7
                have f2 := pw_cell_below (HO.out.below) (show Wb.cell? ⟨w.heap.size, 2, none⟩ = some (.int .i64 time) from blk_cell HBX.out 2)
                have n0 : 0 ≤ time := HNL.out time (by simp [timesOf])
                have n1 : time < 9223372036854775808 := HT.out time (by simp [timesOf])
                go_wp2_with fail
                --SN104
                refine (number_any time 8 _ (by omega) (by omega) (by omega)).mono ?_
                rintro e wt ⟨vt, rfl, ot⟩
                clear f2 n0 n1
                --SA104
                obtain ⟨A9, n9, c9, rfl, h9⟩ := ot.slice
                have HOs := Lib.hid (HO.out.step ot.below)
                have HBt := Lib.hid ot.bs
                clear ot h9 HO
                go_wp2_with (at_builtin; refine Held.of ?_)
                --S6
                refine app_bytes rfl (.tmp 104) (.tmp 108) 27 rfl Try.underlying27 _ _ _ _ rfl rfl HOs.out HBt.out (by simp only [List.length_append, leBytes_length, textBytes_length]; omega) ?_
                intro va wa oa _
                obtain ⟨A8, n8, c8, rfl, h8⟩ := oa.slice
                have HO := Lib.hid oa
                clear oa h8 HOs HBt
                --S7
                have f3 := pw_cell_below (HO.out.below) (show Wb.cell? ⟨w.heap.size, 3, none⟩ = some (.int .i64 mark) from blk_cell HBX.out 3)
                have n0 : 0 ≤ mark := HNL.out mark (by simp [timesOf])
                have n1 : mark < 9223372036854775808 := HT.out mark (by simp [timesOf])
                go_wp2_with fail
                --SN110
                refine (number_any mark 8 _ (by omega) (by omega) (by omega)).mono ?_
                rintro e wt ⟨vt, rfl, ot⟩
                clear f3 n0 n1
                --SA110
                obtain ⟨A9, n9, c9, rfl, h9⟩ := ot.slice
                have HOs := Lib.hid (HO.out.step ot.below)
                have HBt := Lib.hid ot.bs
                clear ot h9 HO
                go_wp2_with (at_builtin; refine Held.of ?_)
                --S6
                refine app_bytes rfl (.tmp 110) (.tmp 114) 27 rfl Try.underlying27 _ _ _ _ rfl rfl HOs.out HBt.out (by simp only [List.length_append, leBytes_length, textBytes_length]; omega) ?_
                intro va wa oa _
                obtain ⟨A8, n8, c8, rfl, h8⟩ := oa.slice
                have HO := Lib.hid oa
                clear oa h8 HOs HBt
                --S7
                have f4 := pw_cell_below (HO.out.below) (show Wb.cell? ⟨w.heap.size, 4, none⟩ = some (.slice AI ins.length cI) from blk_cell HBX.out 4)
                go_wp2_with fail
                --SN116
                refine (number_any ins.length 4 _ (by omega) (by omega) (by omega)).mono ?_
                rintro e wt ⟨vt, rfl, ot⟩
                clear f4
                --SA116
                obtain ⟨A9, n9, c9, rfl, h9⟩ := ot.slice
                have HOs := Lib.hid (HO.out.step ot.below)
                have HBt := Lib.hid ot.bs
                clear ot h9 HO
                go_wp2_with (at_builtin; refine Held.of ?_)
                --S6
                refine app_bytes rfl (.tmp 116) (.tmp 121) 27 rfl Try.underlying27 _ _ _ _ rfl rfl HOs.out HBt.out (by simp only [List.length_append, leBytes_length, textBytes_length]; omega) ?_
                intro va wa oa _
                obtain ⟨A8, n8, c8, rfl, h8⟩ := oa.slice
                have HO := Lib.hid oa
                clear oa h8 HOs HBt
                --S7
                have HH : Hid (Ow Wb wa (.slice A8 n8 c8) (headOf ⟨out, cmd, time, mark, ins, found⟩ ++ insBytes (List.take 0 ins))) := by
                  show Ow Wb wa (.slice A8 n8 c8) (headOf ⟨out, cmd, time, mark, ins, found⟩ ++ [])
                  rw [List.append_nil]
                  exact HO.out
                have HLH : Hid ((headOf ⟨out, cmd, time, mark, ins, found⟩).length ≤ 10032) := head_length ⟨out, cmd, time, mark, ins, found⟩ HL.out
                clear HO
                go_wp2
                go_loopw [8, 9, 11] (fun s8 s9 s11 wr => ∃ k : Nat, k ≤ ins.length ∧ s11 = .int .i64 k ∧ Hid (Ow Wb wr s8 (headOf ⟨out, cmd, time, mark, ins, found⟩ ++ insBytes (ins.take k)))) (fun _ _ s11 _ => ins.length - (intOf s11).toNat)
                case atStart => exact ⟨0, by omega, rfl, HH.out⟩
                case round =>
                  clear HH
                  obtain ⟨k, hk, rfl, HO⟩ := hrel
                  obtain ⟨A5, n5, c5, e5, h5⟩ := HO.out.slice
                  subst e5
                  clear h5
                  by_cases l1 : k < ins.length
                  · obtain ⟨ad, e1, q1, q2⟩ := HI.out.get k l1
                    cases e1
                    have r1 := pw_cell_below HB0.out q1
                    have r2 := pw_cell_below HB0.out q2
                    have hmem : ins.getD k (ByteArray.empty, 0) ∈ ins := by
                      rw [List.getD_eq_getElem?_getD, List.getElem?_eq_getElem l1]
                      exact List.getElem_mem l1
                    have hin := ins_snoc ins k l1
                    clear q1 q2
                    generalize ins.getD k (ByteArray.empty, 0) = pk at r1 r2 hin hmem
                    obtain ⟨nm, tm⟩ := pk
                    simp only at r1 r2
                    have Q3 := Lib.hid (second_cell r2)
                    have Q4 : Hid (Wb.cell? ⟨w.heap.size, 4, none⟩ = some (.slice (some ad) ins.length cI)) := blk_cell HBX.out 4
                    have hnm : nm.size ≤ 5000 := HL.out.names _ hmem
                    have n0 : 0 ≤ tm := HNL.out tm (by unfold timesOf; exact List.mem_append_right _ (List.mem_map.2 ⟨_, hmem, rfl⟩))
                    have n1 : tm < 9223372036854775808 := HT.out tm (by unfold timesOf; exact List.mem_append_right _ (List.mem_map.2 ⟨_, hmem, rfl⟩))
                    have HIN : Hid ((headOf ⟨out, cmd, time, mark, ins, found⟩ ++ insBytes (ins.take k)) ++ textBytes nm ++ Pack.leBytes tm 8 = headOf ⟨out, cmd, time, mark, ins, found⟩ ++ insBytes (ins.take (k + 1))) := by
                      show _ = _
                      rw [hin, insBytes_snoc]
                      simp only [List.append_assoc]
                    have HLN : Hid ((headOf ⟨out, cmd, time, mark, ins, found⟩ ++ insBytes (ins.take k)).length ≤ 4096) := by
                      show _ ≤ _
                      have := run_part ⟨out, cmd, time, mark, ins, found⟩ k
                      simp only at this
                      rw [← HSZ3.out] at this
                      omega
                    have f4 := pw_cell_below HO.out.below Q4.out
                    have f1 := pw_cell_below HO.out.below r1
                    clear r1 r2 hin hmem
                    go_wp2_with fail
                    refine (reftext_any nm _ (by omega)).mono ?_
                    rintro e wt ⟨vt, rfl, ot⟩
                    obtain ⟨A9, n9, c9, rfl, h9⟩ := ot.slice
                    have HOs := Lib.hid (HO.out.step ot.below)
                    have HBt := Lib.hid ot.bs
                    have HLA : Hid ((headOf ⟨out, cmd, time, mark, ins, found⟩ ++ insBytes (ins.take k)).length + (textBytes nm).length ≤ 140737488355328) := by
                      show _ ≤ _
                      have := HLN.out
                      rw [textBytes_length]
                      omega
                    have HLB : Hid ((headOf ⟨out, cmd, time, mark, ins, found⟩ ++ insBytes (ins.take k) ++ textBytes nm).length + (Pack.leBytes tm 8).length ≤ 140737488355328) := by
                      show _ ≤ _
                      have := HLN.out
                      rw [List.length_append, textBytes_length, leBytes_length]
                      omega
                    clear ot h9 HO f1 f4
                    have f4 := pw_cell_below HOs.out.below Q4.out
                    have r3 := pw_cell_below HOs.out.below Q3.out
                    go_wp2
                    refine start_ (n := 13) (S := fun w' => w'.cell? ⟨w.heap.size, 4, none⟩ = some (.slice (some ad) ins.length cI) ∧ w'.cell? ⟨(ad.add (k * 2)).block, (ad.add (k * 2)).off + 1, none⟩ = some (.int .i64 tm)) (ds := []) #[false, false, false, false, false, false, false, false, false, false, false, false, false] (by kernel_rfl) rfl rfl ⟨f4, r3⟩ (fun hHeld => ?_)
                    refine pure_ (i := 0) (N := some 140) (v := ?_) (a' := ?_) #[true, false, false, false, false, false, false, false, false, false, false, false, false] rfl rfl (by kernel_rfl) (fun _ _ _ h => h) (Or.inl ⟨by rfl, ?_⟩) ?_ ?_
                    rotate_left
                    · intro w'
                      go_simp
                      with_reducible rfl
                    rotate_left
                    · simp only [Act.put, List.setIfInBounds_toArray, List.set_cons_zero, List.set_cons_succ, i64_w, i32_w]
                      rfl
                    refine pure_ (i := 1) (N := some 141) (v := ?_) (a' := ?_) #[true, true, false, false, false, false, false, false, false, false, false, false, false] rfl rfl (by kernel_rfl) (fun _ _ _ h => h) (Or.inl ⟨by rfl, ?_⟩) ?_ ?_
                    rotate_left
                    · intro w'
                      go_simp
                      with_reducible rfl
                    rotate_left
                    · simp only [Act.put, List.setIfInBounds_toArray, List.set_cons_zero, List.set_cons_succ, i64_w, i32_w]
                      rfl
                    refine pure_ (i := 3) (N := some 143) (v := ?_) (a' := ?_) #[true, true, false, true, false, false, false, false, false, false, false, false, false] rfl rfl (by kernel_rfl) (fun _ _ _ h => h) (Or.inl ⟨by rfl, ?_⟩) ?_ ?_
                    rotate_left
                    · intro w'
                      go_simp
                      with_reducible rfl
                    rotate_left
                    · simp only [Act.put, List.setIfInBounds_toArray, List.set_cons_zero, List.set_cons_succ, i64_w, i32_w]
                      rfl
                    refine pure_ (i := 5) (N := some 145) (v := ?_) (a' := ?_) #[true, true, false, true, false, true, false, false, false, false, false, false, false] rfl rfl (by kernel_rfl) (fun _ _ _ h => h) (Or.inl ⟨by rfl, ?_⟩) ?_ ?_
                    rotate_left
                    · intro w'
                      go_simp
                      with_reducible rfl
                    rotate_left
                    · simp only [Act.put, List.setIfInBounds_toArray, List.set_cons_zero, List.set_cons_succ, i64_w, i32_w]
                      rfl
                    refine take_ (i := 4) (N := some 144) (v := ?_) (a' := ?_) #[true, true, false, true, true, true, false, false, false, false, false, false, false] rfl rfl (by kernel_rfl) (fun _ _ _ h => h) (Or.inl ⟨by rfl, ?_⟩) hHeld ?_ ?_
                    rotate_left
                    · rintro w' ⟨s0, s1⟩
                      go_simp
                      with_reducible rfl
                    rotate_left
                    · simp only [Act.put, List.setIfInBounds_toArray, List.set_cons_zero, List.set_cons_succ, i64_w, i32_w]
                      rfl
                    refine pure_ (i := 6) (N := some 146) (v := ?_) (a' := ?_) #[true, true, false, true, true, true, true, false, false, false, false, false, false] rfl rfl (by kernel_rfl) (fun _ _ _ h => h) (Or.inl ⟨by rfl, ?_⟩) ?_ ?_
                    rotate_left
                    · intro w'
                      go_simp
                      with_reducible rfl
                    rotate_left
                    · simp only [Act.put, List.setIfInBounds_toArray, List.set_cons_zero, List.set_cons_succ, i64_w, i32_w]
                      rfl
                    refine pure_ (i := 7) (N := some 147) (v := ?_) (a' := ?_) #[true, true, false, true, true, true, true, true, false, false, false, false, false] rfl rfl (by kernel_rfl) (fun _ _ _ h => h) (Or.inl ⟨by rfl, ?_⟩) ?_ ?_
                    rotate_left
                    · intro w'
                      go_simp
                      with_reducible rfl
                    rotate_left
                    · simp only [Act.put, List.setIfInBounds_toArray, List.set_cons_zero, List.set_cons_succ, i64_w, i32_w]
                      rfl
                    refine take_ (i := 8) (N := some 148) (v := ?_) (a' := ?_) #[true, true, false, true, true, true, true, true, true, false, false, false, false] rfl rfl (by kernel_rfl) (fun _ _ _ h => h) (Or.inl ⟨by rfl, ?_⟩) hHeld ?_ ?_
                    rotate_left
                    · rintro w' ⟨s0, s1⟩
                      go_simp
                      with_reducible rfl
                    rotate_left
                    · simp only [Act.put, List.setIfInBounds_toArray, List.set_cons_zero, List.set_cons_succ, i64_w, i32_w]
                      rfl
                    refine pure_ (i := 9) (N := some 149) (v := ?_) (a' := ?_) #[true, true, false, true, true, true, true, true, true, true, false, false, false] rfl rfl (by kernel_rfl) (fun _ _ _ h => h) (Or.inl ⟨by rfl, ?_⟩) ?_ ?_
                    rotate_left
                    · intro w'
                      go_simp
                      with_reducible rfl
                    rotate_left
                    · simp only [Act.put, List.setIfInBounds_toArray, List.set_cons_zero, List.set_cons_succ, i64_w, i32_w]
                      rfl
                    refine one_ (i := 2) (N := some 142) #[true, true, true, true, true, true, true, true, true, true, false, false, false] rfl rfl (by kernel_rfl) (by decide) (fun K hK => ?_)
                    refine app_bytes_step rfl (.tmp 140) (.tmp 141) 27 rfl Try.underlying27 _ _ _ _ rfl rfl HOs.out.drew (HBt.out.below (below_drew (Below.refl _ _))) HLA.out ?_
                    intro va wa oa ga
                    obtain ⟨A7, n7, c7, rfl, h7⟩ := oa.slice
                    have HOa := Lib.hid oa
                    clear oa ga h7
                    refine hK.out _ _ ⟨pw_cell_below HOa.out.below Q4.out, pw_cell_below HOa.out.below Q3.out⟩ (fun hHeld => ?_)
                    clear hK K
                    refine norm_ (a' := ?_) ?_ ?_
                    rotate_left
                    · show Act.put _ (some 142) _ = _
                      simp only [Act.put, List.setIfInBounds_toArray, List.set_cons_zero, List.set_cons_succ, i64_w, i32_w]
                      rfl
                    refine one_ (i := 10) (N := some 150) #[true, true, true, true, true, true, true, true, true, true, true, false, false] rfl rfl (by kernel_rfl) (by decide) (fun K hK => ?_)
                    refine goes_ Try.func45 (by kernel_rfl) rfl #[.int .u64 (IntKind.u64.wrap tm), .int .i64 8] (by rfl) rfl rfl (by first | (simp only [List.map_toArray, List.map_cons, List.map_nil]; done) | (simp only [List.map_toArray, List.map_cons, List.map_nil]; rfl) | rfl) ?_
                    with_reducible refine (number_w tm _ n0 n1).mono ?_
                    rintro e wu ⟨vu, rfl, ou⟩
                    refine ⟨_, rfl, ?_⟩
                    have HOu := Lib.hid (HOa.out.step ou.below)
                    have HBu := Lib.hid ou.bs
                    clear ou
                    refine hK.out _ _ ⟨pw_cell_below HOu.out.below Q4.out, pw_cell_below HOu.out.below Q3.out⟩ (fun hHeld => ?_)
                    clear hK K
                    refine norm_ (a' := ?_) ?_ ?_
                    rotate_left
                    · show Act.put _ (some 150) _ = _
                      simp only [Act.put, List.setIfInBounds_toArray, List.set_cons_zero, List.set_cons_succ, i64_w, i32_w]
                      rfl
                    refine one_ (i := 11) (N := some 151) #[true, true, true, true, true, true, true, true, true, true, true, true, false] rfl rfl (by kernel_rfl) (by decide) (fun K hK => ?_)
                    refine app_bytes_step rfl (.tmp 142) (.tmp 150) 27 rfl Try.underlying27 _ _ _ _ rfl rfl HOu.out HBu.out HLB.out ?_
                    intro va wb oa ga
                    obtain ⟨A6, n6, c6, rfl, h6⟩ := oa.slice
                    have HOb := Lib.hid oa
                    clear oa ga h6
                    refine hK.out _ _ ⟨pw_cell_below HOb.out.below Q4.out, pw_cell_below HOb.out.below Q3.out⟩ (fun hHeld => ?_)
                    clear hK K
                    refine norm_ (a' := ?_) ?_ ?_
                    rotate_left
                    · show Act.put _ (some 151) _ = _
                      simp only [Act.put, List.setIfInBounds_toArray, List.set_cons_zero, List.set_cons_succ, i64_w, i32_w]
                      rfl
                    refine pure_ (i := 12) (N := some 8) (v := ?_) (a' := ?_) #[true, true, true, true, true, true, true, true, true, true, true, true, true] rfl rfl (by kernel_rfl) (fun _ _ _ h => h) (Or.inl ⟨by rfl, ?_⟩) ?_ ?_
                    rotate_left
                    · intro w'
                      go_simp
                      with_reducible rfl
                    rotate_left
                    · simp only [Act.put, List.setIfInBounds_toArray, List.set_cons_zero, List.set_cons_succ, i64_w, i32_w]
                      rfl
                    refine done_ (by kernel_rfl) ?_
                    clear hHeld
                    have HOn : Hid (Ow Wb wb (.slice A6 n6 c6) (headOf ⟨out, cmd, time, mark, ins, found⟩ ++ insBytes (ins.take (k + 1)))) := by
                      show Ow _ _ _ _
                      rw [← HIN.out]
                      exact HOb.out
                    clear HOb HBu HOu HOa HOs HBt
                    go_wp2
                    go_roundw
                    case rel => exact ⟨k + 1, by omega, by go_num, HOn.out⟩
                    case measure => simp [intOf]; omega
                  · have hk2 : k = ins.length := by omega
                    have HOe : Hid (Ow Wb wr (.slice A5 n5 c5) (headOf ⟨out, cmd, time, mark, ins, found⟩ ++ insBytes ins)) := by
                      have h := HO.out
                      rw [hk2, List.take_length] at h
                      exact h
                    have hlh : (headOf ⟨out, cmd, time, mark, ins, found⟩).length + (insBytes ins).length ≤ 4096 := by
                      have := run_part ⟨out, cmd, time, mark, ins, found⟩ ins.length
                      rw [← HSZ3.out, List.length_append, List.take_length] at this
                      omega
                    clear hk2 HO
                    have HO := HOe
                    clear HOe
                    have f4 := pw_cell_below HO.out.below (show Wb.cell? ⟨w.heap.size, 4, none⟩ = some (.slice AI ins.length cI) from blk_cell HBX.out 4)
                    have f5 := pw_cell_below (HO.out.below) (show Wb.cell? ⟨w.heap.size, 5, none⟩ = some (.slice AF found.length cF) from blk_cell HBX.out 5)
                    go_wp2_with fail
                    --SN152
                    refine (number_any found.length 4 _ (by omega) (by omega) (by omega)).mono ?_
                    rintro e wt ⟨vt, rfl, ot⟩
                    clear f5 f4
                    --SA152
                    obtain ⟨A9, n9, c9, rfl, h9⟩ := ot.slice
                    have HOs := Lib.hid (HO.out.step ot.below)
                    have HBt := Lib.hid ot.bs
                    clear ot h9 HO
                    go_wp2_with (at_builtin; refine Held.of ?_)
                    --S6
                    refine app_bytes rfl (.tmp 152) (.tmp 157) 27 rfl Try.underlying27 _ _ _ _ rfl rfl HOs.out HBt.out (by simp only [List.length_append, leBytes_length, textBytes_length]; omega) ?_
                    intro va wa oa _
                    obtain ⟨A8, n8, c8, rfl, h8⟩ := oa.slice
                    have HO := Lib.hid oa
                    clear oa h8 HOs HBt
                    --S7
                    have HH : Hid (Ow Wb wa (.slice A8 n8 c8) (headOf ⟨out, cmd, time, mark, ins, found⟩ ++ insBytes ins ++ Pack.leBytes found.length 4 ++ foundBytes (List.take 0 found))) := by
                      show Ow Wb wa (.slice A8 n8 c8) (headOf ⟨out, cmd, time, mark, ins, found⟩ ++ insBytes ins ++ Pack.leBytes found.length 4 ++ [])
                      rw [List.append_nil]
                      exact HO.out
                    clear HO
                    go_wp2
                    go_loopw [8, 12] (fun s8 s12 wr => ∃ k : Nat, k ≤ found.length ∧ s12 = .int .i64 k ∧ Hid (Ow Wb wr s8 (headOf ⟨out, cmd, time, mark, ins, found⟩ ++ insBytes ins ++ Pack.leBytes found.length 4 ++ foundBytes (found.take k)))) (fun _ s12 _ => found.length - (intOf s12).toNat)
                    case atStart => exact ⟨0, by omega, rfl, HH.out⟩
                    case round =>
                      clear HH
                      obtain ⟨k, hk, rfl, HO⟩ := hrel
                      obtain ⟨A5, n5, c5, e5, h5⟩ := HO.out.slice
                      subst e5
                      clear h5
                      by_cases l1 : k < found.length
                      · obtain ⟨A', c', e', hcc, hrf⟩ := HF.out
                        cases e'
                        obtain ⟨ad, e1, q1⟩ := at_nat hrf k l1
                        cases e1
                        have r1 := pw_cell_below HO.out.below (pw_cell_below HB0.out q1)
                        have hin : found.take (k + 1) = found.take k ++ [rd found k] := Pack.take_snoc found k l1
                        have hmem : rd found k ∈ found := by
                          unfold rd
                          rw [Int.toNat_natCast, List.getD_eq_getElem?_getD, List.getElem?_eq_getElem l1]
                          exact List.getElem_mem l1
                        clear q1 hrf
                        generalize rd found (k : Int) = tm at r1 hin hmem
                        have n0 : 0 ≤ tm := HNL.out tm (by unfold timesOf; exact List.mem_append_left _ (List.mem_append_right _ hmem))
                        have n1 : tm < 9223372036854775808 := HT.out tm (by unfold timesOf; exact List.mem_append_left _ (List.mem_append_right _ hmem))
                        have HIN : Hid ((headOf ⟨out, cmd, time, mark, ins, found⟩ ++ insBytes ins ++ Pack.leBytes found.length 4 ++ foundBytes (found.take k)) ++ Pack.leBytes tm 8 = headOf ⟨out, cmd, time, mark, ins, found⟩ ++ insBytes ins ++ Pack.leBytes found.length 4 ++ foundBytes (found.take (k + 1))) := by
                          show _ = _
                          rw [hin, foundBytes_snoc]
                          simp only [List.append_assoc]
                        have HLB : Hid ((headOf ⟨out, cmd, time, mark, ins, found⟩ ++ insBytes ins ++ Pack.leBytes found.length 4 ++ foundBytes (found.take k)).length + (Pack.leBytes tm 8).length ≤ 140737488355328) := by
                          show _ ≤ _
                          have := run_part2 ⟨out, cmd, time, mark, ins, found⟩ k
                          simp only at this
                          rw [← HSZ3.out] at this
                          rw [leBytes_length]
                          omega
                        have f5 := pw_cell_below HO.out.below (show Wb.cell? ⟨w.heap.size, 5, none⟩ = some (.slice (some ad) found.length cF) from blk_cell HBX.out 5)
                        clear hin hmem
                        go_wp2_with fail
                        refine (number_any tm 8 _ (by omega) (by omega) (by omega)).mono ?_
                        rintro e wt ⟨vt, rfl, ot⟩
                        clear f5 r1
                        --SA166
                        obtain ⟨A9, n9, c9, rfl, h9⟩ := ot.slice
                        have HOs := Lib.hid (HO.out.step ot.below)
                        have HBt := Lib.hid ot.bs
                        clear ot h9 HO
                        go_wp2_with (at_builtin; refine Held.of ?_)
                        --S6
                        refine app_bytes rfl (.tmp 166) (.tmp 173) 27 rfl Try.underlying27 _ _ _ _ rfl rfl HOs.out HBt.out (HLB.out) ?_
                        intro va wa oa _
                        obtain ⟨A8, n8, c8, rfl, h8⟩ := oa.slice
                        have HO := Lib.hid oa
                        clear oa h8 HOs HBt
                        --S7
                        have HOn : Hid (Ow Wb wa (.slice A8 n8 c8) (headOf ⟨out, cmd, time, mark, ins, found⟩ ++ insBytes ins ++ Pack.leBytes found.length 4 ++ foundBytes (found.take (k + 1)))) := by
                          show Ow _ _ _ _
                          rw [← HIN.out]
                          exact HO.out
                        clear HO
                        go_wp2
                        go_roundw
                        case rel => exact ⟨k + 1, by omega, by go_num, HOn.out⟩
                        case measure => simp [intOf]; omega
                      · have hk2 : k = found.length := by omega
                        have HOe : Hid (Ow Wb wr (.slice A5 n5 c5) (runBytes ⟨out, cmd, time, mark, ins, found⟩)) := by
                          have h := HO.out
                          rw [hk2, List.take_length] at h
                          exact h
                        have HE : Hid (writeRes ⟨out, cmd, time, mark, ins, found⟩ = (runBytes ⟨out, cmd, time, mark, ins, found⟩, 0)) := by
                          show _ = _
                          rw [writeRes_of _ HNL.out, if_neg (by rw [← HSZ3.out]; omega)]
                        have f5 := pw_cell_below HO.out.below (show Wb.cell? ⟨w.heap.size, 5, none⟩ = some (.slice AF found.length cF) from blk_cell HBX.out 5)
                        clear hk2 HO
                        go_wp2
                        go_ret2
                        rw [HE.out]
                        exact ⟨_, rfl, HOe.out.lower HB0.out⟩
              · have HE := Lib.hid (writeRes_long ⟨out, cmd, time, mark, ins, found⟩ HNL.out sz2 (by omega) (by rw [HSZ3.out]; exact Nat.le_refl _))
                go_wp2
                go_ret2
                rw [HE.out]
                exact ⟨_, rfl, Ow.nil HB0.out⟩
            · have HE := Lib.hid (low_true ⟨out, cmd, time, mark, ins, found⟩ HLOW3.out)
              go_wp2
              go_ret2
              rw [HE.out]
              exact ⟨_, rfl, Ow.nil HB0.out⟩
--END WALK
end Go.Proofs.Ytehndlafbbpofaa.Run
