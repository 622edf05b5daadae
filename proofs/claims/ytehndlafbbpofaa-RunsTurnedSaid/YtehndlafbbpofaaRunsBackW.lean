/- RunsBack: what is written is read as it was, and the other way round (a walk). -/
import Derived.Test.YtehndlafbbpofaaRunBackPure
import Derived.Test.YtehndlafbbpofaaRunRead
import Derived.Test.YtehndlafbbpofaaRunSame
import Derived.Test.YtehndlafbbpofaaRunAwake
import Derived.Test.YtehndlafbbpofaaRunOpen
namespace Go.Proofs.Ytehndlafbbpofaa.Run
open Go.RowKit Go.Proofs.YtehndlafbbpofaaW.PrintWords Go.Proofs.YtehndlafbbpofaaW.PrintLast Go.Proofs.Ytehndlafbbpofaa.Base Go.Proofs.Ytehndlafbbpofaa.Pack
set_option linter.unusedVariables false
set_option linter.unusedSimpArgs false

theorem writeRes_zero (r : RunV) (h : (writeRes r).2 = 0) : (writeRes r).1 = runBytes r ∧ ∀ t ∈ timesOf r, 0 ≤ t := by
  by_cases hl : leastOf (timesOf r) < 0
  · rw [writeRes_low r hl] at h; cases h
  · have h0 := not_low r hl
    rw [writeRes_of r h0] at h ⊢
    split at h
    · cases h
    · rename_i hn
      rw [if_neg hn]
      exact ⟨rfl, h0⟩
theorem writeRes_len (r : RunV) (h : (writeRes r).2 = 0) : (runBytes r).length ≤ 4096 := by
  have h0 := (writeRes_zero r h).2
  rw [writeRes_of r h0] at h
  split at h
  · cases h
  · omega
theorem runBytes_bytes (r : RunV) : Bytes (runBytes r) := by
  have hi : Bytes (insBytes r.ins) := by
    intro x hx
    unfold insBytes at hx
    obtain ⟨p, _, hp⟩ := List.mem_flatMap.1 hx
    rcases List.mem_append.1 hp with hp | hp
    · exact textBytes_bytes _ x hp
    · exact leBytes_bytes _ _ x hp
  have hf : Bytes (foundBytes r.found) := by
    intro x hx
    unfold foundBytes at hx
    obtain ⟨p, _, hp⟩ := List.mem_flatMap.1 hx
    exact leBytes_bytes _ _ x hp
  unfold runBytes headOf
  exact ((((((((leBytes_bytes _ _).append (textBytes_bytes _)).append (textBytes_bytes _)).append (leBytes_bytes _ _)).append (leBytes_bytes _ _)).append (leBytes_bytes _ _)).append hi).append (leBytes_bytes _ _)).append hf
theorem insBytes_ge (l : List (ByteArray × Int)) : 12 * l.length ≤ (insBytes l).length ∨ 10 * l.length ≤ (insBytes l).length := by
  right
  induction l with
  | nil => simp [insBytes]
  | cons p l ih =>
    have e : insBytes (p :: l) = (textBytes p.1 ++ Pack.leBytes p.2 8) ++ insBytes l := by unfold insBytes; rw [List.flatMap_cons]
    rw [e]
    simp only [List.length_append, textBytes_length, leBytes_length, List.length_cons]
    omega
theorem insBytes_name (l : List (ByteArray × Int)) (p : ByteArray × Int) (hp : p ∈ l) : p.1.size ≤ (insBytes l).length := by
  induction l with
  | nil => cases hp
  | cons q l ih =>
    have e : insBytes (q :: l) = (textBytes q.1 ++ Pack.leBytes q.2 8) ++ insBytes l := by unfold insBytes; rw [List.flatMap_cons]
    rw [e]
    simp only [List.length_append, textBytes_length, leBytes_length]
    rcases List.mem_cons.1 hp with rfl | hp
    · omega
    · have := ih hp; omega
theorem foundBytes_len (l : List Int) : (foundBytes l).length = 8 * l.length := by
  induction l with
  | nil => rfl
  | cons x l ih =>
    have e : foundBytes (x :: l) = Pack.leBytes x 8 ++ foundBytes l := by unfold foundBytes; rw [List.flatMap_cons]
    rw [e, List.length_append, leBytes_length, ih, List.length_cons]
    omega
/-- A run that has been read is light, and its times are no noughts' fellows. -/
theorem raw_light (xs : List Int) (hb : Bytes xs) (h : okB (raw xs) = true) (hl : xs.length ≤ 5000) : LightR (raw xs).run ∧ ∀ t ∈ timesOf (raw xs).run, 0 ≤ t ∧ t < 9223372036854775808 := by
  obtain ⟨e, hf⟩ := raw_back xs hb h
  have hlen : (runBytes (raw xs).run).length ≤ 5000 := by rw [e]; exact hl
  have h0 := raw_range xs hb
  have h1 := lateR_false hf
  generalize (raw xs).run = r at hlen h0 h1
  unfold runBytes headOf at hlen
  simp only [List.length_append, textBytes_length, leBytes_length, foundBytes_len] at hlen
  have hi := insBytes_ge r.ins
  refine ⟨⟨by omega, by omega, by omega, by omega, fun p hp => by have := insBytes_name r.ins p hp; omega⟩, fun t ht => ?_⟩
  have a := h0 t ht
  have b := h1 t ht
  omega

--BEGIN WALK
set_option maxRecDepth 100000 in
set_option maxHeartbeats 8000000 in
theorem RunsBack_any (v v2 : Value) (r : RunV) (bs : List Int) (w : World) (h : RunIs w v r) (hft : FitR r) (h2 : Bs w v2 bs) (hb : Bytes bs) :
    Calls Try.prog 5 #[v, v2] w fun e w' => e = .returned (.bool true) ∧ Below w.heap.size w w' := by
  obtain ⟨vi, vf, rfl, hI, hF⟩ := h
  obtain ⟨AI, cI, rfl, hcI, hmI⟩ := hI.len
  obtain ⟨AF, cF, rfl, hcF, hmF⟩ := hF.len
  obtain ⟨Ab, cb, rfl, hcb, hmb⟩ := h2.len
  obtain ⟨out, cmd, time, mark, ins, found⟩ := r
  simp only at hcI hmI hcF hmF hI hF
  obtain ⟨Wb, hWb⟩ : ∃ Wb, Wb = w.alloc (.cells #[.string out, .string cmd, .int .i64 time, .int .i64 mark, .slice AI ins.length cI, .slice AF found.length cF] 25) := ⟨_, rfl⟩
  have hb0 : Below w.heap.size w Wb := by rw [hWb]; exact below_alloc (Below.refl _ _) _
  have hbx : Wb.heap[w.heap.size]? = some (.cells #[.string out, .string cmd, .int .i64 time, .int .i64 mark, .slice AI ins.length cI, .slice AF found.length cF] 25 (0, 0)) := by rw [hWb]; exact blk_new w _
  have HI := Lib.hid (hI.below hb0)
  have HF := Lib.hid (hF.below hb0)
  have HR0 : Hid (RunIs Wb (.agg #[.string out, .string cmd, .int .i64 time, .int .i64 mark, .slice AI ins.length cI, .slice AF found.length cF]) ⟨out, cmd, time, mark, ins, found⟩) := ⟨_, _, rfl, hI.below hb0, hF.below hb0⟩
  have HV2 := Lib.hid (h2.below hb0)
  have HBY := Lib.hid hb
  have HBX := Lib.hid hbx
  have HB0 := Lib.hid hb0
  have HWB := Lib.hid hWb
  have HFT := Lib.hid hft
  clear hI hF hb0 hbx hWb hft h2 hb
  go_enter Try.func5, Try.ntmps5
  go_wp2_with fail
  rw [← HWB.out]
  refine (light_any _ ⟨out, cmd, time, mark, ins, found⟩ _ HR0.out HFT.out.out HFT.out.cmd HFT.out.names).mono ?_
  rintro e w1 ⟨he, hb1⟩
  have HB1 := Lib.hid hb1
  clear hb1
  rcases he with ⟨rfl, hL⟩ | rfl
  case inr =>
    go_wp2
    go_ret
    exact ⟨rfl, HB0.out.trans (HB1.out.mono HB0.out.size)⟩
  have HL := Lib.hid hL
  clear hL
  by_cases g1 : bs.length ≤ 5000
  case neg =>
    go_wp2
    go_ret
    exact ⟨rfl, HB0.out.trans (HB1.out.mono HB0.out.size)⟩
  have HX1 := Lib.hid ((HB1.out.block _ (blk_lt HBX.out)).trans HBX.out)
  have HR1 := Lib.hid (HR0.out.below HB1.out)
  have I1 := Lib.hid (HI.out.below HB1.out)
  have F1 := Lib.hid (HF.out.below HB1.out)
  have V1 := Lib.hid (HV2.out.below HB1.out)
  have HBA := Lib.hid (HB0.out.trans (HB1.out.mono HB0.out.size))
  clear HR0 HBX HI HF HV2 HB1
  have c2 : w1.cell? ⟨w.heap.size, 2, none⟩ = some (.int .i64 time) := blk_cell HX1.out 2
  have c3 : w1.cell? ⟨w.heap.size, 3, none⟩ = some (.int .i64 mark) := blk_cell HX1.out 3
  have c4 : w1.cell? ⟨w.heap.size, 4, none⟩ = some (.slice AI ins.length cI) := blk_cell HX1.out 4
  have c5 : w1.cell? ⟨w.heap.size, 5, none⟩ = some (.slice AF found.length cF) := blk_cell HX1.out 5
  obtain ⟨lt0, hlt⟩ : ∃ lt0 : Bool, lt0 = (late time || late mark) := ⟨_, rfl⟩
  have HLT := Lib.hid hlt
  clear hlt
  go_upto_region 3 with fail
  go_cut [5] from 24 (fun s5 wx => s5 = .bool lt0 ∧ w1 = wx)
  case first =>
    by_cases g2 : 4611686018427387904 ≤ time
    · have e1 : late time = true := decide_eq_true g2
      go_wp2
      go_meet
      case rel => exact ⟨by rw [HLT.out, e1]; rfl, rfl⟩
    · have e1 : late time = false := decide_eq_false g2
      by_cases g3 : 4611686018427387904 ≤ mark
      · have e2 : late mark = true := decide_eq_true g3
        go_wp2
        go_meet
        case rel => exact ⟨by rw [HLT.out, e1, e2]; rfl, rfl⟩
      · have e2 : late mark = false := decide_eq_false g3
        go_wp2
        go_meet
        case rel => exact ⟨by rw [HLT.out, e1, e2]; rfl, rfl⟩
  case rest =>
    obtain ⟨rfl, rfl⟩ := hcut
    go_wp2
    go_loop [5, 6] (fun s5 s6 => ∃ (k : Nat) (lt : Bool), k ≤ ins.length ∧ s6 = .int .i64 k ∧ s5 = .bool lt ∧ Hid (lt = (lt0 || (ins.take k).any (fun p => late p.2)))) (fun _ s6 => ins.length - (intOf s6).toNat)
    case atStart => exact ⟨0, lt0, by omega, rfl, rfl, by show _ = _; simp⟩
    case round =>
      obtain ⟨k, lt, hk, rfl, rfl, HLW⟩ := hrel
      by_cases l1 : k < ins.length
      · obtain ⟨ad, e1, q1, q2⟩ := I1.out.get k l1
        cases e1
        have hin := ins_snoc ins k l1
        generalize ins.getD k (ByteArray.empty, 0) = pk at q2 hin
        obtain ⟨nm, tm⟩ := pk
        simp only at q2
        have r3 := second_cell q2
        have hlow2 : (lt || late tm) = (lt0 || (ins.take (k + 1)).any (fun p => late p.2)) := by
          rw [hin, List.any_append, ← Bool.or_assoc, ← HLW.out]
          simp
        have HLW2 := Lib.hid hlow2
        clear q1 q2 hin hlow2 HLW c2 c3 c5
        cases lt
        · by_cases l2 : 4611686018427387904 ≤ tm
          · have d2 : late tm = true := decide_eq_true l2
            go_wp2
            go_round
            case rel => exact ⟨k + 1, true, by omega, by go_num, rfl, by show _ = _; rw [← HLW2.out, d2]; rfl⟩
            case measure => simp [intOf]; omega
          · have d2 : late tm = false := decide_eq_false l2
            go_wp2
            go_round
            case rel => exact ⟨k + 1, false, by omega, by go_num, rfl, by show _ = _; rw [← HLW2.out, d2]; rfl⟩
            case measure => simp [intOf]; omega
        · go_wp2
          go_round
          case rel => exact ⟨k + 1, true, by omega, by go_num, rfl, by show _ = _; rw [← HLW2.out]; rfl⟩
          case measure => simp [intOf]; omega
      · have hk2 : k = ins.length := by omega
        have HLW1 : Hid (lt = (lt0 || ins.any (fun p => late p.2))) := by have h := HLW.out; rw [hk2, List.take_length] at h; exact h
        clear hk2 HLW
        go_wp2
        go_loop [5, 7] (fun s5 s7 => ∃ (k : Nat) (lt2 : Bool), k ≤ found.length ∧ s7 = .int .i64 k ∧ s5 = .bool lt2 ∧ Hid (lt2 = (lt || (found.take k).any late))) (fun _ s7 => found.length - (intOf s7).toNat)
        case atStart => exact ⟨0, lt, by omega, rfl, rfl, by show _ = _; simp⟩
        case round =>
          obtain ⟨k, lt2, hk, rfl, rfl, HLW⟩ := hrel
          by_cases l1 : k < found.length
          · obtain ⟨A', c', e', hcc, hrf⟩ := F1.out
            cases e'
            obtain ⟨ad, e1, q1⟩ := at_nat hrf k l1
            cases e1
            have hin : found.take (k + 1) = found.take k ++ [rd found k] := Pack.take_snoc found k l1
            clear hrf
            generalize rd found (k : Int) = tm at q1 hin
            have hlow2 : (lt2 || late tm) = (lt || (found.take (k + 1)).any late) := by
              rw [hin, List.any_append, ← Bool.or_assoc, ← HLW.out]
              simp
            have HLW2 := Lib.hid hlow2
            clear hin hlow2 HLW c2 c3 c4
            cases lt2
            · by_cases l2 : 4611686018427387904 ≤ tm
              · have d2 : late tm = true := decide_eq_true l2
                go_wp2
                go_round
                case rel => exact ⟨k + 1, true, by omega, by go_num, rfl, by show _ = _; rw [← HLW2.out, d2]; rfl⟩
                case measure => simp [intOf]; omega
              · have d2 : late tm = false := decide_eq_false l2
                go_wp2
                go_round
                case rel => exact ⟨k + 1, false, by omega, by go_num, rfl, by show _ = _; rw [← HLW2.out, d2]; rfl⟩
                case measure => simp [intOf]; omega
            · go_wp2
              go_round
              case rel => exact ⟨k + 1, true, by omega, by go_num, rfl, by show _ = _; rw [← HLW2.out]; rfl⟩
              case measure => simp [intOf]; omega
          · have hk2 : k = found.length := by omega
            have HLL : Hid (lt2 = lateR ⟨out, cmd, time, mark, ins, found⟩) := by
              have h := HLW.out
              rw [hk2, List.take_length, HLW1.out, HLT.out] at h
              exact h
            clear hk2 HLW HLW1 HLT c2 c3 c4
            --S1
            go_wp2_with (with_reducible refine gate_ (.load 25 (.tmp 2)) rfl ?_; refine Held.of ?_)
            refine Held.out (wpList_load_row rfl 25 (.tmp 2) rfl w.heap.size rfl 25 _ (0, 0) _ HX1.out Try.underlying25 rfl (by kernel_rfl) ?_)
            go_wp2_with fail
            refine (of_any _ ⟨out, cmd, time, mark, ins, found⟩ _ HR1.out (Nat.le_trans HL.out.ins (by decide)) (Nat.le_trans HL.out.found (by decide))).mono ?_
            rintro e w2 ⟨vo, rfl, hr2, hb2⟩
            have HB2 := Lib.hid hb2
            have HR2 := Lib.hid hr2
            clear hr2 hb2
            go_wp2_with fail
            refine (write_any _ ⟨out, cmd, time, mark, ins, found⟩ _ HR2.out HL.out HFT.out.times).mono ?_
            rintro e w3 ⟨v3, rfl, o3⟩
            have HB3 := Lib.hid (HB2.out.trans (o3.below.mono HB2.out.size))
            have HS3 := Lib.hid o3.bs
            obtain ⟨A3, n3, c3, rfl, hn3⟩ := o3.slice
            clear o3 hn3 HB2 HR2
            have HX3 := Lib.hid ((HB3.out.block _ (blk_lt HX1.out)).trans HX1.out)
            have HR3 := Lib.hid (HR1.out.below HB3.out)
            have V3 := Lib.hid (V1.out.below HB3.out)
            have HBC := Lib.hid (HBA.out.trans (HB3.out.mono HBA.out.size))
            clear HX1 HR1 V1 I1 F1
            obtain ⟨er, her⟩ : ∃ er, er = (writeRes ⟨out, cmd, time, mark, ins, found⟩).2 := ⟨_, rfl⟩
            rw [← her]
            have HER := Lib.hid her
            clear her
            go_upto_if 72 with fail
            go_cut [] from 73 (fun wx => Below w3.heap.size w3 wx)
            case first =>
              by_cases g4 : er = 0
              · have HW := Lib.hid (writeRes_zero ⟨out, cmd, time, mark, ins, found⟩ (by rw [← HER.out]; exact g4))
                have HRW : Hid (raw (runBytes ⟨out, cmd, time, mark, ins, found⟩) = ⟨Crc.hashOf (bytesOf cmd), ⟨out, cmd, time, mark, ins, found⟩, ([], false)⟩) :=
                  raw_put ⟨out, cmd, time, mark, ins, found⟩ (fun t ht => ⟨HW.out.2 t ht, HFT.out.times t ht⟩) (by have := HL.out.out; simp only at this ⊢; omega) (by have := HL.out.cmd; simp only at this ⊢; omega) (by have := HL.out.ins; simp only at this ⊢; omega) (by have := HL.out.found; simp only at this ⊢; omega) (fun p hp => by have := HL.out.names p hp; omega)
                have HS4 : Hid (Bs w3 (.slice A3 n3 c3) (runBytes ⟨out, cmd, time, mark, ins, found⟩)) := by have h := HS3.out; rw [HW.out.1] at h; exact h
                have HYR : Hid (Bytes (runBytes ⟨out, cmd, time, mark, ins, found⟩)) := runBytes_bytes _
                have hlen : (runBytes ⟨out, cmd, time, mark, ins, found⟩).length ≤ 1000000 := by have := writeRes_len ⟨out, cmd, time, mark, ins, found⟩ (by rw [← HER.out]; exact g4); omega
                subst g4
                go_wp2_with fail
                refine (read_any _ (runBytes ⟨out, cmd, time, mark, ins, found⟩) _ HS4.out HYR.out hlen).mono ?_
                rintro e w4 ⟨v4, rfl, hr4, hb4⟩
                have HE4 : Hid (readErr (runBytes ⟨out, cmd, time, mark, ins, found⟩) = if lateR ⟨out, cmd, time, mark, ins, found⟩ = true then 4 else 0) := by
                  show _ = _
                  unfold readErr okB
                  rw [HRW.out]
                  cases lateR ⟨out, cmd, time, mark, ins, found⟩ <;> simp
                have HRR : Hid (lateR ⟨out, cmd, time, mark, ins, found⟩ = false → readRun (runBytes ⟨out, cmd, time, mark, ins, found⟩) = ⟨out, cmd, time, mark, ins, found⟩) := by
                  intro hf
                  unfold readRun okB
                  rw [HRW.out, hf]
                  simp
                have HB4 := Lib.hid hb4
                have R4 := Lib.hid hr4
                obtain ⟨rr, hrr⟩ : ∃ rr, rr = readRun (runBytes ⟨out, cmd, time, mark, ins, found⟩) := ⟨_, rfl⟩
                rw [← hrr] at R4 HRR
                obtain ⟨vi4, vf4, rfl, hI4, hF4⟩ := R4.out
                obtain ⟨A5, c5, rfl, _, _⟩ := hI4.len
                obtain ⟨A6, c6, rfl, _, _⟩ := hF4.len
                obtain ⟨ri, hri⟩ : ∃ ri, ri = rr.ins.length := ⟨_, rfl⟩
                obtain ⟨rf, hrf⟩ : ∃ rf, rf = rr.found.length := ⟨_, rfl⟩
                rw [← hri, ← hrf] at R4 ⊢
                rw [HE4.out, ← HLL.out]
                clear hr4 hb4 hrr hI4 hF4 hri hrf HE4
                obtain ⟨wz, hwz⟩ : ∃ wz, wz = w4.alloc (.cells #[.string rr.out, .string rr.cmd, .int .i64 rr.time, .int .i64 rr.mark, .slice A5 ri c5, .slice A6 rf c6] 33) := ⟨_, rfl⟩
                have hb5 : Below w4.heap.size w4 wz := by rw [hwz]; exact below_alloc (Below.refl _ _) _
                obtain ⟨g, hg⟩ : ∃ g, w4.heap.size = g := ⟨_, rfl⟩
                have X5 : Hid (wz.heap[g]? = some (.cells #[.string rr.out, .string rr.cmd, .int .i64 rr.time, .int .i64 rr.mark, .slice A5 ri c5, .slice A6 rf c6] 33 (0, 0))) := by show _ = _; rw [hwz, ← hg]; exact blk_new w4 _
                have HB5 := Lib.hid (HB4.out.trans (hb5.mono HB4.out.size))
                have R5 := Lib.hid (R4.out.below hb5)
                have X6 := Lib.hid ((HB5.out.block _ (blk_lt HX3.out)).trans HX3.out)
                have R6 := Lib.hid (HR3.out.below HB5.out)
                have HWZ := Lib.hid hwz
                clear hwz hb5 R4 HB4
                have Q0 : Hid (wz.cell? ⟨g, 0, none⟩ = some (.string rr.out)) := blk_cell X5.out 0
                have Q1 : Hid (wz.cell? ⟨g, 1, none⟩ = some (.string rr.cmd)) := blk_cell X5.out 1
                have Q2 : Hid (wz.cell? ⟨g, 2, none⟩ = some (.int .i64 rr.time)) := blk_cell X5.out 2
                have Q3 : Hid (wz.cell? ⟨g, 3, none⟩ = some (.int .i64 rr.mark)) := blk_cell X5.out 3
                have Q4 : Hid (wz.cell? ⟨g, 4, none⟩ = some (.slice A5 ri c5)) := blk_cell X5.out 4
                have Q5 : Hid (wz.cell? ⟨g, 5, none⟩ = some (.slice A6 rf c6)) := blk_cell X5.out 5
                have Q6 : Hid (wz.cell? ⟨w.heap.size, 0, none⟩ = some (.string out)) := blk_cell X6.out 0
                have Q7 : Hid (wz.cell? ⟨w.heap.size, 1, none⟩ = some (.string cmd)) := blk_cell X6.out 1
                have Q8 : Hid (wz.cell? ⟨w.heap.size, 2, none⟩ = some (.int .i64 time)) := blk_cell X6.out 2
                have Q9 : Hid (wz.cell? ⟨w.heap.size, 3, none⟩ = some (.int .i64 mark)) := blk_cell X6.out 3
                have Q10 : Hid (wz.cell? ⟨w.heap.size, 4, none⟩ = some (.slice AI ins.length cI)) := blk_cell X6.out 4
                have Q11 : Hid (wz.cell? ⟨w.heap.size, 5, none⟩ = some (.slice AF found.length cF)) := blk_cell X6.out 5
                cases lt2 with
                | true =>
                  rw [if_pos rfl]
                  go_wp2
                  rw [← HWZ.out]
                  try rw [hg]
                  refine start_ (n := 15) (S := fun w' => Below wz.heap.size wz w' ∧ w'.cell? ⟨g, 0, none⟩ = some (.string rr.out) ∧ w'.cell? ⟨g, 1, none⟩ = some (.string rr.cmd) ∧ w'.cell? ⟨g, 2, none⟩ = some (.int .i64 rr.time) ∧ w'.cell? ⟨g, 3, none⟩ = some (.int .i64 rr.mark) ∧ w'.cell? ⟨g, 4, none⟩ = some (.slice A5 ri c5) ∧ w'.cell? ⟨g, 5, none⟩ = some (.slice A6 rf c6) ∧ w'.cell? ⟨w.heap.size, 0, none⟩ = some (.string out) ∧ w'.cell? ⟨w.heap.size, 1, none⟩ = some (.string cmd) ∧ w'.cell? ⟨w.heap.size, 2, none⟩ = some (.int .i64 time) ∧ w'.cell? ⟨w.heap.size, 3, none⟩ = some (.int .i64 mark) ∧ w'.cell? ⟨w.heap.size, 4, none⟩ = some (.slice AI ins.length cI) ∧ w'.cell? ⟨w.heap.size, 5, none⟩ = some (.slice AF found.length cF)) (ds := []) #[false, false, false, false, false, false, false, false, false, false, false, false, false, false, false] (by kernel_rfl) rfl rfl ⟨Below.drew (Below.refl _ _), Q0.out, Q1.out, Q2.out, Q3.out, Q4.out, Q5.out, Q6.out, Q7.out, Q8.out, Q9.out, Q10.out, Q11.out⟩ (fun hHeld => ?_)
                  refine pure_ (i := 0) (N := some 78) (v := ?_) (a' := ?_) #[true, false, false, false, false, false, false, false, false, false, false, false, false, false, false] rfl rfl (by kernel_rfl) (fun _ _ _ h => h) (Or.inl ⟨by rfl, ?_⟩) ?_ ?_
                  rotate_left
                  · intro w'
                    go_simp
                    with_reducible rfl
                  rotate_left
                  · simp only [Act.put, List.setIfInBounds_toArray, List.set_cons_zero, List.set_cons_succ, i64_w, i32_w]
                    rfl
                  refine pure_ (i := 1) (N := some 79) (v := ?_) (a' := ?_) #[true, true, false, false, false, false, false, false, false, false, false, false, false, false, false] rfl rfl (by kernel_rfl) (fun _ _ _ h => h) (Or.inl ⟨by rfl, ?_⟩) ?_ ?_
                  rotate_left
                  · intro w'
                    go_simp
                    with_reducible rfl
                  rotate_left
                  · simp only [Act.put, List.setIfInBounds_toArray, List.set_cons_zero, List.set_cons_succ, i64_w, i32_w]
                    rfl
                  refine pure_ (i := 2) (N := some 80) (v := ?_) (a' := ?_) #[true, true, true, false, false, false, false, false, false, false, false, false, false, false, false] rfl rfl (by kernel_rfl) (fun _ _ _ h => h) (Or.inl ⟨by rfl, ?_⟩) ?_ ?_
                  rotate_left
                  · intro w'
                    go_simp
                    with_reducible rfl
                  rotate_left
                  · simp only [Act.put, List.setIfInBounds_toArray, List.set_cons_zero, List.set_cons_succ, i64_w, i32_w]
                    rfl
                  refine pure_ (i := 3) (N := some 81) (v := ?_) (a' := ?_) #[true, true, true, true, false, false, false, false, false, false, false, false, false, false, false] rfl rfl (by kernel_rfl) (fun _ _ _ h => h) (Or.inl ⟨by rfl, ?_⟩) ?_ ?_
                  rotate_left
                  · intro w'
                    go_simp
                    with_reducible rfl
                  rotate_left
                  · simp only [Act.put, List.setIfInBounds_toArray, List.set_cons_zero, List.set_cons_succ, i64_w, i32_w]
                    rfl
                  refine pure_ (i := 4) (N := some 82) (v := ?_) (a' := ?_) #[true, true, true, true, true, false, false, false, false, false, false, false, false, false, false] rfl rfl (by kernel_rfl) (fun _ _ _ h => h) (Or.inl ⟨by rfl, ?_⟩) ?_ ?_
                  rotate_left
                  · intro w'
                    go_simp
                    with_reducible rfl
                  rotate_left
                  · simp only [Act.put, List.setIfInBounds_toArray, List.set_cons_zero, List.set_cons_succ, i64_w, i32_w]
                    rfl
                  refine pure_ (i := 5) (N := some 83) (v := ?_) (a' := ?_) #[true, true, true, true, true, true, false, false, false, false, false, false, false, false, false] rfl rfl (by kernel_rfl) (fun _ _ _ h => h) (Or.inl ⟨by rfl, ?_⟩) ?_ ?_
                  rotate_left
                  · intro w'
                    go_simp
                    with_reducible rfl
                  rotate_left
                  · simp only [Act.put, List.setIfInBounds_toArray, List.set_cons_zero, List.set_cons_succ, i64_w, i32_w]
                    rfl
                  refine pure_ (i := 6) (N := some 84) (v := ?_) (a' := ?_) #[true, true, true, true, true, true, true, false, false, false, false, false, false, false, false] rfl rfl (by kernel_rfl) (fun _ _ _ h => h) (Or.inl ⟨by rfl, ?_⟩) ?_ ?_
                  rotate_left
                  · intro w'
                    go_simp
                    with_reducible rfl
                  rotate_left
                  · simp only [Act.put, List.setIfInBounds_toArray, List.set_cons_zero, List.set_cons_succ, i64_w, i32_w]
                    rfl
                  refine pure_ (i := 7) (N := some 85) (v := ?_) (a' := ?_) #[true, true, true, true, true, true, true, true, false, false, false, false, false, false, false] rfl rfl (by kernel_rfl) (fun _ _ _ h => h) (Or.inl ⟨by rfl, ?_⟩) ?_ ?_
                  rotate_left
                  · intro w'
                    go_simp
                    with_reducible rfl
                  rotate_left
                  · simp only [Act.put, List.setIfInBounds_toArray, List.set_cons_zero, List.set_cons_succ, i64_w, i32_w]
                    rfl
                  refine pure_ (i := 8) (N := some 86) (v := undef) (a' := ?_) #[true, true, true, true, true, true, true, true, true, false, false, false, false, false, false] rfl rfl (by kernel_rfl) (fun _ _ _ h => h) (Or.inr ⟨by rfl, rfl⟩) ?_ ?_
                  rotate_left
                  · simp only [Act.put, List.setIfInBounds_toArray, List.set_cons_zero, List.set_cons_succ, i64_w, i32_w]
                    rfl
                  refine pure_ (i := 9) (N := some 87) (v := undef) (a' := ?_) #[true, true, true, true, true, true, true, true, true, true, false, false, false, false, false] rfl rfl (by kernel_rfl) (fun _ _ _ h => h) (Or.inr ⟨by rfl, rfl⟩) ?_ ?_
                  rotate_left
                  · simp only [Act.put, List.setIfInBounds_toArray, List.set_cons_zero, List.set_cons_succ, i64_w, i32_w]
                    rfl
                  refine pure_ (i := 10) (N := some 88) (v := undef) (a' := ?_) #[true, true, true, true, true, true, true, true, true, true, true, false, false, false, false] rfl rfl (by kernel_rfl) (fun _ _ _ h => h) (Or.inr ⟨by rfl, rfl⟩) ?_ ?_
                  rotate_left
                  · simp only [Act.put, List.setIfInBounds_toArray, List.set_cons_zero, List.set_cons_succ, i64_w, i32_w]
                    rfl
                  refine pure_ (i := 11) (N := some 89) (v := undef) (a' := ?_) #[true, true, true, true, true, true, true, true, true, true, true, true, false, false, false] rfl rfl (by kernel_rfl) (fun _ _ _ h => h) (Or.inr ⟨by rfl, rfl⟩) ?_ ?_
                  rotate_left
                  · simp only [Act.put, List.setIfInBounds_toArray, List.set_cons_zero, List.set_cons_succ, i64_w, i32_w]
                    rfl
                  refine pure_ (i := 12) (N := some 90) (v := undef) (a' := ?_) #[true, true, true, true, true, true, true, true, true, true, true, true, true, false, false] rfl rfl (by kernel_rfl) (fun _ _ _ h => h) (Or.inr ⟨by rfl, rfl⟩) ?_ ?_
                  rotate_left
                  · simp only [Act.put, List.setIfInBounds_toArray, List.set_cons_zero, List.set_cons_succ, i64_w, i32_w]
                    rfl
                  refine pure_ (i := 13) (N := some 91) (v := ?_) (a' := ?_) #[true, true, true, true, true, true, true, true, true, true, true, true, true, true, false] rfl rfl (by kernel_rfl) (fun _ _ _ h => h) (Or.inl ⟨by rfl, ?_⟩) ?_ ?_
                  rotate_left
                  · intro w'
                    go_simp
                    with_reducible rfl
                  rotate_left
                  · simp only [Act.put, List.setIfInBounds_toArray, List.set_cons_zero, List.set_cons_succ, i64_w, i32_w]
                    rfl
                  refine pure_ (i := 14) (N := some 92) (v := ?_) (a' := ?_) #[true, true, true, true, true, true, true, true, true, true, true, true, true, true, true] rfl rfl (by kernel_rfl) (fun _ _ _ h => h) (Or.inl ⟨by rfl, ?_⟩) ?_ ?_
                  rotate_left
                  · intro w'
                    go_simp
                    with_reducible rfl
                  rotate_left
                  · simp only [Act.put, List.setIfInBounds_toArray, List.set_cons_zero, List.set_cons_succ, i64_w, i32_w]
                    rfl
                  refine done_ (by kernel_rfl) ?_
                  have HH := Lib.hid hHeld.1
                  clear hHeld
                  go_wp2
                  go_meet
                  case rel => exact HB5.out.trans (HH.out.mono HB5.out.size)
                | false =>
                  rw [if_neg (by decide)]
                  have RR := Lib.hid (HRR.out HLL.out.symm)
                  go_wp2
                  rw [← HWZ.out]
                  try rw [hg]
                  refine start_ (n := 15) (S := fun w' => Below wz.heap.size wz w' ∧ w'.cell? ⟨g, 0, none⟩ = some (.string rr.out) ∧ w'.cell? ⟨g, 1, none⟩ = some (.string rr.cmd) ∧ w'.cell? ⟨g, 2, none⟩ = some (.int .i64 rr.time) ∧ w'.cell? ⟨g, 3, none⟩ = some (.int .i64 rr.mark) ∧ w'.cell? ⟨g, 4, none⟩ = some (.slice A5 ri c5) ∧ w'.cell? ⟨g, 5, none⟩ = some (.slice A6 rf c6) ∧ w'.cell? ⟨w.heap.size, 0, none⟩ = some (.string out) ∧ w'.cell? ⟨w.heap.size, 1, none⟩ = some (.string cmd) ∧ w'.cell? ⟨w.heap.size, 2, none⟩ = some (.int .i64 time) ∧ w'.cell? ⟨w.heap.size, 3, none⟩ = some (.int .i64 mark) ∧ w'.cell? ⟨w.heap.size, 4, none⟩ = some (.slice AI ins.length cI) ∧ w'.cell? ⟨w.heap.size, 5, none⟩ = some (.slice AF found.length cF)) (ds := []) #[false, false, false, false, false, false, false, false, false, false, false, false, false, false, false] (by kernel_rfl) rfl rfl ⟨Below.drew (Below.refl _ _), Q0.out, Q1.out, Q2.out, Q3.out, Q4.out, Q5.out, Q6.out, Q7.out, Q8.out, Q9.out, Q10.out, Q11.out⟩ (fun hHeld => ?_)
                  refine pure_ (i := 0) (N := some 78) (v := ?_) (a' := ?_) #[true, false, false, false, false, false, false, false, false, false, false, false, false, false, false] rfl rfl (by kernel_rfl) (fun _ _ _ h => h) (Or.inl ⟨by rfl, ?_⟩) ?_ ?_
                  rotate_left
                  · intro w'
                    go_simp
                    with_reducible rfl
                  rotate_left
                  · simp only [Act.put, List.setIfInBounds_toArray, List.set_cons_zero, List.set_cons_succ, i64_w, i32_w]
                    rfl
                  refine pure_ (i := 1) (N := some 79) (v := ?_) (a' := ?_) #[true, true, false, false, false, false, false, false, false, false, false, false, false, false, false] rfl rfl (by kernel_rfl) (fun _ _ _ h => h) (Or.inl ⟨by rfl, ?_⟩) ?_ ?_
                  rotate_left
                  · intro w'
                    go_simp
                    with_reducible rfl
                  rotate_left
                  · simp only [Act.put, List.setIfInBounds_toArray, List.set_cons_zero, List.set_cons_succ, i64_w, i32_w]
                    rfl
                  refine pure_ (i := 2) (N := some 80) (v := ?_) (a' := ?_) #[true, true, true, false, false, false, false, false, false, false, false, false, false, false, false] rfl rfl (by kernel_rfl) (fun _ _ _ h => h) (Or.inl ⟨by rfl, ?_⟩) ?_ ?_
                  rotate_left
                  · intro w'
                    go_simp
                    with_reducible rfl
                  rotate_left
                  · simp only [Act.put, List.setIfInBounds_toArray, List.set_cons_zero, List.set_cons_succ, i64_w, i32_w]
                    rfl
                  refine pure_ (i := 3) (N := some 81) (v := ?_) (a' := ?_) #[true, true, true, true, false, false, false, false, false, false, false, false, false, false, false] rfl rfl (by kernel_rfl) (fun _ _ _ h => h) (Or.inl ⟨by rfl, ?_⟩) ?_ ?_
                  rotate_left
                  · intro w'
                    go_simp
                    with_reducible rfl
                  rotate_left
                  · simp only [Act.put, List.setIfInBounds_toArray, List.set_cons_zero, List.set_cons_succ, i64_w, i32_w]
                    rfl
                  refine pure_ (i := 4) (N := some 82) (v := ?_) (a' := ?_) #[true, true, true, true, true, false, false, false, false, false, false, false, false, false, false] rfl rfl (by kernel_rfl) (fun _ _ _ h => h) (Or.inl ⟨by rfl, ?_⟩) ?_ ?_
                  rotate_left
                  · intro w'
                    go_simp
                    with_reducible rfl
                  rotate_left
                  · simp only [Act.put, List.setIfInBounds_toArray, List.set_cons_zero, List.set_cons_succ, i64_w, i32_w]
                    rfl
                  refine pure_ (i := 5) (N := some 83) (v := ?_) (a' := ?_) #[true, true, true, true, true, true, false, false, false, false, false, false, false, false, false] rfl rfl (by kernel_rfl) (fun _ _ _ h => h) (Or.inl ⟨by rfl, ?_⟩) ?_ ?_
                  rotate_left
                  · intro w'
                    go_simp
                    with_reducible rfl
                  rotate_left
                  · simp only [Act.put, List.setIfInBounds_toArray, List.set_cons_zero, List.set_cons_succ, i64_w, i32_w]
                    rfl
                  refine pure_ (i := 6) (N := some 84) (v := ?_) (a' := ?_) #[true, true, true, true, true, true, true, false, false, false, false, false, false, false, false] rfl rfl (by kernel_rfl) (fun _ _ _ h => h) (Or.inl ⟨by rfl, ?_⟩) ?_ ?_
                  rotate_left
                  · intro w'
                    go_simp
                    with_reducible rfl
                  rotate_left
                  · simp only [Act.put, List.setIfInBounds_toArray, List.set_cons_zero, List.set_cons_succ, i64_w, i32_w]
                    rfl
                  refine pure_ (i := 7) (N := some 85) (v := ?_) (a' := ?_) #[true, true, true, true, true, true, true, true, false, false, false, false, false, false, false] rfl rfl (by kernel_rfl) (fun _ _ _ h => h) (Or.inl ⟨by rfl, ?_⟩) ?_ ?_
                  rotate_left
                  · intro w'
                    go_simp
                    with_reducible rfl
                  rotate_left
                  · simp only [Act.put, List.setIfInBounds_toArray, List.set_cons_zero, List.set_cons_succ, i64_w, i32_w]
                    rfl
                  refine take_ (i := 8) (N := some 86) (v := ?_) (a' := ?_) #[true, true, true, true, true, true, true, true, true, false, false, false, false, false, false] rfl rfl (by kernel_rfl) (fun _ _ _ h => h) (Or.inl ⟨by rfl, ?_⟩) hHeld ?_ ?_
                  rotate_left
                  · rintro w' ⟨s0, s1, s2, s3, s4, s5, s6, s7, s8, s9, s10, s11, s12⟩
                    go_simp
                    with_reducible rfl
                  rotate_left
                  · simp only [Act.put, List.setIfInBounds_toArray, List.set_cons_zero, List.set_cons_succ, i64_w, i32_w]
                    rfl
                  refine take_ (i := 10) (N := some 88) (v := ?_) (a' := ?_) #[true, true, true, true, true, true, true, true, true, false, true, false, false, false, false] rfl rfl (by kernel_rfl) (fun _ _ _ h => h) (Or.inl ⟨by rfl, ?_⟩) hHeld ?_ ?_
                  rotate_left
                  · rintro w' ⟨s0, s1, s2, s3, s4, s5, s6, s7, s8, s9, s10, s11, s12⟩
                    go_simp
                    with_reducible rfl
                  rotate_left
                  · simp only [Act.put, List.setIfInBounds_toArray, List.set_cons_zero, List.set_cons_succ, i64_w, i32_w]
                    rfl
                  refine one_ (i := 9) (N := some 87) #[true, true, true, true, true, true, true, true, true, true, true, false, false, false, false] rfl rfl (by kernel_rfl) (by decide) (fun K hK => ?_)
                  refine goes_ Try.func21 (by kernel_rfl) rfl #[.agg #[.string rr.out, .string rr.cmd, .int .i64 rr.time, .int .i64 rr.mark, .slice A5 ri c5, .slice A6 rf c6]] (by rfl) rfl rfl (by first | (simp only [List.map_toArray, List.map_cons, List.map_nil]; done) | (simp only [List.map_toArray, List.map_cons, List.map_nil]; rfl) | rfl) ?_
                  with_reducible refine (told_any _ rr _ (R5.out.below hHeld.1) (by rw [RR.out]; have := HL.out.ins; simp only at this ⊢; omega) (by rw [RR.out]; have := HL.out.found; simp only at this ⊢; omega)).mono ?_
                  rintro e w5 ⟨vt, rfl, rt, bt⟩
                  refine ⟨_, rfl, ?_⟩
                  have hb5 := hHeld.1.trans (bt.mono hHeld.1.size)
                  rw [RR.out] at rt
                  have RT := Lib.hid rt
                  clear rt bt
                  refine hK.out _ _ ⟨hb5, pw_cell_below (hb5) Q0.out, pw_cell_below (hb5) Q1.out, pw_cell_below (hb5) Q2.out, pw_cell_below (hb5) Q3.out, pw_cell_below (hb5) Q4.out, pw_cell_below (hb5) Q5.out, pw_cell_below (hb5) Q6.out, pw_cell_below (hb5) Q7.out, pw_cell_below (hb5) Q8.out, pw_cell_below (hb5) Q9.out, pw_cell_below (hb5) Q10.out, pw_cell_below (hb5) Q11.out⟩ (fun hHeld => ?_)
                  clear hK K
                  refine norm_ (a' := ?_) ?_ ?_
                  rotate_left
                  · show Act.put _ (some 87) _ = _
                    simp only [Act.put, List.setIfInBounds_toArray, List.set_cons_zero, List.set_cons_succ, i64_w, i32_w]
                    rfl
                  refine one_ (i := 11) (N := some 89) #[true, true, true, true, true, true, true, true, true, true, true, true, false, false, false] rfl rfl (by kernel_rfl) (by decide) (fun K hK => ?_)
                  refine goes_ Try.func20 (by kernel_rfl) rfl #[vt, .agg #[.string out, .string cmd, .int .i64 time, .int .i64 mark, .slice AI ins.length cI, .slice AF found.length cF]] (by rfl) rfl rfl (by first | (simp only [List.map_toArray, List.map_cons, List.map_nil]; done) | (simp only [List.map_toArray, List.map_cons, List.map_nil]; rfl) | rfl) ?_
                  with_reducible refine (same_true _ _ ⟨out, cmd, time, mark, ins, found⟩ _ RT.out (R6.out.below hHeld.1)).mono ?_
                  rintro e w6 ⟨rfl, bs6⟩
                  refine ⟨_, rfl, ?_⟩
                  have hb6 := hHeld.1.trans (bs6.mono hHeld.1.size)
                  clear bs6
                  refine hK.out _ _ ⟨hb6, pw_cell_below (hb6) Q0.out, pw_cell_below (hb6) Q1.out, pw_cell_below (hb6) Q2.out, pw_cell_below (hb6) Q3.out, pw_cell_below (hb6) Q4.out, pw_cell_below (hb6) Q5.out, pw_cell_below (hb6) Q6.out, pw_cell_below (hb6) Q7.out, pw_cell_below (hb6) Q8.out, pw_cell_below (hb6) Q9.out, pw_cell_below (hb6) Q10.out, pw_cell_below (hb6) Q11.out⟩ (fun hHeld => ?_)
                  clear hK K
                  refine norm_ (a' := ?_) ?_ ?_
                  rotate_left
                  · show Act.put _ (some 89) _ = _
                    simp only [Act.put, List.setIfInBounds_toArray, List.set_cons_zero, List.set_cons_succ, i64_w, i32_w]
                    rfl
                  refine pure_ (i := 12) (N := some 90) (v := ?_) (a' := ?_) #[true, true, true, true, true, true, true, true, true, true, true, true, true, false, false] rfl rfl (by kernel_rfl) (fun _ _ _ h => h) (Or.inl ⟨by rfl, ?_⟩) ?_ ?_
                  rotate_left
                  · intro w'
                    go_simp
                    with_reducible rfl
                  rotate_left
                  · simp only [Act.put, List.setIfInBounds_toArray, List.set_cons_zero, List.set_cons_succ, i64_w, i32_w]
                    rfl
                  refine pure_ (i := 13) (N := some 91) (v := ?_) (a' := ?_) #[true, true, true, true, true, true, true, true, true, true, true, true, true, true, false] rfl rfl (by kernel_rfl) (fun _ _ _ h => h) (Or.inl ⟨by rfl, ?_⟩) ?_ ?_
                  rotate_left
                  · intro w'
                    go_simp
                    with_reducible rfl
                  rotate_left
                  · simp only [Act.put, List.setIfInBounds_toArray, List.set_cons_zero, List.set_cons_succ, i64_w, i32_w]
                    rfl
                  refine pure_ (i := 14) (N := some 92) (v := ?_) (a' := ?_) #[true, true, true, true, true, true, true, true, true, true, true, true, true, true, true] rfl rfl (by kernel_rfl) (fun _ _ _ h => h) (Or.inl ⟨by rfl, ?_⟩) ?_ ?_
                  rotate_left
                  · intro w'
                    go_simp
                    with_reducible rfl
                  rotate_left
                  · simp only [Act.put, List.setIfInBounds_toArray, List.set_cons_zero, List.set_cons_succ, i64_w, i32_w]
                    rfl
                  refine done_ (by kernel_rfl) ?_
                  have HH := Lib.hid hHeld.1
                  clear hHeld
                  go_wp2
                  go_meet
                  case rel => exact HB5.out.trans (HH.out.mono HB5.out.size)
              · have q4 : (er == 0) = false := by simp [g4]
                go_wp2
                go_meet
                case rel => exact Below.refl _ _
            case rest =>
              have HBD := Lib.hid (HBC.out.trans (hcut.mono HBC.out.size))
              have V4 := Lib.hid (V3.out.below hcut)
              clear hcut V3 HS3 HX3 HR3
              --S2
              go_wp2_with fail
              refine (read_any _ bs _ V4.out HBY.out (by omega)).mono ?_
              rintro e w4 ⟨v4, rfl, hr4, hb4⟩
              have HB4 := Lib.hid hb4
              have R4 := Lib.hid hr4
              obtain ⟨rr, hrr⟩ : ∃ rr, rr = readRun bs := ⟨_, rfl⟩
              rw [← hrr] at R4
              have HRR := Lib.hid hrr
              obtain ⟨vi4, vf4, rfl, hI4, hF4⟩ := R4.out
              obtain ⟨A5, c5, rfl, _, _⟩ := hI4.len
              obtain ⟨A6, c6, rfl, _, _⟩ := hF4.len
              obtain ⟨ri, hri⟩ : ∃ ri, ri = rr.ins.length := ⟨_, rfl⟩
              obtain ⟨rf, hrf⟩ : ∃ rf, rf = rr.found.length := ⟨_, rfl⟩
              rw [← hri, ← hrf] at R4 ⊢
              clear hr4 hb4 hrr hI4 hF4 hri hrf
              obtain ⟨wz, hwz⟩ : ∃ wz, wz = w4.alloc (.cells #[.string rr.out, .string rr.cmd, .int .i64 rr.time, .int .i64 rr.mark, .slice A5 ri c5, .slice A6 rf c6] 33) := ⟨_, rfl⟩
              have hb5 : Below w4.heap.size w4 wz := by rw [hwz]; exact below_alloc (Below.refl _ _) _
              obtain ⟨g, hg⟩ : ∃ g, w4.heap.size = g := ⟨_, rfl⟩
              have X5 : Hid (wz.heap[g]? = some (.cells #[.string rr.out, .string rr.cmd, .int .i64 rr.time, .int .i64 rr.mark, .slice A5 ri c5, .slice A6 rf c6] 33 (0, 0))) := by show _ = _; rw [hwz, ← hg]; exact blk_new w4 _
              have HB5 := Lib.hid (HBD.out.trans ((HB4.out.trans (hb5.mono HB4.out.size)).mono HBD.out.size))
              have R5 := Lib.hid (R4.out.below hb5)
              have V5 := Lib.hid (V4.out.below (HB4.out.trans (hb5.mono HB4.out.size)))
              have HWZ := Lib.hid hwz
              clear hwz hb5 R4 HB4 V4
              cases hok : okB (raw bs) with
              | false =>
                have he : readErr bs = 4 := by unfold readErr; rw [hok]; rfl
                rw [he]
                clear he hok
                go_wp2_with fail
                rw [← HWZ.out]
                try rw [hg]
                refine (awake_any _).mono ?_
                rintro e w5 ⟨rfl, hb5⟩
                have HB6 := Lib.hid (HB5.out.trans (hb5.mono HB5.out.size))
                clear hb5
                go_wp2
                go_ret
                exact ⟨rfl, HB6.out⟩
              | true =>
                have he : readErr bs = 0 := by unfold readErr; rw [hok]; rfl
                rw [he]
                have HRB := Lib.hid (raw_back bs HBY.out hok)
                have HRE : Hid (rr = (raw bs).run) := by show _ = _; rw [HRR.out]; unfold readRun; rw [if_pos hok]
                have HLR : Hid (LightR rr ∧ (∀ t ∈ timesOf rr, 0 ≤ t ∧ t < 9223372036854775808)) := by
                  show _ ∧ _
                  rw [HRE.out]
                  exact raw_light bs HBY.out hok g1
                clear he hok
                go_wp2_with (with_reducible refine gate_ (.load 33 (.tmp 12)) rfl ?_; refine Held.of ?_)
                rw [← HWZ.out]
                try rw [hg]
                refine Held.out (wpList_load_row rfl 33 (.tmp 12) rfl g rfl 33 _ (0, 0) _ X5.out Try.underlying33 rfl (by kernel_rfl) ?_)
                go_wp2_with fail
                refine (write_any _ rr _ R5.out HLR.out.1 (fun t ht => (HLR.out.2 t ht).2)).mono ?_
                rintro e w5 ⟨v5, rfl, o5⟩
                have HWR : Hid (writeRes rr = if 4096 < bs.length then ([], 3) else (bs, 0)) := by
                  show _ = _
                  rw [writeRes_of rr (fun t ht => (HLR.out.2 t ht).1), HRE.out, HRB.out.1]
                have HB6 := Lib.hid (HB5.out.trans (o5.below.mono HB5.out.size))
                rw [HWR.out] at o5 ⊢
                by_cases g5 : 4096 < bs.length
                · rw [if_pos g5] at o5 ⊢
                  have S5 := Lib.hid o5.bs
                  obtain ⟨A7, n7, c7, rfl, hn7⟩ := o5.slice
                  clear o5 hn7
                  go_wp2_with fail
                  refine (awake_any _).mono ?_
                  rintro e w6 ⟨rfl, hb6⟩
                  have HB7 := Lib.hid (HB6.out.trans (hb6.mono HB6.out.size))
                  clear hb6
                  go_wp2
                  go_ret
                  exact ⟨rfl, HB7.out⟩
                · rw [if_neg g5] at o5 ⊢
                  have k1 := str_of o5.bs
                  have k2 := str_of (V5.out.below o5.below)
                  obtain ⟨A7, n7, c7, rfl, hn7⟩ := o5.slice
                  clear o5 hn7
                  have q1 : ((strOfNums bs).toList != (strOfNums bs).toList) = false := by simp
                  go_wp2_with fail
                  refine (awake_any _).mono ?_
                  rintro e w6 ⟨rfl, hb6⟩
                  have HB7 := Lib.hid (HB6.out.trans (hb6.mono HB6.out.size))
                  clear hb6
                  go_wp2
                  go_ret
                  exact ⟨rfl, HB7.out⟩
--END WALK
end Go.Proofs.Ytehndlafbbpofaa.Run
