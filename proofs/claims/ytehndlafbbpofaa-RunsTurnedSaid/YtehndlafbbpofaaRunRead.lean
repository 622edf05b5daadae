/- The contract of runs.Read (a walk). -/
import Derived.Test.YtehndlafbbpofaaRunGet
import Derived.Deep.CutRange
import Derived.Deep.CutBlock
import Derived.Laws.ResultCell
namespace Go.Proofs.Ytehndlafbbpofaa.Run
open Go.RowKit Go.Proofs.YtehndlafbbpofaaW.PrintWords Go.Proofs.YtehndlafbbpofaaW.PrintLast Go.Proofs.Ytehndlafbbpofaa.Base Go.Proofs.Ytehndlafbbpofaa.Pack
set_option linter.unusedVariables false
set_option linter.unusedSimpArgs false

def readErr (xs : List Int) : Int := if okB (raw xs) = true then 0 else 4
theorem results_cell_row_tmp {P : Program} {fn : Func} {p u : Tmp} {ty : TypeId} (h : fn.results = #[.cell p ty, .tmp u]) (tmps : Array Value) (w : World) (g : Nat) (t : TypeId) (cs : Array Value) (fr : Nat × Nat) (d : TypeDesc)
    (hp : tmps.getD p undef = .pointer (some ⟨g, 0, none⟩)) (hg : w.heap[g]? = some (.cells cs t fr))
    (hu : P.underlying ty = some d) (hd : (match d with | .struct _ | .array _ _ => true | _ => false) = true) (hi : (P.info? ty).map (·.size) = some cs.size) :
    (results fn tmps).run P w = .ok (.tuple #[.agg cs, tmps.getD u undef]) w := by
  rw [results_cell_tmp h, hp]
  simp [asAddr, run_loadVar_row w g t ty cs fr d hg hu hd hi]

--BEGIN WALK
set_option maxRecDepth 100000 in
set_option maxHeartbeats 8000000 in
theorem read_any (v : Value) (xs : List Int) (w : World) (hv : Bs w v xs) (hb : Bytes xs) (hl : xs.length ≤ 1000000) :
    Calls Try.prog 18 #[v] w fun e w' => ∃ v', e = .returned (.tuple #[v', .int .i64 (readErr xs)]) ∧ RunIs w' v' (readRun xs) ∧ Below w.heap.size w w' := by
  obtain ⟨Wb, hWb⟩ : ∃ Wb, Wb = w.alloc (.cells zrun 33) := ⟨_, rfl⟩
  have hb0 : Below w.heap.size w Wb := by rw [hWb]; exact below_alloc (Below.refl _ _) _
  have hsz : Wb.heap.size = w.heap.size + 1 := by rw [hWb]; exact World.size_alloc' _ _
  have hrs : Wb.heap[w.heap.size]? = some (.cells zrun 33 (0, 0)) := by rw [hWb]; exact blk_new w _
  have HV := Lib.hid (hv.below hb0)
  have HBY := Lib.hid hb
  have HB0 := Lib.hid hb0
  have HSZ := Lib.hid hsz
  have HRS := Lib.hid hrs
  have HWB : Hid (Wb = w.alloc (.cells #[.string ⟨#[]⟩, .string ⟨#[]⟩, .int .i64 0, .int .i64 0, .slice none 0 0, .slice none 0 0] 33)) := hWb
  obtain ⟨A, c, rfl, _, _⟩ := hv.len
  clear hv hb hb0 hsz hrs hWb
  go_enter Try.func18, Try.ntmps18
  go_wp2_with fail
  rw [← HWB.out]
  refine (new_any _ xs _ HV.out (by omega)).mono ?_
  rintro e w1 ⟨g, rfl, hr1, hb1⟩
  obtain ⟨b, hbb⟩ : ∃ b, w1.heap.size = b := ⟨_, rfl⟩
  obtain ⟨W2, hW2⟩ : ∃ W2, W2 = w1.alloc (.cells #[.bool false] 4) := ⟨_, rfl⟩
  have hb2 : Below w1.heap.size w1 W2 := by rw [hW2]; exact below_alloc (Below.refl _ _) _
  have HR2 := Lib.hid (hr1.below hb2)
  have HBD2 : Hid (W2.heap[b]? = some (.cells #[.bool false] 4 (0, 0))) := by show _ = _; rw [hW2, ← hbb]; exact blk_new w1 _
  have HB2 : Hid (Below Wb.heap.size Wb W2) := hb1.trans (hb2.mono hb1.size)
  have HBB : Hid (Wb.heap.size ≤ b) := by show _ ≤ _; rw [← hbb]; exact hb1.size
  have HBG : Hid (b ≠ g) := by
    obtain ⟨vv, hc, _⟩ := HR2.out.cell
    exact cells_ne HBD2.out hc (by decide)
  have HW2 := Lib.hid hW2
  clear hr1 hb1 hb2 hW2
  go_wp2_with fail
  rw [← HW2.out]
  try rw [hbb]
  have HBE := Lib.hid hbb
  clear hbb
  refine (r64_g Wb.heap.size g (xs, false) _ HR2.out HBY.out).mono ?_
  rintro e W3 ⟨rfl, hr3, ho3⟩
  obtain ⟨hs, hhs⟩ : ∃ hs, hs = num 8 (xs, false) := ⟨_, rfl⟩
  rw [← hhs]
  have HHS := Lib.hid hhs
  have HR3 : Hid (Rd Wb.heap.size W3 g (rs1 xs).1 (rs1 xs).2) := hr3
  have HO3 := Lib.hid ho3
  have HY1 : Hid (Bytes (rs1 xs).1) := numS_bytes HBY.out
  have hhr := num_range (s := (xs, false)) HBY.out (show 8 ≤ 8 by omega)
  rw [← hhs] at hhr
  clear hr3 ho3 hhs HR2
  go_wp2_with fail
  refine (rtxt_g Wb.heap.size g (rs1 xs) _ HR3.out HY1.out).mono ?_
  rintro e W4 ⟨rfl, hr4, ho4⟩
  have HR4 : Hid (Rd Wb.heap.size W4 g (rs2 xs).1 (rs2 xs).2) := hr4
  have HO4 := Lib.hid (HO3.out.trans ho4)
  have HY2 : Hid (Bytes (rs2 xs).1) := txtS_bytes HY1.out
  obtain ⟨out, hout⟩ : ∃ out, out = txt (rs1 xs) := ⟨_, rfl⟩
  rw [← hout]
  have HOUT := Lib.hid hout
  clear hr4 ho4 hout HR3 HO3
  go_wp2_with fail
  refine (rtxt_g Wb.heap.size g (rs2 xs) _ HR4.out HY2.out).mono ?_
  rintro e W5 ⟨rfl, hr5, ho5⟩
  have HR5 : Hid (Rd Wb.heap.size W5 g (rs3 xs).1 (rs3 xs).2) := hr5
  have HO5 := Lib.hid (HO4.out.trans ho5)
  have HY3 : Hid (Bytes (rs3 xs).1) := txtS_bytes HY2.out
  obtain ⟨cmd, hcmd⟩ : ∃ cmd, cmd = txt (rs2 xs) := ⟨_, rfl⟩
  rw [← hcmd]
  have HCMD := Lib.hid hcmd
  have hcs : cmd.size ≤ 65535 := by rw [hcmd]; exact (txt_size (rs2 xs) HY2.out).2
  clear hr5 ho5 hcmd HR4 HO4
  obtain ⟨h, hh⟩ : ∃ h, W5.heap.size = h := ⟨_, rfl⟩
  obtain ⟨W6, hW6⟩ : ∃ W6, W6 = W5.alloc (.cells #[.string out, .string cmd, .int .i64 0, .int .i64 0, .slice none 0 0, .slice none 0 0] 33) := ⟨_, rfl⟩
  have hb6 : Below W5.heap.size W5 W6 := by rw [hW6]; exact below_alloc (Below.refl _ _) _
  have hg5 : Wb.heap.size ≤ g := HR5.out.base
  have hbw2 : Below w.heap.size w W5 := HB0.out.trans ((HB2.out.trans (HO5.out.below hg5 HB2.out.size)).mono HB0.out.size)
  have X6 : Hid (Rx w W6 Wb.heap.size g b h w.heap.size (rs3 xs) false ⟨out, cmd, 0, 0, [], []⟩ (.slice none 0 0) (.slice none 0 0)) := by
    have hh6 : W6.heap[h]? = some (.cells #[.string out, .string cmd, .int .i64 0, .int .i64 0, .slice none 0 0, .slice none 0 0] 33 (0, 0)) := by rw [hW6, ← hh]; exact blk_new W5 _
    have hq5 : W5.heap[w.heap.size]? = some (.cells zrun 33 (0, 0)) := (HO5.out.block _ (blk_lt ((HB2.out.block _ (blk_lt HRS.out)).trans HRS.out)) (by have := HSZ.out; omega)).trans ((HB2.out.block _ (blk_lt HRS.out)).trans HRS.out)
    have hb5 : W5.heap[b]? = some (.cells #[.bool false] 4 (0, 0)) := (HO5.out.block b (blk_lt HBD2.out) HBG.out).trans HBD2.out
    exact ⟨⟨hh6, (hb6.block _ (blk_lt hq5)).trans hq5, Kd.R_nil _ _ _ _ _, Oi.nil (hbw2.trans (hb6.mono hbw2.size)), by have := blk_lt hq5; omega, by have := hbw2.size; omega, Nat.le_refl _⟩, HR5.out.below hb6, (hb6.block _ (blk_lt hb5)).trans hb5, by have := HBB.out; have := HSZ.out; omega, by have := HSZ.out; omega, HY3.out⟩
  have HW6 := Lib.hid hW6
  have HHE := Lib.hid hh
  clear hb6 hg5 hbw2 hW6 HR5 HO5 HBD2 HRS HB2
  go_wp2_with fail
  rw [← HW6.out]
  try rw [hh]
  clear hh
  --S1
  refine (time_x w _ _ _ _ _ _ _ _ _ _ _ X6.out).mono ?_
  rintro e W7 ⟨rfl, x7⟩
  obtain ⟨t, ht⟩ : ∃ t, t = num 8 (rs3 xs) := ⟨_, rfl⟩
  rw [← ht]
  rw [← ht] at x7
  have HT := Lib.hid ht
  have X7 := Lib.hid x7
  have f7 := blk_frozen X7.out.rn.run 2
  have c7 := blk_cell X7.out.rn.run 2
  have X8 : Hid (Rx w (W7.setCell ⟨h, 2, none⟩ (.int .i64 (c1 t))) Wb.heap.size g b h w.heap.size (rs4 xs) (false || late t) ⟨out, cmd, c1 t, 0, [], []⟩ (.slice none 0 0) (.slice none 0 0)) := X7.out.put 2 _ _ rfl rfl rfl
  clear ht x7 X6 X7
  go_wp2_with fail
  obtain ⟨W8, hW8⟩ : ∃ W8, W8 = W7.setCell ⟨h, 2, none⟩ (.int .i64 (c1 t)) := ⟨_, rfl⟩
  rw [← hW8] at X8 ⊢
  clear hW8 f7 c7
  refine (time_x w _ _ _ _ _ _ _ _ _ _ _ X8.out).mono ?_
  rintro e W9 ⟨rfl, x9⟩
  obtain ⟨m, hm⟩ : ∃ m, m = num 8 (rs4 xs) := ⟨_, rfl⟩
  rw [← hm]
  rw [← hm] at x9
  have HM := Lib.hid hm
  have X9 := Lib.hid x9
  have f9 := blk_frozen X9.out.rn.run 3
  have c9 := blk_cell X9.out.rn.run 3
  have X10 : Hid (Rx w (W9.setCell ⟨h, 3, none⟩ (.int .i64 (c1 m))) Wb.heap.size g b h w.heap.size (rs5 xs) (false || late t || late m) ⟨out, cmd, c1 t, c1 m, [], []⟩ (.slice none 0 0) (.slice none 0 0)) := X9.out.put 3 _ _ rfl rfl rfl
  clear hm x9 X8 X9
  go_wp2_with fail
  obtain ⟨W10, hW10⟩ : ∃ W10, W10 = W9.setCell ⟨h, 3, none⟩ (.int .i64 (c1 m)) := ⟨_, rfl⟩
  rw [← hW10] at X10 ⊢
  clear hW10 f9 c9
  refine (r32_g _ _ (rs5 xs) _ X10.out.rd X10.out.by_).mono ?_
  rintro e W11 ⟨rfl, hr, ho⟩
  have X11 := Lib.hid (X10.out.op hr ho (numS_bytes X10.out.by_))
  have hn4 := num4_range X10.out.by_
  obtain ⟨n, hn⟩ := Int.eq_ofNat_of_zero_le hn4.1
  rw [hn] at hn4 ⊢
  have HN : Hid ((num 4 (rs5 xs)).toNat = n) := by show _ = _; rw [hn]; rfl
  have hn3 : n < 4294967296 := by omega
  clear hr ho X10 hn hn4
  obtain ⟨lt0, hlt⟩ : ∃ lt0 : Bool, lt0 = (false || late t || late m) := ⟨_, rfl⟩
  rw [← hlt] at X11
  have HLT := Lib.hid hlt
  clear hlt
  go_upto_block 0 with fail
  go_cut [8] from 27 (fun s8 wx => ∃ (acc : List (ByteArray × Int)) (s : RS) (u : Value), Hid (rI xs = (acc, s)) ∧ Hid (Rx w wx Wb.heap.size g b h w.heap.size s (lt0 || acc.any (fun p => late p.2)) ⟨out, cmd, c1 t, c1 m, acc.map fun p => (p.1, c1 p.2), []⟩ u (.slice none 0 0)))
  case first =>
    go_wp2_with fail
    --S2
    go_loopw [8] (fun sN wr => ∃ (k : Nat) (s : RS) (acc : List (ByteArray × Int)) (u : Value), k + acc.length ≤ 4294967296 ∧ sN = .int .u32 k ∧ Hid (Rx w wr Wb.heap.size g b h w.heap.size s (lt0 || acc.any (fun p => late p.2)) ⟨out, cmd, c1 t, c1 m, acc.map fun p => (p.1, c1 p.2), []⟩ u (.slice none 0 0)) ∧ Hid (insL n (numS 4 (rs5 xs)) = (acc ++ (insL k s).1, (insL k s).2))) (fun sN _ => (intOf sN).toNat)
    case atStart => exact ⟨n, numS 4 (rs5 xs), [], (.slice none 0 0), by simp only [List.length_nil]; omega, rfl, by show Rx _ _ _ _ _ _ _ _ _ _ _ _; rw [List.any_nil, Bool.or_false]; exact X11.out, by show _ = _; simp⟩
    case round =>
      obtain ⟨k, s, acc, u, hka, rfl, X, HI⟩ := hrel
      clear X11
      rcases Nat.eq_zero_or_pos k with hk0 | hk0
      · subst hk0
        have HE : Hid (insL n (numS 4 (rs5 xs)) = (acc, s)) := by
          show _ = _
          rw [HI.out, insL_stop 0 s (.inl rfl), List.append_nil]
        clear HI
        go_wp2
        have HIx : Hid (rI xs = (acc, s)) := by
          show insL _ _ = _
          rw [HN.out]
          exact HE.out
        go_meet
        case rel => exact ⟨acc, s, u, HIx, X⟩
      · cases hs2 : s.2 with
        | true =>
          have HE : Hid (insL n (numS 4 (rs5 xs)) = (acc, s)) := by
            show _ = _
            rw [HI.out, insL_stop k s (.inr hs2), List.append_nil]
          have HS2 := Lib.hid hs2
          clear HI hs2
          go_wp2_with fail
          refine (right_any _ _ s.1 s.2 _ X.out.rd).mono ?_
          rintro e w' ⟨rfl, rfl⟩
          rw [HS2.out]
          clear HS2
          go_wp2
          have HIx : Hid (rI xs = (acc, s)) := by
            show insL _ _ = _
            rw [HN.out]
            exact HE.out
          go_meet
          case rel => exact ⟨acc, s, u, HIx, X⟩
        | false =>
          obtain ⟨k, rfl⟩ : ∃ j, k = j + 1 := ⟨k - 1, by omega⟩
          have HS2 := Lib.hid hs2
          clear hs2
          go_wp2_with fail
          refine (right_any _ _ s.1 s.2 _ X.out.rd).mono ?_
          rintro e w' ⟨rfl, rfl⟩
          rw [HS2.out]
          obtain ⟨A6, c6, e6, _, _⟩ := (ri_is X.out.rn.ins).len
          obtain ⟨n6, hn6⟩ : ∃ n6, n6 = (acc.map fun p => (p.1, c1 p.2)).length := ⟨_, rfl⟩
          rw [← hn6] at e6
          subst e6
          clear hn6
          go_wp2
          refine start_ (n := 11) (S := fun w' => w'.cell? ⟨h, 4, none⟩ = some (.slice A6 n6 c6)) (ds := [10]) #[false, false, false, false, false, false, false, false, false, false, false] (by kernel_rfl) rfl rfl (blk_cell X.out.rn.run 4) (fun hHeld => ?_)
          refine pure_ (i := 0) (N := some 35) (v := ?_) (a' := ?_) #[true, false, false, false, false, false, false, false, false, false, false] rfl rfl (by kernel_rfl) (fun _ _ _ h => h) (Or.inl ⟨by rfl, ?_⟩) ?_ ?_
          rotate_left
          · intro w'
            go_simp
            with_reducible rfl
          rotate_left
          · simp only [Act.put, List.setIfInBounds_toArray, List.set_cons_zero, List.set_cons_succ, i64_w, i32_w]
            rfl
          refine pure_ (i := 2) (N := some 37) (v := ?_) (a' := ?_) #[true, false, true, false, false, false, false, false, false, false, false] rfl rfl (by kernel_rfl) (fun _ _ _ h => h) (Or.inl ⟨by rfl, ?_⟩) ?_ ?_
          rotate_left
          · intro w'
            go_simp
            with_reducible rfl
          rotate_left
          · simp only [Act.put, List.setIfInBounds_toArray, List.set_cons_zero, List.set_cons_succ, i64_w, i32_w]
            rfl
          refine pure_ (i := 4) (N := some 39) (v := ?_) (a' := ?_) #[true, false, true, false, true, false, false, false, false, false, false] rfl rfl (by kernel_rfl) (fun _ _ _ h => h) (Or.inl ⟨by rfl, ?_⟩) ?_ ?_
          rotate_left
          · intro w'
            go_simp
            with_reducible rfl
          rotate_left
          · simp only [Act.put, List.setIfInBounds_toArray, List.set_cons_zero, List.set_cons_succ, i64_w, i32_w]
            rfl
          refine take_ (i := 1) (N := some 36) (v := ?_) (a' := ?_) #[true, true, true, false, true, false, false, false, false, false, false] rfl rfl (by kernel_rfl) (fun _ _ _ h => h) (Or.inl ⟨by rfl, ?_⟩) hHeld ?_ ?_
          rotate_left
          · intro w' s0
            go_simp
            with_reducible rfl
          rotate_left
          · simp only [Act.put, List.setIfInBounds_toArray, List.set_cons_zero, List.set_cons_succ, i64_w, i32_w]
            rfl
          refine one_ (i := 3) (N := some 38) #[true, true, true, true, true, false, false, false, false, false, false] rfl rfl (by kernel_rfl) (by decide) (fun K hK => ?_)
          refine goes_ Try.func50 (by kernel_rfl) rfl #[.pointer (some ⟨g, 0, none⟩)] (by rfl) rfl rfl (by first | (simp only [List.map_toArray, List.map_cons, List.map_nil]; done) | (simp only [List.map_toArray, List.map_cons, List.map_nil]; rfl) | rfl) ?_
          with_reducible refine (rtxt_g _ _ s _ X.out.drew.rd X.out.by_).mono ?_
          rintro e w3 ⟨rfl, hr3, ho3⟩
          refine ⟨_, rfl, ?_⟩
          have X3 := Lib.hid (X.out.drew.op hr3 ho3 (txtS_bytes X.out.by_))
          clear hr3 ho3
          refine hK.out _ _ (blk_cell X3.out.rn.run 4) (fun hHeld => ?_)
          clear hK K
          refine norm_ (a' := ?_) ?_ ?_
          rotate_left
          · show Act.put _ (some 38) _ = _
            simp only [Act.put, List.setIfInBounds_toArray, List.set_cons_zero, List.set_cons_succ, i64_w, i32_w]
            rfl
          refine one_ (i := 5) (N := some 40) #[true, true, true, true, true, true, false, false, false, false, false] rfl rfl (by kernel_rfl) (by decide) (fun K hK => ?_)
          refine goes_ Try.func51 (by kernel_rfl) rfl #[.pointer (some ⟨g, 0, none⟩), .pointer (some ⟨b, 0, none⟩)] (by rfl) rfl rfl (by first | (simp only [List.map_toArray, List.map_cons, List.map_nil]; done) | (simp only [List.map_toArray, List.map_cons, List.map_nil]; rfl) | rfl) ?_
          with_reducible refine (time_x w _ _ _ _ _ _ _ _ _ _ _ X3.out).mono ?_
          rintro e w4 ⟨rfl, x4⟩
          refine ⟨_, rfl, ?_⟩
          have X4 := Lib.hid x4
          clear x4
          refine hK.out _ _ (blk_cell X4.out.rn.run 4) (fun hHeld => ?_)
          clear hK K
          refine norm_ (a' := ?_) ?_ ?_
          rotate_left
          · show Act.put _ (some 40) _ = _
            simp only [Act.put, List.setIfInBounds_toArray, List.set_cons_zero, List.set_cons_succ, i64_w, i32_w]
            rfl
          refine pure_ (i := 6) (N := some 41) (v := ?_) (a' := ?_) #[true, true, true, true, true, true, true, false, false, false, false] rfl rfl (by kernel_rfl) (fun _ _ _ h => h) (Or.inl ⟨by rfl, ?_⟩) ?_ ?_
          rotate_left
          · intro w'
            go_simp
            with_reducible rfl
          rotate_left
          · simp only [Act.put, List.setIfInBounds_toArray, List.set_cons_zero, List.set_cons_succ, i64_w, i32_w]
            rfl
          refine one_ (i := 7) (N := some 42) #[true, true, true, true, true, true, true, true, false, false, false] rfl rfl (by kernel_rfl) (by decide) (fun K hK => ?_)
          refine value_ (w1 := ?_) (v := ?_) (by rfl) rfl ?_ ?_
          rotate_left 2
          · go_simp
            constructor
            · rfl
            · rfl
          refine hK.out _ _ (pw_cell_below (below_alloc (Below.refl _ _) _) (blk_cell X4.out.rn.run 4)) (fun hHeld => ?_)
          clear hK K
          refine norm_ (a' := ?_) ?_ ?_
          rotate_left
          · show Act.put _ (some 42) _ = _
            simp only [Act.put, List.setIfInBounds_toArray, List.set_cons_zero, List.set_cons_succ, i64_w, i32_w]
            rfl
          refine one_ (i := 8) (N := some 43) #[true, true, true, true, true, true, true, true, true, false, false] rfl rfl (by kernel_rfl) (by decide) (fun K hK => ?_)
          refine Kd.R_append_step kin (w0 := w) (W := w4) w.heap.size rfl (.tmp 36) (.tmp 42) 31 50 (.agg #[.string ⟨#[]⟩, .int .i64 0]) 24 rfl Try.underlying31 (by kernel_rfl) rfl (by decide) (by decide) (.slice A6 n6 c6) _ (txt s, c1 (num 8 (txtS s))) [.string (txt s), .int .i64 (c1 (num 8 (txtS s)))] (fun _ => True) (fun _ => False) rfl rfl (ri_m _ _ _ _) (fun _ hk => hk.elim) (fun _ _ => trivial) X4.out.rn.ins X4.out.rn.fnd.below X4.out.rn.fnd.below.size (by simp only [List.length_map]; omega) ?_
          intro v1 w5 r1 b1 g1 _
          obtain ⟨e5, x5⟩ := X4.out.app r1 b1 g1
          obtain ⟨A5, c5, e6, _, _⟩ := (ri_is r1).len
          obtain ⟨n5, hn5⟩ : ∃ n5, n5 = ((acc.map fun p => (p.1, c1 p.2)) ++ [(txt s, c1 (num 8 (txtS s)))]).length := ⟨_, rfl⟩
          have e6' : v1 = .slice A5 n5 c5 := by rw [hn5]; exact e6
          clear e6
          subst e6'
          have X5 := Lib.hid x5
          have f5 := blk_frozen e5 4
          have c5' := blk_cell e5 4
          clear hn5 g1 r1 x5
          refine hK.out _ _ (c5') (fun hHeld => ?_)
          clear hK K
          refine norm_ (a' := ?_) ?_ ?_
          rotate_left
          · show Act.put _ (some 43) _ = _
            simp only [Act.put, List.setIfInBounds_toArray, List.set_cons_zero, List.set_cons_succ, i64_w, i32_w]
            rfl
          refine pure_ (i := 9) (N := some 44) (v := ?_) (a' := ?_) #[true, true, true, true, true, true, true, true, true, true, false] rfl rfl (by kernel_rfl) (fun _ _ _ h => h) (Or.inl ⟨by rfl, ?_⟩) ?_ ?_
          rotate_left
          · intro w'
            go_simp
            with_reducible rfl
          rotate_left
          · simp only [Act.put, List.setIfInBounds_toArray, List.set_cons_zero, List.set_cons_succ, i64_w, i32_w]
            rfl
          refine last_ (i := 10) (N := none) #[true, true, true, true, true, true, true, true, true, true, true] rfl rfl (by kernel_rfl) (by decide) (fun K hK => ?_)
          refine skip_ (w1 := ?_) (by rfl) rfl ?_ ?_
          rotate_left
          · go_simp
            rfl
          refine hK.out _ _ ?_
          clear hK K
          refine done_ (by kernel_rfl) ?_
          --S3
          have X6 : Hid (Rx w (w5.setCell ⟨h, 4, none⟩ (.slice A5 n5 c5)) Wb.heap.size g b h w.heap.size (numS 8 (txtS s)) (lt0 || (acc ++ [(txt s, num 8 (txtS s))]).any (fun p => late p.2)) ⟨out, cmd, c1 t, c1 m, (acc ++ [(txt s, num 8 (txtS s))]).map fun p => (p.1, c1 p.2), []⟩ (.slice A5 n5 c5) (.slice none 0 0)) := by
            have hx := X5.out
            simp only [List.map_append, List.map_cons, List.map_nil, List.any_append, List.any_cons, List.any_nil, Bool.or_false, ← Bool.or_assoc] at hx ⊢
            exact hx
          have HI2 : Hid (insL n (numS 4 (rs5 xs)) = ((acc ++ [(txt s, num 8 (txtS s))]) ++ (insL k (numS 8 (txtS s))).1, (insL k (numS 8 (txtS s))).2)) := by
            show _ = _
            rw [HI.out, insL_go k s HS2.out, List.append_assoc]
            rfl
          obtain ⟨W6', hW6'⟩ : ∃ W6', W6' = w5.setCell ⟨h, 4, none⟩ (.slice A5 n5 c5) := ⟨_, rfl⟩
          rw [← hW6'] at X6 ⊢
          clear hW6' X5 X4 HI X f5 c5' e5 hHeld
          go_wp2
          go_roundw
          case rel => exact ⟨k, _, _, _, by simp only [List.length_append, List.length_cons, List.length_nil]; omega, by go_num, X6.out, HI2.out⟩
          case measure => simp [intOf] <;> omega
  case rest =>
    obtain ⟨acc, s, vi0, HI1, Xa⟩ := hcut
    obtain ⟨lt1, hlt1⟩ : ∃ lt1 : Bool, lt1 = (lt0 || (rI xs).1.any (fun p => late p.2)) := ⟨_, rfl⟩
    have Xb : Hid (Rx w wc Wb.heap.size g b h w.heap.size (rI xs).2 lt1 ⟨out, cmd, c1 t, c1 m, (rI xs).1.map fun p => (p.1, c1 p.2), []⟩ vi0 (.slice none 0 0)) := by
      show Rx _ _ _ _ _ _ _ _ _ _ _ _
      rw [hlt1, HI1.out]
      exact Xa.out
    have HLT1 := Lib.hid hlt1
    clear Xa hlt1 HI1 acc s
    go_wp2_with fail
    refine (r32_g _ _ (rI xs).2 _ Xb.out.rd Xb.out.by_).mono ?_
    rintro e W12 ⟨rfl, hr, ho⟩
    have X12 := Lib.hid (Xb.out.op hr ho (numS_bytes Xb.out.by_))
    have hn4 := num4_range Xb.out.by_
    obtain ⟨n, hn⟩ := Int.eq_ofNat_of_zero_le hn4.1
    rw [hn] at hn4 ⊢
    have HN2 : Hid ((num 4 (rI xs).2).toNat = n) := by show _ = _; rw [hn]; rfl
    have hn3 : n < 4294967296 := by omega
    clear hr ho Xb hn hn4
    go_upto_block 2 with fail
    go_cut [9] from 47 (fun s9 wx => ∃ (acc : List Int) (s : RS) (u : Value), Hid (rF xs = (acc, s)) ∧ Hid (Rx w wx Wb.heap.size g b h w.heap.size s (lt1 || acc.any late) ⟨out, cmd, c1 t, c1 m, (rI xs).1.map fun p => (p.1, c1 p.2), acc.map c1⟩ vi0 u))
    case first =>
      go_wp2_with fail
      --S4
      go_loopw [9] (fun sN wr => ∃ (k : Nat) (s : RS) (acc : List Int) (u : Value), k + acc.length ≤ 4294967296 ∧ sN = .int .u32 k ∧ Hid (Rx w wr Wb.heap.size g b h w.heap.size s (lt1 || acc.any late) ⟨out, cmd, c1 t, c1 m, (rI xs).1.map fun p => (p.1, c1 p.2), acc.map c1⟩ vi0 u) ∧ Hid (fndL n (numS 4 (rI xs).2) = (acc ++ (fndL k s).1, (fndL k s).2))) (fun sN _ => (intOf sN).toNat)
      case atStart => exact ⟨n, numS 4 (rI xs).2, [], (.slice none 0 0), by simp only [List.length_nil]; omega, rfl, by show Rx _ _ _ _ _ _ _ _ _ _ _ _; rw [List.any_nil, Bool.or_false]; exact X12.out, by show _ = _; simp⟩
      case round =>
        obtain ⟨k, s, acc, u, hka, rfl, X, HI⟩ := hrel
        clear X12
        rcases Nat.eq_zero_or_pos k with hk0 | hk0
        · subst hk0
          have HE : Hid (fndL n (numS 4 (rI xs).2) = (acc, s)) := by
            show _ = _
            rw [HI.out, fndL_stop 0 s (.inl rfl), List.append_nil]
          clear HI
          go_wp2
          have HIx : Hid (rF xs = (acc, s)) := by
            show fndL _ _ = _
            rw [HN2.out]
            exact HE.out
          go_meet
          case rel => exact ⟨acc, s, u, HIx, X⟩
        · cases hs2 : s.2 with
          | true =>
            have HE : Hid (fndL n (numS 4 (rI xs).2) = (acc, s)) := by
              show _ = _
              rw [HI.out, fndL_stop k s (.inr hs2), List.append_nil]
            have HS2 := Lib.hid hs2
            clear HI hs2
            go_wp2_with fail
            refine (right_any _ _ s.1 s.2 _ X.out.rd).mono ?_
            rintro e w' ⟨rfl, rfl⟩
            rw [HS2.out]
            clear HS2
            go_wp2
            have HIx : Hid (rF xs = (acc, s)) := by
              show fndL _ _ = _
              rw [HN2.out]
              exact HE.out
            go_meet
            case rel => exact ⟨acc, s, u, HIx, X⟩
          | false =>
            obtain ⟨k, rfl⟩ : ∃ j, k = j + 1 := ⟨k - 1, by omega⟩
            have HS2 := Lib.hid hs2
            clear hs2
            go_wp2_with fail
            refine (right_any _ _ s.1 s.2 _ X.out.rd).mono ?_
            rintro e w' ⟨rfl, rfl⟩
            rw [HS2.out]
            obtain ⟨A6, c6, e6, _, _⟩ := X.out.rn.fnd.fs.len
            obtain ⟨n6, hn6⟩ : ∃ n6, n6 = (acc.map c1).length := ⟨_, rfl⟩
            rw [← hn6] at e6
            subst e6
            clear hn6
            go_wp2
            refine start_ (n := 8) (S := fun w' => w'.cell? ⟨h, 5, none⟩ = some (.slice A6 n6 c6)) (ds := [7]) #[false, false, false, false, false, false, false, false] (by kernel_rfl) rfl rfl (blk_cell X.out.rn.run 5) (fun hHeld => ?_)
            refine pure_ (i := 0) (N := some 55) (v := ?_) (a' := ?_) #[true, false, false, false, false, false, false, false] rfl rfl (by kernel_rfl) (fun _ _ _ h => h) (Or.inl ⟨by rfl, ?_⟩) ?_ ?_
            rotate_left
            · intro w'
              go_simp
              with_reducible rfl
            rotate_left
            · simp only [Act.put, List.setIfInBounds_toArray, List.set_cons_zero, List.set_cons_succ, i64_w, i32_w]
              rfl
            refine pure_ (i := 2) (N := some 57) (v := ?_) (a' := ?_) #[true, false, true, false, false, false, false, false] rfl rfl (by kernel_rfl) (fun _ _ _ h => h) (Or.inl ⟨by rfl, ?_⟩) ?_ ?_
            rotate_left
            · intro w'
              go_simp
              with_reducible rfl
            rotate_left
            · simp only [Act.put, List.setIfInBounds_toArray, List.set_cons_zero, List.set_cons_succ, i64_w, i32_w]
              rfl
            refine take_ (i := 1) (N := some 56) (v := ?_) (a' := ?_) #[true, true, true, false, false, false, false, false] rfl rfl (by kernel_rfl) (fun _ _ _ h => h) (Or.inl ⟨by rfl, ?_⟩) hHeld ?_ ?_
            rotate_left
            · intro w' s0
              go_simp
              with_reducible rfl
            rotate_left
            · simp only [Act.put, List.setIfInBounds_toArray, List.set_cons_zero, List.set_cons_succ, i64_w, i32_w]
              rfl
            refine one_ (i := 3) (N := some 58) #[true, true, true, true, false, false, false, false] rfl rfl (by kernel_rfl) (by decide) (fun K hK => ?_)
            refine goes_ Try.func51 (by kernel_rfl) rfl #[.pointer (some ⟨g, 0, none⟩), .pointer (some ⟨b, 0, none⟩)] (by rfl) rfl rfl (by first | (simp only [List.map_toArray, List.map_cons, List.map_nil]; done) | (simp only [List.map_toArray, List.map_cons, List.map_nil]; rfl) | rfl) ?_
            with_reducible refine (time_x w _ _ _ _ _ _ _ _ _ _ _ X.out.drew).mono ?_
            rintro e w4 ⟨rfl, x4⟩
            refine ⟨_, rfl, ?_⟩
            have X4 := Lib.hid x4
            clear x4
            refine hK.out _ _ (blk_cell X4.out.rn.run 5) (fun hHeld => ?_)
            clear hK K
            refine norm_ (a' := ?_) ?_ ?_
            rotate_left
            · show Act.put _ (some 58) _ = _
              simp only [Act.put, List.setIfInBounds_toArray, List.set_cons_zero, List.set_cons_succ, i64_w, i32_w]
              rfl
            refine one_ (i := 4) (N := some 59) #[true, true, true, true, true, false, false, false] rfl rfl (by kernel_rfl) (by decide) (fun K hK => ?_)
            refine value_ (w1 := ?_) (v := ?_) (by rfl) rfl ?_ ?_
            rotate_left 2
            · go_simp
              constructor
              · rfl
              · rfl
            refine hK.out _ _ (pw_cell_below (below_alloc (Below.refl _ _) _) (blk_cell X4.out.rn.run 5)) (fun hHeld => ?_)
            clear hK K
            refine norm_ (a' := ?_) ?_ ?_
            rotate_left
            · show Act.put _ (some 59) _ = _
              simp only [Act.put, List.setIfInBounds_toArray, List.set_cons_zero, List.set_cons_succ, i64_w, i32_w]
              rfl
            refine one_ (i := 5) (N := some 60) #[true, true, true, true, true, true, false, false] rfl rfl (by kernel_rfl) (by decide) (fun K hK => ?_)
            refine app_num_step (w0 := w) (W := w4) rfl (.tmp 56) (.tmp 59) 23 rfl Try.underlying23 (.slice A6 n6 c6) _ (c1 (num 8 s)) rfl rfl X4.out.rn.fnd (by simp only [List.length_map]; omega) ?_
            intro v1 w5 o1 g1
            obtain ⟨e5, x5⟩ := X4.out.appF o1 g1
            obtain ⟨A5, n5, c5, e6, hn5⟩ := o1.slice
            subst e6
            clear hn5
            have X5 := Lib.hid x5
            have f5 := blk_frozen e5 5
            have c5' := blk_cell e5 5
            clear g1 o1 x5
            refine hK.out _ _ (c5') (fun hHeld => ?_)
            clear hK K
            refine norm_ (a' := ?_) ?_ ?_
            rotate_left
            · show Act.put _ (some 60) _ = _
              simp only [Act.put, List.setIfInBounds_toArray, List.set_cons_zero, List.set_cons_succ, i64_w, i32_w]
              rfl
            refine pure_ (i := 6) (N := some 61) (v := ?_) (a' := ?_) #[true, true, true, true, true, true, true, false] rfl rfl (by kernel_rfl) (fun _ _ _ h => h) (Or.inl ⟨by rfl, ?_⟩) ?_ ?_
            rotate_left
            · intro w'
              go_simp
              with_reducible rfl
            rotate_left
            · simp only [Act.put, List.setIfInBounds_toArray, List.set_cons_zero, List.set_cons_succ, i64_w, i32_w]
              rfl
            refine last_ (i := 7) (N := none) #[true, true, true, true, true, true, true, true] rfl rfl (by kernel_rfl) (by decide) (fun K hK => ?_)
            refine skip_ (w1 := ?_) (by rfl) rfl ?_ ?_
            rotate_left
            · go_simp
              rfl
            refine hK.out _ _ ?_
            clear hK K
            refine done_ (by kernel_rfl) ?_
            --S5
            have X6 : Hid (Rx w (w5.setCell ⟨h, 5, none⟩ (.slice A5 n5 c5)) Wb.heap.size g b h w.heap.size (numS 8 s) (lt1 || (acc ++ [num 8 s]).any late) ⟨out, cmd, c1 t, c1 m, (rI xs).1.map fun p => (p.1, c1 p.2), (acc ++ [num 8 s]).map c1⟩ vi0 (.slice A5 n5 c5)) := by
              have hx := X5.out
              simp only [List.map_append, List.map_cons, List.map_nil, List.any_append, List.any_cons, List.any_nil, Bool.or_false, ← Bool.or_assoc] at hx ⊢
              exact hx
            have HI2 : Hid (fndL n (numS 4 (rI xs).2) = ((acc ++ [num 8 s]) ++ (fndL k (numS 8 s)).1, (fndL k (numS 8 s)).2)) := by
              show _ = _
              rw [HI.out, fndL_go k s HS2.out, List.append_assoc]
              rfl
            obtain ⟨W6', hW6'⟩ : ∃ W6', W6' = w5.setCell ⟨h, 5, none⟩ (.slice A5 n5 c5) := ⟨_, rfl⟩
            rw [← hW6'] at X6 ⊢
            clear hW6' X5 X4 HI X f5 c5' e5 hHeld
            go_wp2
            go_roundw
            case rel => exact ⟨k, _, _, _, by simp only [List.length_append, List.length_cons, List.length_nil]; omega, by go_num, X6.out, HI2.out⟩
            case measure => simp [intOf] <;> omega
    case rest =>
      obtain ⟨acc, s, vf0, HF1, Xa⟩ := hcut
      have HRW : Hid (⟨out, cmd, c1 t, c1 m, (rI xs).1.map fun p => (p.1, c1 p.2), acc.map c1⟩ = clip c1 (raw xs).run) := by
        show _ = _
        unfold clip raw
        simp only
        rw [← HOUT.out, ← HCMD.out, ← HT.out, ← HM.out, HF1.out]
      have HLL : Hid ((lt1 || acc.any late) = lateR (raw xs).run) := by
        show _ = _
        unfold lateR raw
        simp only
        rw [← HT.out, ← HM.out, HF1.out, HLT1.out, HLT.out, Bool.false_or]
      have HST : Hid ((raw xs).st = s) := by show (rF xs).2 = _; rw [HF1.out]
      have HRC : Hid ((raw xs).run.cmd = cmd) := HCMD.out.symm
      have HRH : Hid ((raw xs).hash = hs) := HHS.out.symm
      have X := Xa
      clear Xa
      obtain ⟨lf, hlf⟩ : ∃ lf : Bool, lf = (lt1 || acc.any late) := ⟨_, rfl⟩
      rw [← hlf] at X HLL
      clear hlf
      have c5 := blk_cell X.out.bd 0
      --S6
      cases lf with
      | true =>
        have HNO : Hid (okB (raw xs) = false) := by show _ = _; unfold okB; rw [← HLL.out]; rfl
        go_wp2_with (with_reducible refine gate_ (.store 33 (.tmp 2) (.tmp 81)) rfl ?_; refine Held.of ?_)
        refine Held.out (wpList_plain rfl fun K hK => wp_store_row 33 (.tmp 2) (.tmp 81) rfl w.heap.size zrun rfl rfl 33 _ X.out.rn.res (by kernel_rfl) rfl (by simp [zrun, Value.oneCell']) (hK _ _ ?_))
        have HY := Lib.hid (setRow_heap wc w.heap.size _ zrun _ _ X.out.rn.res)
        go_wp2
        (try simp only [Exit.inBlock, Exit.then])
        refine bodyPost_ret (results_cell_row_tmp rfl _ _ w.heap.size 33 _ (0, 0) _ rfl HY.out Try.underlying33 rfl (by kernel_rfl)) rfl ?_
        have hno : okB (raw xs) = false := HNO.out
        have he : readErr xs = 4 := by unfold readErr; rw [hno]; rfl
        rw [he]
        refine ⟨_, rfl, ?_, set_below X.out.rn.fnd.below (Nat.le_refl _) _⟩
        unfold readRun
        rw [if_neg (by rw [hno]; decide)]
        exact ⟨.slice none 0 0, .slice none 0 0, rfl, ⟨none, 0, rfl, Nat.le_refl _, by simp [zrunV], fun h => absurd h (Nat.lt_irrefl 0)⟩, ⟨none, 0, rfl, Nat.le_refl _, rfl, by simp [zrunV], fun h => absurd h (Nat.lt_irrefl 0)⟩⟩
      | false =>
        go_wp2_with fail
        refine (right_any _ _ s.1 s.2 _ X.out.rd).mono ?_
        rintro e w' ⟨rfl, rfl⟩
        cases hs2 : s.2 with
        | true =>
          have HNO : Hid (okB (raw xs) = false) := by show _ = _; unfold okB; rw [HST.out, hs2]; simp
          clear hs2
          go_wp2_with (with_reducible refine gate_ (.store 33 (.tmp 2) (.tmp 81)) rfl ?_; refine Held.of ?_)
          refine Held.out (wpList_plain rfl fun K hK => wp_store_row 33 (.tmp 2) (.tmp 81) rfl w.heap.size zrun rfl rfl 33 _ X.out.rn.res (by kernel_rfl) rfl (by simp [zrun, Value.oneCell']) (hK _ _ ?_))
          have HY := Lib.hid (setRow_heap wc w.heap.size _ zrun _ _ X.out.rn.res)
          go_wp2
          (try simp only [Exit.inBlock, Exit.then])
          refine bodyPost_ret (results_cell_row_tmp rfl _ _ w.heap.size 33 _ (0, 0) _ rfl HY.out Try.underlying33 rfl (by kernel_rfl)) rfl ?_
          have hno : okB (raw xs) = false := HNO.out
          have he : readErr xs = 4 := by unfold readErr; rw [hno]; rfl
          rw [he]
          refine ⟨_, rfl, ?_, set_below X.out.rn.fnd.below (Nat.le_refl _) _⟩
          unfold readRun
          rw [if_neg (by rw [hno]; decide)]
          exact ⟨.slice none 0 0, .slice none 0 0, rfl, ⟨none, 0, rfl, Nat.le_refl _, by simp [zrunV], fun h => absurd h (Nat.lt_irrefl 0)⟩, ⟨none, 0, rfl, Nat.le_refl _, rfl, by simp [zrunV], fun h => absurd h (Nat.lt_irrefl 0)⟩⟩
        | false =>
          have HS2 := Lib.hid hs2
          clear hs2
          go_wp2_with fail
          refine (left_any _ _ s.1 s.2 _ X.out.rd).mono ?_
          rintro e w' ⟨rfl, rfl⟩
          obtain ⟨ll, hll⟩ : ∃ ll, ll = s.1.length := ⟨_, rfl⟩
          rw [← hll]
          have HLN := Lib.hid hll
          clear hll
          by_cases g1 : 0 < ll
          · have HNO : Hid (okB (raw xs) = false) := by
              show _ = _
              unfold okB
              rw [HST.out, show decide (s.1.length = 0) = false from decide_eq_false (by rw [← HLN.out]; omega)]
              simp
            go_wp2_with (with_reducible refine gate_ (.store 33 (.tmp 2) (.tmp 81)) rfl ?_; refine Held.of ?_)
            refine Held.out (wpList_plain rfl fun K hK => wp_store_row 33 (.tmp 2) (.tmp 81) rfl w.heap.size zrun rfl rfl 33 _ X.out.rn.res (by kernel_rfl) rfl (by simp [zrun, Value.oneCell']) (hK _ _ ?_))
            have HY := Lib.hid (setRow_heap wc w.heap.size _ zrun _ _ X.out.rn.res)
            go_wp2
            (try simp only [Exit.inBlock, Exit.then])
            refine bodyPost_ret (results_cell_row_tmp rfl _ _ w.heap.size 33 _ (0, 0) _ rfl HY.out Try.underlying33 rfl (by kernel_rfl)) rfl ?_
            have hno : okB (raw xs) = false := HNO.out
            have he : readErr xs = 4 := by unfold readErr; rw [hno]; rfl
            rw [he]
            refine ⟨_, rfl, ?_, set_below X.out.rn.fnd.below (Nat.le_refl _) _⟩
            unfold readRun
            rw [if_neg (by rw [hno]; decide)]
            exact ⟨.slice none 0 0, .slice none 0 0, rfl, ⟨none, 0, rfl, Nat.le_refl _, by simp [zrunV], fun h => absurd h (Nat.lt_irrefl 0)⟩, ⟨none, 0, rfl, Nat.le_refl _, rfl, by simp [zrunV], fun h => absurd h (Nat.lt_irrefl 0)⟩⟩
          · have f1 : wc.cell? ⟨h, 1, none⟩ = some (.string cmd) := blk_cell X.out.rn.run 1
            obtain ⟨As, cs, ws, ks, hbs, hbws⟩ := bytes_conv wc cmd (by omega)
            have HBS := Lib.hid hbs
            have X2 := Lib.hid (X.out.below hbws)
            clear hbs hbws
            go_wp2_with fail
            refine (Crc.hash_any _ _ _ HBS.out).mono ?_
            rintro e w' ⟨rfl, rfl⟩
            have X := X2
            by_cases g2 : hs = Crc.hashOf (bytesOf cmd)
            · have HOK : Hid (okB (raw xs) = true) := by
                show _ = _
                unfold okB
                rw [HST.out, HRC.out, HRH.out, ← HLL.out, HS2.out, show decide (s.1.length = 0) = true from decide_eq_true (by rw [← HLN.out]; omega), show decide (hs = Crc.hashOf (bytesOf cmd)) = true from decide_eq_true g2]
                rfl
              have g3 : (hs != Crc.hashOf (bytesOf cmd)) = false := by rw [g2]; simp
              have HLF : Hid (lateR (raw xs).run = false) := HLL.out.symm
              clear g2
              --S7
              go_wp2_with (with_reducible refine gate_ (.load 33 (.tmp 7)) rfl ?_; refine Held.of ?_)
              refine Held.out (wpList_load_row rfl 33 (.tmp 7) rfl h rfl 33 _ (0, 0) _ X.out.rn.run Try.underlying33 rfl (by kernel_rfl) ?_)
              go_wp2_with (with_reducible refine gate_ (.store 33 (.tmp 2) (.tmp 82)) rfl ?_; refine Held.of ?_)
              refine Held.out (wpList_plain rfl fun K hK => wp_store_row 33 (.tmp 2) (.tmp 82) rfl w.heap.size _ rfl rfl 33 _ X.out.rn.res (by kernel_rfl) rfl ?_ (hK _ _ ?_))
              · obtain ⟨Ai, ci, ei, _, _⟩ := (ri_is X.out.rn.ins).len
                obtain ⟨Af, nf, cf, ef, _⟩ := X.out.rn.fnd.slice
                rw [ei, ef]
                simp [rcells, Value.oneCell']
              have HY := Lib.hid (setRow_heap ws w.heap.size _ (rcells ⟨out, cmd, c1 t, c1 m, (rI xs).1.map fun p => (p.1, c1 p.2), acc.map c1⟩ vi0 vf0) _ _ X.out.rn.res)
              go_wp2
              (try simp only [Exit.inBlock, Exit.then])
              refine bodyPost_ret (results_cell_row_tmp rfl _ _ w.heap.size 33 _ (0, 0) _ rfl HY.out Try.underlying33 rfl (by kernel_rfl)) rfl ?_
              have he : readErr xs = 0 := by unfold readErr; rw [HOK.out]; rfl
              rw [he]
              refine ⟨_, rfl, ?_, set_below X.out.rn.fnd.below (Nat.le_refl _) _⟩
              unfold readRun
              rw [if_pos HOK.out, ← clip1_id xs HLF.out, ← HRW.out]
              have hon := (Only.refl w.heap.size ws).setRow (rcells ⟨out, cmd, c1 t, c1 m, (rI xs).1.map fun p => (p.1, c1 p.2), acc.map c1⟩ vi0 vf0)
              exact ⟨vi0, vf0, rfl, ri_is (Kd.R_mono (Kd.R_step (Kd.R_types X.out.rn.ins X.out.rn.res (by decide)) fun k' hk' hlt => hon.block k' hlt hk'.2) fun _ _ => trivial), (oi_only X.out.rn.fnd hon X.out.rn.res (by decide) (Nat.le_refl _)).fs⟩
            · have HNO : Hid (okB (raw xs) = false) := by
                show _ = _
                unfold okB
                rw [HST.out, HRC.out, HRH.out, show decide (hs = Crc.hashOf (bytesOf cmd)) = false from decide_eq_false g2]
                simp
              have g3 : (hs != Crc.hashOf (bytesOf cmd)) = true := by simp [g2]
              go_wp2_with (with_reducible refine gate_ (.store 33 (.tmp 2) (.tmp 81)) rfl ?_; refine Held.of ?_)
              refine Held.out (wpList_plain rfl fun K hK => wp_store_row 33 (.tmp 2) (.tmp 81) rfl w.heap.size zrun rfl rfl 33 _ X.out.rn.res (by kernel_rfl) rfl (by simp [zrun, Value.oneCell']) (hK _ _ ?_))
              have HY := Lib.hid (setRow_heap ws w.heap.size _ zrun _ _ X.out.rn.res)
              go_wp2
              (try simp only [Exit.inBlock, Exit.then])
              refine bodyPost_ret (results_cell_row_tmp rfl _ _ w.heap.size 33 _ (0, 0) _ rfl HY.out Try.underlying33 rfl (by kernel_rfl)) rfl ?_
              have hno : okB (raw xs) = false := HNO.out
              have he : readErr xs = 4 := by unfold readErr; rw [hno]; rfl
              rw [he]
              refine ⟨_, rfl, ?_, set_below X.out.rn.fnd.below (Nat.le_refl _) _⟩
              unfold readRun
              rw [if_neg (by rw [hno]; decide)]
              exact ⟨.slice none 0 0, .slice none 0 0, rfl, ⟨none, 0, rfl, Nat.le_refl _, by simp [zrunV], fun h => absurd h (Nat.lt_irrefl 0)⟩, ⟨none, 0, rfl, Nat.le_refl _, rfl, by simp [zrunV], fun h => absurd h (Nat.lt_irrefl 0)⟩⟩
--END WALK
end Go.Proofs.Ytehndlafbbpofaa.Run
