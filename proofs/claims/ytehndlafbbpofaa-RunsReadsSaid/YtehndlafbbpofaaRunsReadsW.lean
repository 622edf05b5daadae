/- RunsReads: any bytes are read as the document reads them (a walk). -/
import Derived.Test.YtehndlafbbpofaaRunReadRef
import Derived.Test.YtehndlafbbpofaaRunSame
import Derived.Test.YtehndlafbbpofaaRunAwake
namespace Go.Proofs.Ytehndlafbbpofaa.Run
open Go.RowKit Go.Proofs.YtehndlafbbpofaaW.PrintWords Go.Proofs.YtehndlafbbpofaaW.PrintLast Go.Proofs.Ytehndlafbbpofaa.Base Go.Proofs.Ytehndlafbbpofaa.Pack
set_option linter.unusedVariables false
set_option linter.unusedSimpArgs false

theorem insL_len : ∀ (n : Nat) (s : RS), (insL n s).1.length ≤ s.1.length + 1 ∧ (insL n s).2.1.length ≤ s.1.length := by
  intro n
  induction n with
  | zero => intro s; exact ⟨by simp [insL], Nat.le_refl _⟩
  | succ n ih =>
    intro s
    cases hs : s.2 with
    | true => rw [insL_stop _ _ (.inr hs)]; exact ⟨by simp, Nat.le_refl _⟩
    | false =>
      rw [insL_go n s hs]
      have h1 := ih (numS 8 (txtS s))
      have h2 : (txtS s).1.length ≤ s.1.length := by unfold txtS; split <;> simp
      by_cases hb : (numS 8 (txtS s)).2 = true
      · rw [insL_stop n _ (.inr hb)]
        have : (numS 8 (txtS s)).1 = [] := by
          unfold numS at hb ⊢
          split
          · rfl
          · rename_i hn; rw [if_neg hn] at hb; cases hb
        rw [this]
        exact ⟨by simp, by simp⟩
      · have h3 := (numS_len (m := 8) (s := txtS s) (by simpa using hb)).1
        simp only [List.length_cons]
        omega
theorem fndL_len : ∀ (n : Nat) (s : RS), (fndL n s).1.length ≤ s.1.length + 1 := by
  intro n
  induction n with
  | zero => intro s; simp [fndL]
  | succ n ih =>
    intro s
    cases hs : s.2 with
    | true => rw [fndL_stop _ _ (.inr hs)]; simp
    | false =>
      rw [fndL_go n s hs]
      have h1 := ih (numS 8 s)
      by_cases hb : (numS 8 s).2 = true
      · rw [fndL_stop n _ (.inr hb)]; simp
      · have h3 := (numS_len (m := 8) (s := s) (by simpa using hb)).1
        simp only [List.length_cons]
        omega
theorem numS_le (m : Nat) (s : RS) : (numS m s).1.length ≤ s.1.length := by unfold numS; split <;> simp
theorem txtS_le (s : RS) : (txtS s).1.length ≤ s.1.length := by unfold txtS; split <;> simp
theorem rs5_le (xs : List Int) : (rs5 xs).1.length ≤ xs.length := by
  have h1 := numS_le 8 (xs, false)
  have h2 := txtS_le (rs1 xs)
  have h3 := txtS_le (rs2 xs)
  have h4 := numS_le 8 (rs3 xs)
  have h5 := numS_le 8 (rs4 xs)
  simp only at h1
  unfold rs5 rs4 rs3 rs2 rs1 at *
  omega
theorem readRun_small (xs : List Int) (h : xs.length ≤ 9000) : (readRun xs).ins.length ≤ 10000 ∧ (readRun xs).found.length ≤ 10000 := by
  unfold readRun
  split
  · have h5 := rs5_le xs
    have h6 := numS_le 4 (rs5 xs)
    have h7 := insL_len (num 4 (rs5 xs)).toNat (numS 4 (rs5 xs))
    have h8 := numS_le 4 (rI xs).2
    have h9 := fndL_len (num 4 (rI xs).2).toNat (numS 4 (rI xs).2)
    have e1 : (rI xs).2.1.length ≤ (numS 4 (rs5 xs)).1.length := h7.2
    have e2 : (rI xs).1.length ≤ (numS 4 (rs5 xs)).1.length + 1 := h7.1
    have e3 : (rF xs).1.length ≤ (numS 4 (rI xs).2).1.length + 1 := h9
    show (rI xs).1.length ≤ 10000 ∧ (rF xs).1.length ≤ 10000
    omega
  · exact ⟨by simp [zrunV], by simp [zrunV]⟩

--BEGIN WALK
set_option maxRecDepth 100000 in
set_option maxHeartbeats 4000000 in
theorem RunsReads_any (v : Value) (xs : List Int) (w : World) (hv : Bs w v xs) (hb : Bytes xs) :
    Calls Try.prog 4 #[v] w fun e w' => e = .returned (.bool true) ∧ Below w.heap.size w w' := by
  obtain ⟨A, c, rfl, hcc, hmm⟩ := hv.len
  have HV := Lib.hid hv
  have HBY := Lib.hid hb
  clear hv hb
  by_cases g1 : xs.length ≤ 5000
  · have HE := Lib.hid (Ow.lit (Below.refl w.heap.size w) [] (by simp))
    go_enter Try.func4, Try.ntmps4
    go_wp2_with (at_builtin; refine Held.of ?_)
    refine app_bytes rfl (.tmp 11) (.tmp 12) 27 rfl Try.underlying27 _ _ [] xs rfl rfl HE.out (HV.out.alloc _) (by simp only [List.length_nil]; omega) ?_
    clear HE
    intro va w1 o1 _
    rw [List.nil_append] at o1
    have HB1 := Lib.hid o1.below
    have HS1 := Lib.hid o1.bs
    obtain ⟨A1, n1, k1, rfl, hn1⟩ := o1.slice
    clear o1 hn1
    go_wp2_with fail
    refine (read_any _ xs _ HS1.out HBY.out (by omega)).mono ?_
    rintro e w2 ⟨v2, rfl, hr2, hb2⟩
    have HB2 := Lib.hid (HB1.out.trans (hb2.mono HB1.out.size))
    have R2 := Lib.hid hr2
    obtain ⟨r, hr⟩ : ∃ r, r = readRun xs := ⟨_, rfl⟩
    rw [← hr] at R2
    have HR := Lib.hid hr
    obtain ⟨vi1, vf1, rfl, hI1, hF1⟩ := R2.out
    have HI1 := Lib.hid (And.intro hI1 hF1)
    obtain ⟨A5, c5, rfl, _, _⟩ := hI1.len
    obtain ⟨A6, c6, rfl, _, _⟩ := hF1.len
    obtain ⟨ri, hri⟩ : ∃ ri, ri = r.ins.length := ⟨_, rfl⟩
    obtain ⟨rf, hrf⟩ : ∃ rf, rf = r.found.length := ⟨_, rfl⟩
    rw [← hri, ← hrf] at HI1 R2 ⊢
    have HL := Lib.hid (And.intro hri hrf)
    clear hr2 hb2 hr hI1 hF1 HS1 hri hrf
    obtain ⟨W3, hW3⟩ : ∃ W3, W3 = w2.alloc (.cells #[.string r.out, .string r.cmd, .int .i64 r.time, .int .i64 r.mark, .slice A5 ri c5, .slice A6 rf c6] 33) := ⟨_, rfl⟩
    have hb3 : Below w2.heap.size w2 W3 := by rw [hW3]; exact below_alloc (Below.refl _ _) _
    obtain ⟨g, hg⟩ : ∃ g, w2.heap.size = g := ⟨_, rfl⟩
    have X3 : Hid (W3.heap[g]? = some (.cells #[.string r.out, .string r.cmd, .int .i64 r.time, .int .i64 r.mark, .slice A5 ri c5, .slice A6 rf c6] 33 (0, 0))) := by show _ = _; rw [hW3, ← hg]; exact blk_new w2 _
    have HB3 := Lib.hid (HB2.out.trans (hb3.mono HB2.out.size))
    have R3 := Lib.hid (R2.out.below hb3)
    have HW3 := Lib.hid hW3
    clear hb3 hW3
    go_wp2_with fail
    rw [← HW3.out]
    try rw [hg]
    clear hg
    refine (refread_any _ xs _ (HV.out.below HB3.out) HBY.out (by omega)).mono ?_
    rintro e w4 ⟨v4, rfl, hr4, hb4⟩
    have HB4 := Lib.hid (HB3.out.trans (hb4.mono HB3.out.size))
    rw [← HR.out] at hr4
    have R4 := Lib.hid hr4
    have X4 := Lib.hid ((hb4.block g (blk_lt X3.out)).trans X3.out)
    have R34 := Lib.hid (R3.out.below hb4)
    obtain ⟨vi2, vf2, rfl, hI2, hF2⟩ := R4.out
    obtain ⟨A7, c7, rfl, _, _⟩ := hI2.len
    obtain ⟨A8, c8, rfl, _, _⟩ := hF2.len
    rw [← HL.out.1, ← HL.out.2] at R4 ⊢
    clear hr4 hb4 hI2 hF2 R3 X3
    obtain ⟨wz, hwz⟩ : ∃ wz, wz = w4.alloc (.cells #[.string r.out, .string r.cmd, .int .i64 r.time, .int .i64 r.mark, .slice A7 ri c7, .slice A8 rf c8] 25) := ⟨_, rfl⟩
    have hb5 : Below w4.heap.size w4 wz := by rw [hwz]; exact below_alloc (Below.refl _ _) _
    obtain ⟨h, hh⟩ : ∃ h, w4.heap.size = h := ⟨_, rfl⟩
    have X5 : Hid (wz.heap[h]? = some (.cells #[.string r.out, .string r.cmd, .int .i64 r.time, .int .i64 r.mark, .slice A7 ri c7, .slice A8 rf c8] 25 (0, 0))) := by show _ = _; rw [hwz, ← hh]; exact blk_new w4 _
    have X6 := Lib.hid ((hb5.block g (blk_lt X4.out)).trans X4.out)
    have HBZ := Lib.hid (HB4.out.trans (hb5.mono HB4.out.size))
    have R5 := Lib.hid (R4.out.below hb5)
    have R6 := Lib.hid (R34.out.below hb5)
    have HWZ := Lib.hid hwz
    clear hb5 hwz X4 R4 R34
    go_wp2
    rw [← HWZ.out]
    try rw [hh]
    clear hh
    have Q0 : Hid (wz.cell? ⟨g, 0, none⟩ = some (.string r.out)) := blk_cell X6.out 0
    have Q1 : Hid (wz.cell? ⟨g, 1, none⟩ = some (.string r.cmd)) := blk_cell X6.out 1
    have Q2 : Hid (wz.cell? ⟨g, 2, none⟩ = some (.int .i64 r.time)) := blk_cell X6.out 2
    have Q3 : Hid (wz.cell? ⟨g, 3, none⟩ = some (.int .i64 r.mark)) := blk_cell X6.out 3
    have Q4 : Hid (wz.cell? ⟨g, 4, none⟩ = some (.slice A5 ri c5)) := blk_cell X6.out 4
    have Q5 : Hid (wz.cell? ⟨g, 5, none⟩ = some (.slice A6 rf c6)) := blk_cell X6.out 5
    have Q6 : Hid (wz.cell? ⟨h, 0, none⟩ = some (.string r.out)) := blk_cell X5.out 0
    have Q7 : Hid (wz.cell? ⟨h, 1, none⟩ = some (.string r.cmd)) := blk_cell X5.out 1
    have Q8 : Hid (wz.cell? ⟨h, 2, none⟩ = some (.int .i64 r.time)) := blk_cell X5.out 2
    have Q9 : Hid (wz.cell? ⟨h, 3, none⟩ = some (.int .i64 r.mark)) := blk_cell X5.out 3
    have Q10 : Hid (wz.cell? ⟨h, 4, none⟩ = some (.slice A7 ri c7)) := blk_cell X5.out 4
    have Q11 : Hid (wz.cell? ⟨h, 5, none⟩ = some (.slice A8 rf c8)) := blk_cell X5.out 5
    have hsm : r.ins.length ≤ 10000 ∧ r.found.length ≤ 10000 := by rw [HR.out]; exact readRun_small xs (by omega)
    cases hok : okB (raw xs) with
    | true =>
      have he : readErr xs = 0 := by unfold readErr; rw [hok]; rfl
      rw [he]
      clear he hok
      refine start_ (n := 21) (S := fun w' => Below wz.heap.size wz w' ∧ w'.cell? ⟨g, 0, none⟩ = some (.string r.out) ∧ w'.cell? ⟨g, 1, none⟩ = some (.string r.cmd) ∧ w'.cell? ⟨g, 2, none⟩ = some (.int .i64 r.time) ∧ w'.cell? ⟨g, 3, none⟩ = some (.int .i64 r.mark) ∧ w'.cell? ⟨g, 4, none⟩ = some (.slice A5 ri c5) ∧ w'.cell? ⟨g, 5, none⟩ = some (.slice A6 rf c6) ∧ w'.cell? ⟨h, 0, none⟩ = some (.string r.out) ∧ w'.cell? ⟨h, 1, none⟩ = some (.string r.cmd) ∧ w'.cell? ⟨h, 2, none⟩ = some (.int .i64 r.time) ∧ w'.cell? ⟨h, 3, none⟩ = some (.int .i64 r.mark) ∧ w'.cell? ⟨h, 4, none⟩ = some (.slice A7 ri c7) ∧ w'.cell? ⟨h, 5, none⟩ = some (.slice A8 rf c8)) (ds := []) #[false, false, false, false, false, false, false, false, false, false, false, false, false, false, false, false, false, false, false, false, false] (by kernel_rfl) rfl rfl ⟨Below.drew (Below.refl _ _), Q0.out, Q1.out, Q2.out, Q3.out, Q4.out, Q5.out, Q6.out, Q7.out, Q8.out, Q9.out, Q10.out, Q11.out⟩ (fun hHeld => ?_)
      refine take_ (i := 0) (N := some 22) (v := ?_) (a' := ?_) #[true, false, false, false, false, false, false, false, false, false, false, false, false, false, false, false, false, false, false, false, false] rfl rfl (by kernel_rfl) (fun _ _ _ h => h) (Or.inl ⟨by rfl, ?_⟩) hHeld ?_ ?_
      rotate_left
      · rintro w' ⟨s0, s1, s2, s3, s4, s5, s6, s7, s8, s9, s10, s11, s12⟩
        go_simp
        with_reducible rfl
      rotate_left
      · simp only [Act.put, List.setIfInBounds_toArray, List.set_cons_zero, List.set_cons_succ, i64_w, i32_w]
        rfl
      refine take_ (i := 2) (N := some 24) (v := ?_) (a' := ?_) #[true, false, true, false, false, false, false, false, false, false, false, false, false, false, false, false, false, false, false, false, false] rfl rfl (by kernel_rfl) (fun _ _ _ h => h) (Or.inl ⟨by rfl, ?_⟩) hHeld ?_ ?_
      rotate_left
      · rintro w' ⟨s0, s1, s2, s3, s4, s5, s6, s7, s8, s9, s10, s11, s12⟩
        go_simp
        with_reducible rfl
      rotate_left
      · simp only [Act.put, List.setIfInBounds_toArray, List.set_cons_zero, List.set_cons_succ, i64_w, i32_w]
        rfl
      refine one_ (i := 1) (N := some 23) #[true, true, true, false, false, false, false, false, false, false, false, false, false, false, false, false, false, false, false, false, false] rfl rfl (by kernel_rfl) (by decide) (fun K hK => ?_)
      refine goes_ Try.func21 (by kernel_rfl) rfl #[.agg #[.string r.out, .string r.cmd, .int .i64 r.time, .int .i64 r.mark, .slice A5 ri c5, .slice A6 rf c6]] (by rfl) rfl rfl (by first | (simp only [List.map_toArray, List.map_cons, List.map_nil]; done) | (simp only [List.map_toArray, List.map_cons, List.map_nil]; rfl) | rfl) ?_
      with_reducible refine (told_any _ r _ (R6.out.below hHeld.1) hsm.1 hsm.2).mono ?_
      rintro e w5 ⟨vt, rfl, rt, bt⟩
      refine ⟨_, rfl, ?_⟩
      have hb5 := hHeld.1.trans (bt.mono hHeld.1.size)
      have RT := Lib.hid rt
      clear rt bt
      refine hK.out _ _ ⟨hb5, pw_cell_below (hb5) Q0.out, pw_cell_below (hb5) Q1.out, pw_cell_below (hb5) Q2.out, pw_cell_below (hb5) Q3.out, pw_cell_below (hb5) Q4.out, pw_cell_below (hb5) Q5.out, pw_cell_below (hb5) Q6.out, pw_cell_below (hb5) Q7.out, pw_cell_below (hb5) Q8.out, pw_cell_below (hb5) Q9.out, pw_cell_below (hb5) Q10.out, pw_cell_below (hb5) Q11.out⟩ (fun hHeld => ?_)
      clear hK K
      refine norm_ (a' := ?_) ?_ ?_
      rotate_left
      · show Act.put _ (some 23) _ = _
        simp only [Act.put, List.setIfInBounds_toArray, List.set_cons_zero, List.set_cons_succ, i64_w, i32_w]
        rfl
      refine one_ (i := 3) (N := some 25) #[true, true, true, true, false, false, false, false, false, false, false, false, false, false, false, false, false, false, false, false, false] rfl rfl (by kernel_rfl) (by decide) (fun K hK => ?_)
      refine goes_ Try.func20 (by kernel_rfl) rfl #[vt, .agg #[.string r.out, .string r.cmd, .int .i64 r.time, .int .i64 r.mark, .slice A7 ri c7, .slice A8 rf c8]] (by rfl) rfl rfl (by first | (simp only [List.map_toArray, List.map_cons, List.map_nil]; done) | (simp only [List.map_toArray, List.map_cons, List.map_nil]; rfl) | rfl) ?_
      with_reducible refine (same_true _ _ r _ RT.out (R5.out.below hHeld.1)).mono ?_
      rintro e w6 ⟨rfl, bs⟩
      refine ⟨_, rfl, ?_⟩
      have hb6 := hHeld.1.trans (bs.mono hHeld.1.size)
      clear bs
      refine hK.out _ _ ⟨hb6, pw_cell_below (hb6) Q0.out, pw_cell_below (hb6) Q1.out, pw_cell_below (hb6) Q2.out, pw_cell_below (hb6) Q3.out, pw_cell_below (hb6) Q4.out, pw_cell_below (hb6) Q5.out, pw_cell_below (hb6) Q6.out, pw_cell_below (hb6) Q7.out, pw_cell_below (hb6) Q8.out, pw_cell_below (hb6) Q9.out, pw_cell_below (hb6) Q10.out, pw_cell_below (hb6) Q11.out⟩ (fun hHeld => ?_)
      clear hK K
      refine norm_ (a' := ?_) ?_ ?_
      rotate_left
      · show Act.put _ (some 25) _ = _
        simp only [Act.put, List.setIfInBounds_toArray, List.set_cons_zero, List.set_cons_succ, i64_w, i32_w]
        rfl
      refine pure_ (i := 4) (N := some 26) (v := ?_) (a' := ?_) #[true, true, true, true, true, false, false, false, false, false, false, false, false, false, false, false, false, false, false, false, false] rfl rfl (by kernel_rfl) (fun _ _ _ h => h) (Or.inl ⟨by rfl, ?_⟩) ?_ ?_
      rotate_left
      · intro w'
        go_simp
        with_reducible rfl
      rotate_left
      · simp only [Act.put, List.setIfInBounds_toArray, List.set_cons_zero, List.set_cons_succ, i64_w, i32_w]
        rfl
      refine pure_ (i := 5) (N := some 27) (v := ?_) (a' := ?_) #[true, true, true, true, true, true, false, false, false, false, false, false, false, false, false, false, false, false, false, false, false] rfl rfl (by kernel_rfl) (fun _ _ _ h => h) (Or.inl ⟨by rfl, ?_⟩) ?_ ?_
      rotate_left
      · intro w'
        go_simp
        with_reducible rfl
      rotate_left
      · simp only [Act.put, List.setIfInBounds_toArray, List.set_cons_zero, List.set_cons_succ, i64_w, i32_w]
        rfl
      refine pure_ (i := 6) (N := some 28) (v := ?_) (a' := ?_) #[true, true, true, true, true, true, true, false, false, false, false, false, false, false, false, false, false, false, false, false, false] rfl rfl (by kernel_rfl) (fun _ _ _ h => h) (Or.inl ⟨by rfl, ?_⟩) ?_ ?_
      rotate_left
      · intro w'
        go_simp
        with_reducible rfl
      rotate_left
      · simp only [Act.put, List.setIfInBounds_toArray, List.set_cons_zero, List.set_cons_succ, i64_w, i32_w]
        rfl
      refine pure_ (i := 7) (N := some 29) (v := ?_) (a' := ?_) #[true, true, true, true, true, true, true, true, false, false, false, false, false, false, false, false, false, false, false, false, false] rfl rfl (by kernel_rfl) (fun _ _ _ h => h) (Or.inl ⟨by rfl, ?_⟩) ?_ ?_
      rotate_left
      · intro w'
        go_simp
        with_reducible rfl
      rotate_left
      · simp only [Act.put, List.setIfInBounds_toArray, List.set_cons_zero, List.set_cons_succ, i64_w, i32_w]
        rfl
      refine pure_ (i := 8) (N := some 30) (v := ?_) (a' := ?_) #[true, true, true, true, true, true, true, true, true, false, false, false, false, false, false, false, false, false, false, false, false] rfl rfl (by kernel_rfl) (fun _ _ _ h => h) (Or.inl ⟨by rfl, ?_⟩) ?_ ?_
      rotate_left
      · intro w'
        go_simp
        with_reducible rfl
      rotate_left
      · simp only [Act.put, List.setIfInBounds_toArray, List.set_cons_zero, List.set_cons_succ, i64_w, i32_w]
        rfl
      refine pure_ (i := 9) (N := some 31) (v := ?_) (a' := ?_) #[true, true, true, true, true, true, true, true, true, true, false, false, false, false, false, false, false, false, false, false, false] rfl rfl (by kernel_rfl) (fun _ _ _ h => h) (Or.inl ⟨by rfl, ?_⟩) ?_ ?_
      rotate_left
      · intro w'
        go_simp
        with_reducible rfl
      rotate_left
      · simp only [Act.put, List.setIfInBounds_toArray, List.set_cons_zero, List.set_cons_succ, i64_w, i32_w]
        rfl
      refine pure_ (i := 10) (N := some 32) (v := ?_) (a' := ?_) #[true, true, true, true, true, true, true, true, true, true, true, false, false, false, false, false, false, false, false, false, false] rfl rfl (by kernel_rfl) (fun _ _ _ h => h) (Or.inl ⟨by rfl, ?_⟩) ?_ ?_
      rotate_left
      · intro w'
        go_simp
        with_reducible rfl
      rotate_left
      · simp only [Act.put, List.setIfInBounds_toArray, List.set_cons_zero, List.set_cons_succ, i64_w, i32_w]
        rfl
      refine pure_ (i := 11) (N := some 33) (v := ?_) (a' := ?_) #[true, true, true, true, true, true, true, true, true, true, true, true, false, false, false, false, false, false, false, false, false] rfl rfl (by kernel_rfl) (fun _ _ _ h => h) (Or.inl ⟨by rfl, ?_⟩) ?_ ?_
      rotate_left
      · intro w'
        go_simp
        with_reducible rfl
      rotate_left
      · simp only [Act.put, List.setIfInBounds_toArray, List.set_cons_zero, List.set_cons_succ, i64_w, i32_w]
        rfl
      refine pure_ (i := 12) (N := some 34) (v := ?_) (a' := ?_) #[true, true, true, true, true, true, true, true, true, true, true, true, true, false, false, false, false, false, false, false, false] rfl rfl (by kernel_rfl) (fun _ _ _ h => h) (Or.inl ⟨by rfl, ?_⟩) ?_ ?_
      rotate_left
      · intro w'
        go_simp
        with_reducible rfl
      rotate_left
      · simp only [Act.put, List.setIfInBounds_toArray, List.set_cons_zero, List.set_cons_succ, i64_w, i32_w]
        rfl
      refine pure_ (i := 13) (N := some 35) (v := undef) (a' := ?_) #[true, true, true, true, true, true, true, true, true, true, true, true, true, true, false, false, false, false, false, false, false] rfl rfl (by kernel_rfl) (fun _ _ _ h => h) (Or.inr ⟨by rfl, rfl⟩) ?_ ?_
      rotate_left
      · simp only [Act.put, List.setIfInBounds_toArray, List.set_cons_zero, List.set_cons_succ, i64_w, i32_w]
        rfl
      refine pure_ (i := 14) (N := some 36) (v := undef) (a' := ?_) #[true, true, true, true, true, true, true, true, true, true, true, true, true, true, true, false, false, false, false, false, false] rfl rfl (by kernel_rfl) (fun _ _ _ h => h) (Or.inr ⟨by rfl, rfl⟩) ?_ ?_
      rotate_left
      · simp only [Act.put, List.setIfInBounds_toArray, List.set_cons_zero, List.set_cons_succ, i64_w, i32_w]
        rfl
      refine pure_ (i := 15) (N := some 37) (v := ?_) (a' := ?_) #[true, true, true, true, true, true, true, true, true, true, true, true, true, true, true, true, false, false, false, false, false] rfl rfl (by kernel_rfl) (fun _ _ _ h => h) (Or.inl ⟨by rfl, ?_⟩) ?_ ?_
      rotate_left
      · intro w'
        go_simp
        with_reducible rfl
      rotate_left
      · simp only [Act.put, List.setIfInBounds_toArray, List.set_cons_zero, List.set_cons_succ, i64_w, i32_w]
        rfl
      refine pure_ (i := 16) (N := some 38) (v := ?_) (a' := ?_) #[true, true, true, true, true, true, true, true, true, true, true, true, true, true, true, true, true, false, false, false, false] rfl rfl (by kernel_rfl) (fun _ _ _ h => h) (Or.inl ⟨by rfl, ?_⟩) ?_ ?_
      rotate_left
      · intro w'
        go_simp
        with_reducible rfl
      rotate_left
      · simp only [Act.put, List.setIfInBounds_toArray, List.set_cons_zero, List.set_cons_succ, i64_w, i32_w]
        rfl
      refine pure_ (i := 17) (N := some 39) (v := ?_) (a' := ?_) #[true, true, true, true, true, true, true, true, true, true, true, true, true, true, true, true, true, true, false, false, false] rfl rfl (by kernel_rfl) (fun _ _ _ h => h) (Or.inl ⟨by rfl, ?_⟩) ?_ ?_
      rotate_left
      · intro w'
        go_simp
        with_reducible rfl
      rotate_left
      · simp only [Act.put, List.setIfInBounds_toArray, List.set_cons_zero, List.set_cons_succ, i64_w, i32_w]
        rfl
      refine one_ (i := 18) (N := some 40) #[true, true, true, true, true, true, true, true, true, true, true, true, true, true, true, true, true, true, true, false, false] rfl rfl (by kernel_rfl) (by decide) (fun K hK => ?_)
      refine goes_ Try.func17 (by kernel_rfl) rfl #[] (by rfl) rfl rfl (by first | (simp only [List.map_toArray, List.map_cons, List.map_nil]; done) | (simp only [List.map_toArray, List.map_cons, List.map_nil]; rfl) | rfl) ?_
      with_reducible refine (awake_any _).mono ?_
      rintro e w7 ⟨rfl, bs⟩
      refine ⟨_, rfl, ?_⟩
      have hb7 := hHeld.1.trans (bs.mono hHeld.1.size)
      clear bs
      refine hK.out _ _ ⟨hb7, pw_cell_below (hb7) Q0.out, pw_cell_below (hb7) Q1.out, pw_cell_below (hb7) Q2.out, pw_cell_below (hb7) Q3.out, pw_cell_below (hb7) Q4.out, pw_cell_below (hb7) Q5.out, pw_cell_below (hb7) Q6.out, pw_cell_below (hb7) Q7.out, pw_cell_below (hb7) Q8.out, pw_cell_below (hb7) Q9.out, pw_cell_below (hb7) Q10.out, pw_cell_below (hb7) Q11.out⟩ (fun hHeld => ?_)
      clear hK K
      refine norm_ (a' := ?_) ?_ ?_
      rotate_left
      · show Act.put _ (some 40) _ = _
        simp only [Act.put, List.setIfInBounds_toArray, List.set_cons_zero, List.set_cons_succ, i64_w, i32_w]
        rfl
      refine pure_ (i := 19) (N := some 41) (v := ?_) (a' := ?_) #[true, true, true, true, true, true, true, true, true, true, true, true, true, true, true, true, true, true, true, true, false] rfl rfl (by kernel_rfl) (fun _ _ _ h => h) (Or.inl ⟨by rfl, ?_⟩) ?_ ?_
      rotate_left
      · intro w'
        go_simp
        with_reducible rfl
      rotate_left
      · simp only [Act.put, List.setIfInBounds_toArray, List.set_cons_zero, List.set_cons_succ, i64_w, i32_w]
        rfl
      refine pure_ (i := 20) (N := some 2) (v := ?_) (a' := ?_) #[true, true, true, true, true, true, true, true, true, true, true, true, true, true, true, true, true, true, true, true, true] rfl rfl (by kernel_rfl) (fun _ _ _ h => h) (Or.inl ⟨by rfl, ?_⟩) ?_ ?_
      rotate_left
      · intro w'
        go_simp
        with_reducible rfl
      rotate_left
      · simp only [Act.put, List.setIfInBounds_toArray, List.set_cons_zero, List.set_cons_succ, i64_w, i32_w]
        rfl
      refine done_ (by kernel_rfl) ?_
      have HH := Lib.hid hHeld.1
      clear hHeld
      go_wp2
      go_ret
      exact ⟨rfl, HBZ.out.trans (HH.out.mono HBZ.out.size)⟩
    | false =>
      have he : readErr xs = 4 := by unfold readErr; rw [hok]; rfl
      rw [he]
      clear he hok
      refine start_ (n := 21) (S := fun w' => Below wz.heap.size wz w' ∧ w'.cell? ⟨g, 0, none⟩ = some (.string r.out) ∧ w'.cell? ⟨g, 1, none⟩ = some (.string r.cmd) ∧ w'.cell? ⟨g, 2, none⟩ = some (.int .i64 r.time) ∧ w'.cell? ⟨g, 3, none⟩ = some (.int .i64 r.mark) ∧ w'.cell? ⟨g, 4, none⟩ = some (.slice A5 ri c5) ∧ w'.cell? ⟨g, 5, none⟩ = some (.slice A6 rf c6) ∧ w'.cell? ⟨h, 0, none⟩ = some (.string r.out) ∧ w'.cell? ⟨h, 1, none⟩ = some (.string r.cmd) ∧ w'.cell? ⟨h, 2, none⟩ = some (.int .i64 r.time) ∧ w'.cell? ⟨h, 3, none⟩ = some (.int .i64 r.mark) ∧ w'.cell? ⟨h, 4, none⟩ = some (.slice A7 ri c7) ∧ w'.cell? ⟨h, 5, none⟩ = some (.slice A8 rf c8)) (ds := []) #[false, false, false, false, false, false, false, false, false, false, false, false, false, false, false, false, false, false, false, false, false] (by kernel_rfl) rfl rfl ⟨Below.drew (Below.refl _ _), Q0.out, Q1.out, Q2.out, Q3.out, Q4.out, Q5.out, Q6.out, Q7.out, Q8.out, Q9.out, Q10.out, Q11.out⟩ (fun hHeld => ?_)
      refine take_ (i := 0) (N := some 22) (v := ?_) (a' := ?_) #[true, false, false, false, false, false, false, false, false, false, false, false, false, false, false, false, false, false, false, false, false] rfl rfl (by kernel_rfl) (fun _ _ _ h => h) (Or.inl ⟨by rfl, ?_⟩) hHeld ?_ ?_
      rotate_left
      · rintro w' ⟨s0, s1, s2, s3, s4, s5, s6, s7, s8, s9, s10, s11, s12⟩
        go_simp
        with_reducible rfl
      rotate_left
      · simp only [Act.put, List.setIfInBounds_toArray, List.set_cons_zero, List.set_cons_succ, i64_w, i32_w]
        rfl
      refine take_ (i := 2) (N := some 24) (v := ?_) (a' := ?_) #[true, false, true, false, false, false, false, false, false, false, false, false, false, false, false, false, false, false, false, false, false] rfl rfl (by kernel_rfl) (fun _ _ _ h => h) (Or.inl ⟨by rfl, ?_⟩) hHeld ?_ ?_
      rotate_left
      · rintro w' ⟨s0, s1, s2, s3, s4, s5, s6, s7, s8, s9, s10, s11, s12⟩
        go_simp
        with_reducible rfl
      rotate_left
      · simp only [Act.put, List.setIfInBounds_toArray, List.set_cons_zero, List.set_cons_succ, i64_w, i32_w]
        rfl
      refine one_ (i := 1) (N := some 23) #[true, true, true, false, false, false, false, false, false, false, false, false, false, false, false, false, false, false, false, false, false] rfl rfl (by kernel_rfl) (by decide) (fun K hK => ?_)
      refine goes_ Try.func21 (by kernel_rfl) rfl #[.agg #[.string r.out, .string r.cmd, .int .i64 r.time, .int .i64 r.mark, .slice A5 ri c5, .slice A6 rf c6]] (by rfl) rfl rfl (by first | (simp only [List.map_toArray, List.map_cons, List.map_nil]; done) | (simp only [List.map_toArray, List.map_cons, List.map_nil]; rfl) | rfl) ?_
      with_reducible refine (told_any _ r _ (R6.out.below hHeld.1) hsm.1 hsm.2).mono ?_
      rintro e w5 ⟨vt, rfl, rt, bt⟩
      refine ⟨_, rfl, ?_⟩
      have hb5 := hHeld.1.trans (bt.mono hHeld.1.size)
      have RT := Lib.hid rt
      clear rt bt
      refine hK.out _ _ ⟨hb5, pw_cell_below (hb5) Q0.out, pw_cell_below (hb5) Q1.out, pw_cell_below (hb5) Q2.out, pw_cell_below (hb5) Q3.out, pw_cell_below (hb5) Q4.out, pw_cell_below (hb5) Q5.out, pw_cell_below (hb5) Q6.out, pw_cell_below (hb5) Q7.out, pw_cell_below (hb5) Q8.out, pw_cell_below (hb5) Q9.out, pw_cell_below (hb5) Q10.out, pw_cell_below (hb5) Q11.out⟩ (fun hHeld => ?_)
      clear hK K
      refine norm_ (a' := ?_) ?_ ?_
      rotate_left
      · show Act.put _ (some 23) _ = _
        simp only [Act.put, List.setIfInBounds_toArray, List.set_cons_zero, List.set_cons_succ, i64_w, i32_w]
        rfl
      refine one_ (i := 3) (N := some 25) #[true, true, true, true, false, false, false, false, false, false, false, false, false, false, false, false, false, false, false, false, false] rfl rfl (by kernel_rfl) (by decide) (fun K hK => ?_)
      refine goes_ Try.func20 (by kernel_rfl) rfl #[vt, .agg #[.string r.out, .string r.cmd, .int .i64 r.time, .int .i64 r.mark, .slice A7 ri c7, .slice A8 rf c8]] (by rfl) rfl rfl (by first | (simp only [List.map_toArray, List.map_cons, List.map_nil]; done) | (simp only [List.map_toArray, List.map_cons, List.map_nil]; rfl) | rfl) ?_
      with_reducible refine (same_true _ _ r _ RT.out (R5.out.below hHeld.1)).mono ?_
      rintro e w6 ⟨rfl, bs⟩
      refine ⟨_, rfl, ?_⟩
      have hb6 := hHeld.1.trans (bs.mono hHeld.1.size)
      clear bs
      refine hK.out _ _ ⟨hb6, pw_cell_below (hb6) Q0.out, pw_cell_below (hb6) Q1.out, pw_cell_below (hb6) Q2.out, pw_cell_below (hb6) Q3.out, pw_cell_below (hb6) Q4.out, pw_cell_below (hb6) Q5.out, pw_cell_below (hb6) Q6.out, pw_cell_below (hb6) Q7.out, pw_cell_below (hb6) Q8.out, pw_cell_below (hb6) Q9.out, pw_cell_below (hb6) Q10.out, pw_cell_below (hb6) Q11.out⟩ (fun hHeld => ?_)
      clear hK K
      refine norm_ (a' := ?_) ?_ ?_
      rotate_left
      · show Act.put _ (some 25) _ = _
        simp only [Act.put, List.setIfInBounds_toArray, List.set_cons_zero, List.set_cons_succ, i64_w, i32_w]
        rfl
      refine pure_ (i := 4) (N := some 26) (v := ?_) (a' := ?_) #[true, true, true, true, true, false, false, false, false, false, false, false, false, false, false, false, false, false, false, false, false] rfl rfl (by kernel_rfl) (fun _ _ _ h => h) (Or.inl ⟨by rfl, ?_⟩) ?_ ?_
      rotate_left
      · intro w'
        go_simp
        with_reducible rfl
      rotate_left
      · simp only [Act.put, List.setIfInBounds_toArray, List.set_cons_zero, List.set_cons_succ, i64_w, i32_w]
        rfl
      refine pure_ (i := 5) (N := some 27) (v := ?_) (a' := ?_) #[true, true, true, true, true, true, false, false, false, false, false, false, false, false, false, false, false, false, false, false, false] rfl rfl (by kernel_rfl) (fun _ _ _ h => h) (Or.inl ⟨by rfl, ?_⟩) ?_ ?_
      rotate_left
      · intro w'
        go_simp
        with_reducible rfl
      rotate_left
      · simp only [Act.put, List.setIfInBounds_toArray, List.set_cons_zero, List.set_cons_succ, i64_w, i32_w]
        rfl
      refine pure_ (i := 6) (N := some 28) (v := ?_) (a' := ?_) #[true, true, true, true, true, true, true, false, false, false, false, false, false, false, false, false, false, false, false, false, false] rfl rfl (by kernel_rfl) (fun _ _ _ h => h) (Or.inl ⟨by rfl, ?_⟩) ?_ ?_
      rotate_left
      · intro w'
        go_simp
        with_reducible rfl
      rotate_left
      · simp only [Act.put, List.setIfInBounds_toArray, List.set_cons_zero, List.set_cons_succ, i64_w, i32_w]
        rfl
      refine pure_ (i := 7) (N := some 29) (v := ?_) (a' := ?_) #[true, true, true, true, true, true, true, true, false, false, false, false, false, false, false, false, false, false, false, false, false] rfl rfl (by kernel_rfl) (fun _ _ _ h => h) (Or.inl ⟨by rfl, ?_⟩) ?_ ?_
      rotate_left
      · intro w'
        go_simp
        with_reducible rfl
      rotate_left
      · simp only [Act.put, List.setIfInBounds_toArray, List.set_cons_zero, List.set_cons_succ, i64_w, i32_w]
        rfl
      refine pure_ (i := 8) (N := some 30) (v := ?_) (a' := ?_) #[true, true, true, true, true, true, true, true, true, false, false, false, false, false, false, false, false, false, false, false, false] rfl rfl (by kernel_rfl) (fun _ _ _ h => h) (Or.inl ⟨by rfl, ?_⟩) ?_ ?_
      rotate_left
      · intro w'
        go_simp
        with_reducible rfl
      rotate_left
      · simp only [Act.put, List.setIfInBounds_toArray, List.set_cons_zero, List.set_cons_succ, i64_w, i32_w]
        rfl
      refine pure_ (i := 9) (N := some 31) (v := ?_) (a' := ?_) #[true, true, true, true, true, true, true, true, true, true, false, false, false, false, false, false, false, false, false, false, false] rfl rfl (by kernel_rfl) (fun _ _ _ h => h) (Or.inl ⟨by rfl, ?_⟩) ?_ ?_
      rotate_left
      · intro w'
        go_simp
        with_reducible rfl
      rotate_left
      · simp only [Act.put, List.setIfInBounds_toArray, List.set_cons_zero, List.set_cons_succ, i64_w, i32_w]
        rfl
      refine pure_ (i := 10) (N := some 32) (v := ?_) (a' := ?_) #[true, true, true, true, true, true, true, true, true, true, true, false, false, false, false, false, false, false, false, false, false] rfl rfl (by kernel_rfl) (fun _ _ _ h => h) (Or.inl ⟨by rfl, ?_⟩) ?_ ?_
      rotate_left
      · intro w'
        go_simp
        with_reducible rfl
      rotate_left
      · simp only [Act.put, List.setIfInBounds_toArray, List.set_cons_zero, List.set_cons_succ, i64_w, i32_w]
        rfl
      refine pure_ (i := 11) (N := some 33) (v := ?_) (a' := ?_) #[true, true, true, true, true, true, true, true, true, true, true, true, false, false, false, false, false, false, false, false, false] rfl rfl (by kernel_rfl) (fun _ _ _ h => h) (Or.inl ⟨by rfl, ?_⟩) ?_ ?_
      rotate_left
      · intro w'
        go_simp
        with_reducible rfl
      rotate_left
      · simp only [Act.put, List.setIfInBounds_toArray, List.set_cons_zero, List.set_cons_succ, i64_w, i32_w]
        rfl
      refine pure_ (i := 12) (N := some 34) (v := ?_) (a' := ?_) #[true, true, true, true, true, true, true, true, true, true, true, true, true, false, false, false, false, false, false, false, false] rfl rfl (by kernel_rfl) (fun _ _ _ h => h) (Or.inl ⟨by rfl, ?_⟩) ?_ ?_
      rotate_left
      · intro w'
        go_simp
        with_reducible rfl
      rotate_left
      · simp only [Act.put, List.setIfInBounds_toArray, List.set_cons_zero, List.set_cons_succ, i64_w, i32_w]
        rfl
      refine pure_ (i := 13) (N := some 35) (v := ?_) (a' := ?_) #[true, true, true, true, true, true, true, true, true, true, true, true, true, true, false, false, false, false, false, false, false] rfl rfl (by kernel_rfl) (fun _ _ _ h => h) (Or.inl ⟨by rfl, ?_⟩) ?_ ?_
      rotate_left
      · intro w'
        go_simp
        with_reducible rfl
      rotate_left
      · simp only [Act.put, List.setIfInBounds_toArray, List.set_cons_zero, List.set_cons_succ, i64_w, i32_w]
        rfl
      refine pure_ (i := 14) (N := some 36) (v := ?_) (a' := ?_) #[true, true, true, true, true, true, true, true, true, true, true, true, true, true, true, false, false, false, false, false, false] rfl rfl (by kernel_rfl) (fun _ _ _ h => h) (Or.inl ⟨by rfl, ?_⟩) ?_ ?_
      rotate_left
      · intro w'
        go_simp
        with_reducible rfl
      rotate_left
      · simp only [Act.put, List.setIfInBounds_toArray, List.set_cons_zero, List.set_cons_succ, i64_w, i32_w]
        rfl
      refine pure_ (i := 15) (N := some 37) (v := ?_) (a' := ?_) #[true, true, true, true, true, true, true, true, true, true, true, true, true, true, true, true, false, false, false, false, false] rfl rfl (by kernel_rfl) (fun _ _ _ h => h) (Or.inl ⟨by rfl, ?_⟩) ?_ ?_
      rotate_left
      · intro w'
        go_simp
        with_reducible rfl
      rotate_left
      · simp only [Act.put, List.setIfInBounds_toArray, List.set_cons_zero, List.set_cons_succ, i64_w, i32_w]
        rfl
      refine pure_ (i := 16) (N := some 38) (v := ?_) (a' := ?_) #[true, true, true, true, true, true, true, true, true, true, true, true, true, true, true, true, true, false, false, false, false] rfl rfl (by kernel_rfl) (fun _ _ _ h => h) (Or.inl ⟨by rfl, ?_⟩) ?_ ?_
      rotate_left
      · intro w'
        go_simp
        with_reducible rfl
      rotate_left
      · simp only [Act.put, List.setIfInBounds_toArray, List.set_cons_zero, List.set_cons_succ, i64_w, i32_w]
        rfl
      refine pure_ (i := 17) (N := some 39) (v := ?_) (a' := ?_) #[true, true, true, true, true, true, true, true, true, true, true, true, true, true, true, true, true, true, false, false, false] rfl rfl (by kernel_rfl) (fun _ _ _ h => h) (Or.inl ⟨by rfl, ?_⟩) ?_ ?_
      rotate_left
      · intro w'
        go_simp
        with_reducible rfl
      rotate_left
      · simp only [Act.put, List.setIfInBounds_toArray, List.set_cons_zero, List.set_cons_succ, i64_w, i32_w]
        rfl
      refine one_ (i := 18) (N := some 40) #[true, true, true, true, true, true, true, true, true, true, true, true, true, true, true, true, true, true, true, false, false] rfl rfl (by kernel_rfl) (by decide) (fun K hK => ?_)
      refine goes_ Try.func17 (by kernel_rfl) rfl #[] (by rfl) rfl rfl (by first | (simp only [List.map_toArray, List.map_cons, List.map_nil]; done) | (simp only [List.map_toArray, List.map_cons, List.map_nil]; rfl) | rfl) ?_
      with_reducible refine (awake_any _).mono ?_
      rintro e w7 ⟨rfl, bs⟩
      refine ⟨_, rfl, ?_⟩
      have hb7 := hHeld.1.trans (bs.mono hHeld.1.size)
      clear bs
      refine hK.out _ _ ⟨hb7, pw_cell_below (hb7) Q0.out, pw_cell_below (hb7) Q1.out, pw_cell_below (hb7) Q2.out, pw_cell_below (hb7) Q3.out, pw_cell_below (hb7) Q4.out, pw_cell_below (hb7) Q5.out, pw_cell_below (hb7) Q6.out, pw_cell_below (hb7) Q7.out, pw_cell_below (hb7) Q8.out, pw_cell_below (hb7) Q9.out, pw_cell_below (hb7) Q10.out, pw_cell_below (hb7) Q11.out⟩ (fun hHeld => ?_)
      clear hK K
      refine norm_ (a' := ?_) ?_ ?_
      rotate_left
      · show Act.put _ (some 40) _ = _
        simp only [Act.put, List.setIfInBounds_toArray, List.set_cons_zero, List.set_cons_succ, i64_w, i32_w]
        rfl
      refine pure_ (i := 19) (N := some 41) (v := ?_) (a' := ?_) #[true, true, true, true, true, true, true, true, true, true, true, true, true, true, true, true, true, true, true, true, false] rfl rfl (by kernel_rfl) (fun _ _ _ h => h) (Or.inl ⟨by rfl, ?_⟩) ?_ ?_
      rotate_left
      · intro w'
        go_simp
        with_reducible rfl
      rotate_left
      · simp only [Act.put, List.setIfInBounds_toArray, List.set_cons_zero, List.set_cons_succ, i64_w, i32_w]
        rfl
      refine pure_ (i := 20) (N := some 2) (v := ?_) (a' := ?_) #[true, true, true, true, true, true, true, true, true, true, true, true, true, true, true, true, true, true, true, true, true] rfl rfl (by kernel_rfl) (fun _ _ _ h => h) (Or.inl ⟨by rfl, ?_⟩) ?_ ?_
      rotate_left
      · intro w'
        go_simp
        with_reducible rfl
      rotate_left
      · simp only [Act.put, List.setIfInBounds_toArray, List.set_cons_zero, List.set_cons_succ, i64_w, i32_w]
        rfl
      refine done_ (by kernel_rfl) ?_
      have HH := Lib.hid hHeld.1
      clear hHeld
      go_wp2
      go_ret
      exact ⟨rfl, HBZ.out.trans (HH.out.mono HBZ.out.size)⟩
  · skip
    go_enter Try.func4, Try.ntmps4
    go_wp2
    go_ret
    exact ⟨rfl, Below.refl _ _⟩
--END WALK
end Go.Proofs.Ytehndlafbbpofaa.Run
