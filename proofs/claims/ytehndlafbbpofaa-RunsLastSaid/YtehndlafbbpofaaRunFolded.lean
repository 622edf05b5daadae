/- Runs of the call's own in a row; whether runs are the document's (a walk). -/
import Derived.Test.YtehndlafbbpofaaRunFold
import Derived.Test.YtehndlafbbpofaaRunFoldRef
import Derived.Test.YtehndlafbbpofaaRunSame
namespace Go.Proofs.Ytehndlafbbpofaa.Run
open Go.RowKit Go.Proofs.YtehndlafbbpofaaW.PrintWords Go.Proofs.YtehndlafbbpofaaW.PrintLast Go.Proofs.Ytehndlafbbpofaa.Base Go.Proofs.Ytehndlafbbpofaa.Pack
set_option linter.unusedVariables false
set_option linter.unusedSimpArgs false

theorem r_is {e : TypeId} {w : World} {base : Nat} {ok : Nat → Prop} {v : Value} {l : List (ByteArray × Int)} (h : kin.R e w base ok v l) : Is w v l := ri_is (Kd.R_mono h fun _ _ => trivial)
theorem r_fs {w : World} {base : Nat} {ok : Nat → Prop} {v : Value} {l : List Int} (h : (Kd.int .i64).R 3 w base ok v l) : Fs w v l := fs_own (Kd.own_of_R (enc := Value.int .i64) (h1 := fun _ => rfl) h)
theorem is_one {w : World} {v : Value} {l : List (ByteArray × Int)} (h : Is w v l) : v.oneCell' = true := by
  obtain ⟨A, c, rfl, _, _⟩ := h.len
  rfl
theorem fs_one {w : World} {v : Value} {l : List Int} (h : Fs w v l) : v.oneCell' = true := by
  obtain ⟨A, c, rfl, _, _⟩ := h.len
  rfl
/-- A run in a row, its own rows made by the call. -/
def kown : Kd RunV where
  sz := 6
  E := [50, 3]
  K := fun w x cs => ∃ vi vf, cs = [.string x.out, .string x.cmd, .int .i64 x.time, .int .i64 x.mark, vi, vf] ∧ Is w vi x.ins ∧ Fs w vf x.found
  M := fun w base ok x cs => ∃ vi vf, cs = [.string x.out, .string x.cmd, .int .i64 x.time, .int .i64 x.mark, vi, vf] ∧ kin.R 50 w base ok vi x.ins ∧ (Kd.int .i64).R 3 w base ok vf x.found
  K_len := by
    rintro w x cs ⟨vi, vf, rfl, _, _⟩
    rfl
  K_one := by
    rintro w x cs ⟨vi, vf, rfl, h1, h2⟩ u hu
    simp only [List.mem_cons, List.not_mem_nil, or_false] at hu
    rcases hu with rfl | rfl | rfl | rfl | rfl | rfl
    · rfl
    · rfl
    · rfl
    · rfl
    · exact is_one h1
    · exact fs_one h2
  K_below := by
    rintro w w1 x cs hb ⟨vi, vf, rfl, h1, h2⟩
    exact ⟨vi, vf, rfl, h1.below hb, h2.below hb⟩
  K_of_M := by
    rintro w base ok x cs ⟨vi, vf, rfl, h1, h2⟩
    exact ⟨vi, vf, rfl, r_is h1, r_fs h2⟩
  M_mono := by
    rintro w base ok ok' x cs hok ⟨vi, vf, rfl, h1, h2⟩
    exact ⟨vi, vf, rfl, Kd.R_mono h1 hok, Kd.R_mono h2 hok⟩
  M_bound := by
    rintro w base ok x cs ⟨vi, vf, rfl, h1, h2⟩
    refine ⟨vi, vf, rfl, Kd.R_mono (Kd.R_bound h1) ?_, Kd.R_mono (Kd.R_bound h2) ?_⟩
    · rintro k ⟨h2, h3, h4, q, hq, hc⟩
      refine ⟨h2, h3, h4, q, ?_, hc⟩
      have : q = 50 := by simpa [kin, Kd.pair, Kd.string, Kd.int, Kd.scalar] using hq
      rw [this]; simp
    · rintro k ⟨h2, h3, h4, q, hq, hc⟩
      refine ⟨h2, h3, h4, q, ?_, hc⟩
      have : q = 3 := by simpa [Kd.int, Kd.scalar] using hq
      rw [this]; simp
  M_move := by
    rintro w w1 base ok x cs hm ⟨vi, vf, rfl, h1, h2⟩
    exact ⟨vi, vf, rfl, Kd.R_move h1 hm, Kd.R_move h2 hm⟩
  M_lower := by
    rintro w base base' ok x cs hb ⟨vi, vf, rfl, h1, h2⟩
    exact ⟨vi, vf, rfl, Kd.R_lower h1 hb, Kd.R_lower h2 hb⟩
theorem ro_m {w : World} {base : Nat} {r : RunV} {vi vf : Value} (h : RunO 50 w base (.agg #[.string r.out, .string r.cmd, .int .i64 r.time, .int .i64 r.mark, vi, vf]) r) :
    kown.M w base (fun k => base ≤ k ∧ k < w.heap.size) r [.string r.out, .string r.cmd, .int .i64 r.time, .int .i64 r.mark, vi, vf] := by
  obtain ⟨vi', vf', e, h1, h2⟩ := h
  simp only [Value.agg.injEq, Array.mk.injEq, List.cons.injEq, and_true, true_and] at e
  obtain ⟨rfl, rfl⟩ := e
  exact ⟨vi, vf, rfl, Kd.R_mono (Kd.R_bound h1) fun k hk => ⟨hk.2.1, hk.2.2.1⟩, Kd.R_mono (Kd.R_bound (Kd.R_of_own (enc := Value.int .i64) (h1 := fun _ => rfl) (ok := fun _ => True) h2 fun _ _ => trivial)) fun k hk => ⟨hk.2.1, hk.2.2.1⟩⟩
/-- A row of runs of the call's own reads as rows of runs. -/
theorem own_rz {w : World} {base : Nat} {v : Value} {l : List RunV} (h : kown.R 33 w base (fun _ => True) v l) : Rz w w v l := by
  obtain ⟨A, c, rfl, hc, hr⟩ := Kd.R_reads h
  exact ⟨A, c, rfl, hc, hr⟩
theorem krun_rz {W w : World} {base e : Nat} {ok : Nat → Prop} {v : Value} {l : List RunV} (h : (krun W).R e w base ok v l) : Rz W w v l := by
  obtain ⟨A, c, rfl, hc, hr⟩ := Kd.R_reads h
  exact ⟨A, c, rfl, hc, hr⟩

--BEGIN WALK
set_option maxRecDepth 100000 in
set_option maxHeartbeats 4000000 in
theorem folded_true (v1 v2 : Value) (l : List RunV) (w W1 W2 : World) (h1 : Rz W1 w v1 l) (h2 : Rz W2 w v2 l) (hb1 : Below W1.heap.size W1 w) (hb2 : Below W2.heap.size W2 w) (hs : ∀ r ∈ l, r.ins.length ≤ 10000 ∧ r.found.length ≤ 10000) :
    Calls Try.prog 23 #[v1, v2] w fun e w' => e = .returned (.bool true) ∧ Below w.heap.size w w' := by
  obtain ⟨A1, c1, rfl, hc1, hC1⟩ := h1
  obtain ⟨A2, c2, rfl, hc2, hC2⟩ := h2
  have hm := hC1.2.1
  have HC1 := Lib.hid hC1
  have HC2 := Lib.hid hC2
  have HB1 := Lib.hid hb1
  have HB2 := Lib.hid hb2
  have HS := Lib.hid hs
  obtain ⟨n, hn⟩ : ∃ n, n = l.length := ⟨_, rfl⟩
  rw [← hn] at hc1 hc2 hm
  rw [← hn]
  have HN := Lib.hid hn
  have hne : ((n : Int) != (n : Int)) = false := by simp
  clear hC1 hC2 hb1 hb2 hs hn
  go_enter Try.func23, Try.ntmps23
  go_wp2
  go_loopw [5] (fun i wr => ∃ k : Nat, k ≤ n ∧ i = .int .i64 k ∧ Hid (Below w.heap.size w wr)) (fun i _ => n - (intOf i).toNat)
  case atStart => exact ⟨0, by omega, rfl, Below.refl _ _⟩
  case round =>
    obtain ⟨k, hk, rfl, HB⟩ := hrel
    by_cases l1 : k < n
    · have hkl : k < l.length := by rw [← HN.out]; exact l1
      obtain ⟨ad1, vi1, vf1, e1, a1, hI1, hF1⟩ := c_at6 HC1.out k hkl
      obtain ⟨ad2, vi2, vf2, e2, a2, hI2, hF2⟩ := c_at6 HC2.out k hkl
      subst e1
      subst e2
      have hr0 : l.getD k zv ∈ l := by rw [List.getD_eq_getElem?_getD, List.getElem?_eq_getElem hkl]; exact List.getElem_mem hkl
      have HSR := Lib.hid (HS.out _ hr0)
      have B1 := a1.below HB.out
      have B2 := a2.below HB.out
      have HI1 := Lib.hid (And.intro ((hI1.below HB1.out).below HB.out) ((hF1.below HB1.out).below HB.out))
      have HI2 := Lib.hid (And.intro ((hI2.below HB2.out).below HB.out) ((hF2.below HB2.out).below HB.out))
      generalize l.getD k zv = r at B1 B2 HI1 HI2 HSR
      clear a1 a2 hI1 hI2 hF1 hF2 hr0 hkl
      obtain ⟨A3, c3, rfl, _, _⟩ := HI1.out.1.len
      obtain ⟨A4, c4, rfl, _, _⟩ := HI1.out.2.len
      obtain ⟨A5, c5, rfl, _, _⟩ := HI2.out.1.len
      obtain ⟨A6, c6, rfl, _, _⟩ := HI2.out.2.len
      obtain ⟨ri, hri⟩ : ∃ ri, ri = r.ins.length := ⟨_, rfl⟩
      obtain ⟨rf, hrf⟩ : ∃ rf, rf = r.found.length := ⟨_, rfl⟩
      rw [← hri, ← hrf] at B1 B2 HI1 HI2
      clear hri hrf
      obtain ⟨q0, q1, q2, q3, q4, q5⟩ := B1
      obtain ⟨p0, p1, p2, p3, p4, p5⟩ := B2
      have Q0 : Hid (wr.cell? (ad1.add (k * 6)) = some (.string r.out)) := q0
      have Q1 : Hid (wr.cell? ⟨(ad1.add (k * 6)).block, (ad1.add (k * 6)).off + 1, none⟩ = some (.string r.cmd)) := q1
      have Q2 : Hid (wr.cell? ⟨(ad1.add (k * 6)).block, (ad1.add (k * 6)).off + 2, none⟩ = some (.int .i64 r.time)) := q2
      have Q3 : Hid (wr.cell? ⟨(ad1.add (k * 6)).block, (ad1.add (k * 6)).off + 3, none⟩ = some (.int .i64 r.mark)) := q3
      have Q4 : Hid (wr.cell? ⟨(ad1.add (k * 6)).block, (ad1.add (k * 6)).off + 4, none⟩ = some (.slice A3 ri c3)) := q4
      have Q5 : Hid (wr.cell? ⟨(ad1.add (k * 6)).block, (ad1.add (k * 6)).off + 5, none⟩ = some (.slice A4 rf c4)) := q5
      have P0 : Hid (wr.cell? (ad2.add (k * 6)) = some (.string r.out)) := p0
      have P1 : Hid (wr.cell? ⟨(ad2.add (k * 6)).block, (ad2.add (k * 6)).off + 1, none⟩ = some (.string r.cmd)) := p1
      have P2 : Hid (wr.cell? ⟨(ad2.add (k * 6)).block, (ad2.add (k * 6)).off + 2, none⟩ = some (.int .i64 r.time)) := p2
      have P3 : Hid (wr.cell? ⟨(ad2.add (k * 6)).block, (ad2.add (k * 6)).off + 3, none⟩ = some (.int .i64 r.mark)) := p3
      have P4 : Hid (wr.cell? ⟨(ad2.add (k * 6)).block, (ad2.add (k * 6)).off + 4, none⟩ = some (.slice A5 ri c5)) := p4
      have P5 : Hid (wr.cell? ⟨(ad2.add (k * 6)).block, (ad2.add (k * 6)).off + 5, none⟩ = some (.slice A6 rf c6)) := p5
      have RI1 : Hid (RunIs wr (.agg #[.string r.out, .string r.cmd, .int .i64 r.time, .int .i64 r.mark, .slice A3 ri c3, .slice A4 rf c4]) r) := ⟨_, _, rfl, HI1.out.1, HI1.out.2⟩
      have RI2 : Hid (RunIs wr (.agg #[.string r.out, .string r.cmd, .int .i64 r.time, .int .i64 r.mark, .slice A5 ri c5, .slice A6 rf c6]) r) := ⟨_, _, rfl, HI2.out.1, HI2.out.2⟩
      clear q0 q1 q2 q3 q4 q5 p0 p1 p2 p3 p4 p5
      go_wp2
      --S1
      refine start_ (n := 11) (S := fun w' => Below wr.heap.size wr w' ∧ w'.cell? (ad1.add (k * 6)) = some (.string r.out) ∧ w'.cell? ⟨(ad1.add (k * 6)).block, (ad1.add (k * 6)).off + 1, none⟩ = some (.string r.cmd) ∧ w'.cell? ⟨(ad1.add (k * 6)).block, (ad1.add (k * 6)).off + 2, none⟩ = some (.int .i64 r.time) ∧ w'.cell? ⟨(ad1.add (k * 6)).block, (ad1.add (k * 6)).off + 3, none⟩ = some (.int .i64 r.mark) ∧ w'.cell? ⟨(ad1.add (k * 6)).block, (ad1.add (k * 6)).off + 4, none⟩ = some (.slice A3 ri c3) ∧ w'.cell? ⟨(ad1.add (k * 6)).block, (ad1.add (k * 6)).off + 5, none⟩ = some (.slice A4 rf c4) ∧ w'.cell? (ad2.add (k * 6)) = some (.string r.out) ∧ w'.cell? ⟨(ad2.add (k * 6)).block, (ad2.add (k * 6)).off + 1, none⟩ = some (.string r.cmd) ∧ w'.cell? ⟨(ad2.add (k * 6)).block, (ad2.add (k * 6)).off + 2, none⟩ = some (.int .i64 r.time) ∧ w'.cell? ⟨(ad2.add (k * 6)).block, (ad2.add (k * 6)).off + 3, none⟩ = some (.int .i64 r.mark) ∧ w'.cell? ⟨(ad2.add (k * 6)).block, (ad2.add (k * 6)).off + 4, none⟩ = some (.slice A5 ri c5) ∧ w'.cell? ⟨(ad2.add (k * 6)).block, (ad2.add (k * 6)).off + 5, none⟩ = some (.slice A6 rf c6)) (ds := []) #[false, false, false, false, false, false, false, false, false, false, false] (by kernel_rfl) rfl rfl ⟨Below.drew (Below.refl _ _), Q0.out, Q1.out, Q2.out, Q3.out, Q4.out, Q5.out, P0.out, P1.out, P2.out, P3.out, P4.out, P5.out⟩ (fun hHeld => ?_)
      refine pure_ (i := 0) (N := some 17) (v := ?_) (a' := ?_) #[true, false, false, false, false, false, false, false, false, false, false] rfl rfl (by kernel_rfl) (fun _ _ _ h => h) (Or.inl ⟨by rfl, ?_⟩) ?_ ?_
      rotate_left
      · intro w'
        go_simp
        with_reducible rfl
      rotate_left
      · simp only [Act.put, List.setIfInBounds_toArray, List.set_cons_zero, List.set_cons_succ, i64_w, i32_w]
        rfl
      refine pure_ (i := 1) (N := some 18) (v := ?_) (a' := ?_) #[true, true, false, false, false, false, false, false, false, false, false] rfl rfl (by kernel_rfl) (fun _ _ _ h => h) (Or.inl ⟨by rfl, ?_⟩) ?_ ?_
      rotate_left
      · intro w'
        go_simp
        with_reducible rfl
      rotate_left
      · simp only [Act.put, List.setIfInBounds_toArray, List.set_cons_zero, List.set_cons_succ, i64_w, i32_w]
        rfl
      refine pure_ (i := 2) (N := some 19) (v := ?_) (a' := ?_) #[true, true, true, false, false, false, false, false, false, false, false] rfl rfl (by kernel_rfl) (fun _ _ _ h => h) (Or.inl ⟨by rfl, ?_⟩) ?_ ?_
      rotate_left
      · intro w'
        go_simp
        with_reducible rfl
      rotate_left
      · simp only [Act.put, List.setIfInBounds_toArray, List.set_cons_zero, List.set_cons_succ, i64_w, i32_w]
        rfl
      refine pure_ (i := 5) (N := some 22) (v := ?_) (a' := ?_) #[true, true, true, false, false, true, false, false, false, false, false] rfl rfl (by kernel_rfl) (fun _ _ _ h => h) (Or.inl ⟨by rfl, ?_⟩) ?_ ?_
      rotate_left
      · intro w'
        go_simp
        with_reducible rfl
      rotate_left
      · simp only [Act.put, List.setIfInBounds_toArray, List.set_cons_zero, List.set_cons_succ, i64_w, i32_w]
        rfl
      refine pure_ (i := 6) (N := some 23) (v := ?_) (a' := ?_) #[true, true, true, false, false, true, true, false, false, false, false] rfl rfl (by kernel_rfl) (fun _ _ _ h => h) (Or.inl ⟨by rfl, ?_⟩) ?_ ?_
      rotate_left
      · intro w'
        go_simp
        with_reducible rfl
      rotate_left
      · simp only [Act.put, List.setIfInBounds_toArray, List.set_cons_zero, List.set_cons_succ, i64_w, i32_w]
        rfl
      refine pure_ (i := 7) (N := some 24) (v := ?_) (a' := ?_) #[true, true, true, false, false, true, true, true, false, false, false] rfl rfl (by kernel_rfl) (fun _ _ _ h => h) (Or.inl ⟨by rfl, ?_⟩) ?_ ?_
      rotate_left
      · intro w'
        go_simp
        with_reducible rfl
      rotate_left
      · simp only [Act.put, List.setIfInBounds_toArray, List.set_cons_zero, List.set_cons_succ, i64_w, i32_w]
        rfl
      refine take_ (i := 3) (N := some 20) (v := ?_) (a' := ?_) #[true, true, true, true, false, true, true, true, false, false, false] rfl rfl (by kernel_rfl) (fun _ _ _ h => h) (Or.inl ⟨by rfl, ?_⟩) hHeld ?_ ?_
      rotate_left
      · rintro w' ⟨s0, s1, s2, s3, s4, s5, s6, s7, s8, s9, s10, s11, s12⟩
        go_simp
        with_reducible rfl
      rotate_left
      · simp only [Act.put, List.setIfInBounds_toArray, List.set_cons_zero, List.set_cons_succ, i64_w, i32_w]
        rfl
      refine take_ (i := 8) (N := some 25) (v := ?_) (a' := ?_) #[true, true, true, true, false, true, true, true, true, false, false] rfl rfl (by kernel_rfl) (fun _ _ _ h => h) (Or.inl ⟨by rfl, ?_⟩) hHeld ?_ ?_
      rotate_left
      · rintro w' ⟨s0, s1, s2, s3, s4, s5, s6, s7, s8, s9, s10, s11, s12⟩
        go_simp
        with_reducible rfl
      rotate_left
      · simp only [Act.put, List.setIfInBounds_toArray, List.set_cons_zero, List.set_cons_succ, i64_w, i32_w]
        rfl
      refine one_ (i := 4) (N := some 21) #[true, true, true, true, true, true, true, true, true, false, false] rfl rfl (by kernel_rfl) (by decide) (fun K hK => ?_)
      refine goes_ Try.func21 (by kernel_rfl) rfl #[.agg #[.string r.out, .string r.cmd, .int .i64 r.time, .int .i64 r.mark, .slice A3 ri c3, .slice A4 rf c4]] (by rfl) rfl rfl (by first | (simp only [List.map_toArray, List.map_cons, List.map_nil]; done) | (simp only [List.map_toArray, List.map_cons, List.map_nil]; rfl) | rfl) ?_
      with_reducible refine (told_any _ r _ (RI1.out.below hHeld.1) HSR.out.1 HSR.out.2).mono ?_
      rintro e w5 ⟨vt, rfl, rt, bt⟩
      refine ⟨_, rfl, ?_⟩
      have hb5 := hHeld.1.trans (bt.mono hHeld.1.size)
      have RT := Lib.hid rt
      clear rt bt
      refine hK.out _ _ ⟨hb5, pw_cell_below (hb5) Q0.out, pw_cell_below (hb5) Q1.out, pw_cell_below (hb5) Q2.out, pw_cell_below (hb5) Q3.out, pw_cell_below (hb5) Q4.out, pw_cell_below (hb5) Q5.out, pw_cell_below (hb5) P0.out, pw_cell_below (hb5) P1.out, pw_cell_below (hb5) P2.out, pw_cell_below (hb5) P3.out, pw_cell_below (hb5) P4.out, pw_cell_below (hb5) P5.out⟩ (fun hHeld => ?_)
      clear hK K
      refine norm_ (a' := ?_) ?_ ?_
      rotate_left
      · show Act.put _ (some 21) _ = _
        simp only [Act.put, List.setIfInBounds_toArray, List.set_cons_zero, List.set_cons_succ, i64_w, i32_w]
        rfl
      refine one_ (i := 9) (N := some 26) #[true, true, true, true, true, true, true, true, true, true, false] rfl rfl (by kernel_rfl) (by decide) (fun K hK => ?_)
      refine goes_ Try.func20 (by kernel_rfl) rfl #[vt, .agg #[.string r.out, .string r.cmd, .int .i64 r.time, .int .i64 r.mark, .slice A5 ri c5, .slice A6 rf c6]] (by rfl) rfl rfl (by first | (simp only [List.map_toArray, List.map_cons, List.map_nil]; done) | (simp only [List.map_toArray, List.map_cons, List.map_nil]; rfl) | rfl) ?_
      with_reducible refine (same_true _ _ r _ RT.out (RI2.out.below hHeld.1)).mono ?_
      rintro e w6 ⟨rfl, bs⟩
      refine ⟨_, rfl, ?_⟩
      have hb6 := hHeld.1.trans (bs.mono hHeld.1.size)
      clear bs
      refine hK.out _ _ ⟨hb6, pw_cell_below (hb6) Q0.out, pw_cell_below (hb6) Q1.out, pw_cell_below (hb6) Q2.out, pw_cell_below (hb6) Q3.out, pw_cell_below (hb6) Q4.out, pw_cell_below (hb6) Q5.out, pw_cell_below (hb6) P0.out, pw_cell_below (hb6) P1.out, pw_cell_below (hb6) P2.out, pw_cell_below (hb6) P3.out, pw_cell_below (hb6) P4.out, pw_cell_below (hb6) P5.out⟩ (fun hHeld => ?_)
      clear hK K
      refine norm_ (a' := ?_) ?_ ?_
      rotate_left
      · show Act.put _ (some 26) _ = _
        simp only [Act.put, List.setIfInBounds_toArray, List.set_cons_zero, List.set_cons_succ, i64_w, i32_w]
        rfl
      refine pure_ (i := 10) (N := some 27) (v := ?_) (a' := ?_) #[true, true, true, true, true, true, true, true, true, true, true] rfl rfl (by kernel_rfl) (fun _ _ _ h => h) (Or.inl ⟨by rfl, ?_⟩) ?_ ?_
      rotate_left
      · intro w'
        go_simp
        with_reducible rfl
      rotate_left
      · simp only [Act.put, List.setIfInBounds_toArray, List.set_cons_zero, List.set_cons_succ, i64_w, i32_w]
        rfl
      refine done_ (by kernel_rfl) ?_
      --S2
      have HH := Lib.hid hHeld.1
      clear hHeld
      go_wp2
      go_roundw
      case rel => exact ⟨k + 1, by omega, by go_num, HB.out.trans (HH.out.mono HB.out.size)⟩
      case measure => simp [intOf]; omega
    · have hk2 : k = n := by omega
      go_wp2
      go_ret
      exact ⟨rfl, HB.out⟩
--END WALK
end Go.Proofs.Ytehndlafbbpofaa.Run
