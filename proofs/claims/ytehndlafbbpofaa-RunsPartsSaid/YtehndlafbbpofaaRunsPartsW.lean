/- The law RunsParts returns true (a walk). -/
import Derived.Test.YtehndlafbbpofaaRunPartsPure
namespace Go.Proofs.Ytehndlafbbpofaa.Run
open Go.RowKit Go.Proofs.YtehndlafbbpofaaW.PrintWords Go.Proofs.YtehndlafbbpofaaW.PrintLast Go.Proofs.Ytehndlafbbpofaa.Base Go.Proofs.Ytehndlafbbpofaa.Pack
set_option linter.unusedVariables false
set_option linter.unusedSimpArgs false

--BEGIN WALK
set_option maxRecDepth 100000 in
set_option maxHeartbeats 8000000 in
theorem RunsParts_any (v : Value) (l : List RunV) (at_ : Nat) (w : World) (h : Rz w w v l) (hfl : ∀ r ∈ l, FitR r) (ha : at_ < 256) :
    Calls Try.prog 8 #[v, .int .u8 (at_ : Int)] w fun e w' => e = .returned (.bool true) ∧ Below w.heap.size w w' := by
  obtain ⟨A, c, rfl, hc, hm⟩ := h.len
  have RL := Lib.hid h
  have HFL := Lib.hid hfl
  clear h hfl
  obtain ⟨n, hn⟩ : ∃ n, n = l.length := ⟨_, rfl⟩
  rw [← hn] at hc hm RL
  rw [← hn]
  have HN := Lib.hid hn
  clear hn
  go_enter Try.func8, Try.ntmps8
  go_wp2_with fail
  refine (all_any _ l _ RL.out HFL.out).mono ?_
  rintro e Wc ⟨he, hb1⟩
  have HBc := Lib.hid hb1
  have RL3 := Lib.hid (RL.out.both hb1)
  clear hb1 RL
  rcases he with ⟨rfl, hl60, hL⟩ | rfl
  case inr =>
    go_wp2
    go_ret
    exact ⟨rfl, HBc.out⟩
  have HLL := Lib.hid hL
  clear hL
  have hn60 : n ≤ 60 := by rw [HN.out]; exact hl60
  clear hl60
  obtain ⟨k0, hk0, hkl⟩ : ∃ k0 : Nat, (at_ : Int) % ((n : Int) + 1) = (k0 : Int) ∧ k0 ≤ n := ⟨at_ % (n + 1), by rw [Int.natCast_emod, Int.natCast_add]; rfl, Nat.le_of_lt_succ (Nat.mod_lt at_ (Nat.succ_pos n))⟩
  go_wp2
  rw [hk0]
  clear hk0
  --S1
  go_loopw [6, 7] (fun sx i wr => ∃ k : Nat, k ≤ n ∧ i = .int .i64 k ∧ Hid (kown.R 33 wr Wc.heap.size (fun _ => True) sx (l.take k)) ∧ Hid (Below Wc.heap.size Wc wr)) (fun _ i _ => n - (intOf i).toNat)
  case atStart => exact ⟨0, by omega, rfl, by rw [List.take_zero]; exact Kd.R_nil _ _ _ _ _, Below.refl _ _⟩
  case round =>
    obtain ⟨k, hk, rfl, HX, HB⟩ := hrel
    by_cases l1 : k < n
    · have hkl : k < l.length := by rw [← HN.out]; exact l1
      have hC0 := rz_c RL3.out
      obtain ⟨ad1, vi1, vf1, e1, a1, hI1, hF1⟩ := c_at6 hC0 k hkl
      subst e1
      have hr0 : l.getD k zv ∈ l := by rw [List.getD_eq_getElem?_getD, List.getElem?_eq_getElem hkl]; exact List.getElem_mem hkl
      have HLR := Lib.hid (HLL.out _ hr0)
      have HTK : Hid (l.take (k + 1) = l.take k ++ [l.getD k zv]) := by
        show _ = _
        rw [List.take_add_one, List.getElem?_eq_getElem hkl, List.getD_eq_getElem?_getD, List.getElem?_eq_getElem hkl]; rfl
      have B1 := a1.below HB.out
      have HI1 := Lib.hid (And.intro (hI1.below HB.out) (hF1.below HB.out))
      generalize l.getD k zv = r at B1 HI1 HLR HTK
      clear a1 hI1 hF1 hr0 hC0
      obtain ⟨A3, c3, rfl, _, _⟩ := HI1.out.1.len
      obtain ⟨A4, c4, rfl, _, _⟩ := HI1.out.2.len
      obtain ⟨ri, hri⟩ : ∃ ri, ri = r.ins.length := ⟨_, rfl⟩
      obtain ⟨rf, hrf⟩ : ∃ rf, rf = r.found.length := ⟨_, rfl⟩
      rw [← hri, ← hrf] at B1 HI1
      have HRI : Hid (RunIs wr (.agg #[.string r.out, .string r.cmd, .int .i64 r.time, .int .i64 r.mark, .slice A3 ri c3, .slice A4 rf c4]) r) := ⟨_, _, rfl, HI1.out.1, HI1.out.2⟩
      clear hri hrf HI1
      obtain ⟨q0, q1, q2, q3, q4, q5⟩ := B1
      go_wp2_with fail
      --S4
      refine (of_any_own _ r _ HRI.out (by have := HLR.out.ins; omega) (by have := HLR.out.found; omega)).mono ?_
      rintro e w5 ⟨v5, rfl, ro, bo⟩
      obtain ⟨vi5, vf5, ev5, _, _⟩ := id ro
      subst ev5
      have HM5 := Lib.hid (kown.M_lower HB.out.size (ro_m ro))
      have HB5 := Lib.hid (HB.out.trans (bo.mono HB.out.size))
      have HX5 := Lib.hid (Kd.R_below HX.out bo)
      have HOK : Hid (∀ k', (wr.heap.size ≤ k' ∧ k' < w5.heap.size) → some k' ≠ Value.ownBlock _) := fun k' hk' he' => by
        obtain ⟨inner, ho⟩ := Kd.R_own HX.out
        have := own_lt ho k' he'.symm
        omega
      have hlk : (l.take k).length = k := by rw [List.length_take]; omega
      have HLK := Lib.hid hlk
      clear ro bo q0 q1 q2 q3 q4 q5 hlk hkl
      go_wp2_with (at_builtin; refine Held.of ?_)
      --S5
      refine Held.out (Kd.R_append kown (w0 := Wc) Wc.heap.size rfl (.tmp 27) (.tmp 33) 54 33 (.agg #[.string ⟨#[]⟩, .string ⟨#[]⟩, .int .i64 0, .int .i64 0, .slice none 0 0, .slice none 0 0]) 96 rfl Try.underlying54 (by kernel_rfl) rfl (by show 0 < 6; decide) (by decide) _ (l.take k) r [.string r.out, .string r.cmd, .int .i64 r.time, .int .i64 r.mark, vi5, vf5] (fun _ => True) (fun k' => wr.heap.size ≤ k' ∧ k' < w5.heap.size) rfl rfl HM5.out (fun k' hk' => ⟨trivial, HOK.out k' hk'⟩) (fun _ _ => trivial) HX5.out HB5.out HB5.out.size (by rw [HLK.out]; omega) ?_)
      intro v6 w6 r6 b6 _ _
      rw [← HTK.out] at r6
      have HX6 := Lib.hid r6
      have HB6 := Lib.hid b6
      clear r6 b6 HM5 HX5 HOK HX
      go_wp2
      go_roundw
      case rel => exact ⟨k + 1, by omega, by go_num, HX6.out, HB6.out⟩
      case measure => simp [intOf]; omega
    · have hk2 : k = n := by omega
      have HXe := HX.out
      rw [hk2, HN.out, List.take_length] at HXe
      have RX := Lib.hid (own_rz HXe)
      obtain ⟨A7, c7, e7, hc7, _⟩ := RX.out.len
      subst e7
      rw [← HN.out] at RX hc7
      rw [← HN.out]
      have HBw := Lib.hid (HBc.out.trans (HB.out.mono HBc.out.size))
      have hl60 : l.length ≤ 60 := by rw [← HN.out]; exact hn60
      have HL60 := Lib.hid hl60
      clear hk2 HXe HX HB hl60 RL3 HBc
      obtain ⟨wz, hwz⟩ : ∃ wz, wz = wr := ⟨_, rfl⟩
      subst hwz
      go_wp2_with fail
      --S2
      refine (fold_any _ l _ wz RX.out (Below.refl _ _) (by have := HL60.out; omega) HLL.out).mono ?_
      rintro e w8 ⟨v8, m8, rfl, rr, bb, bb2⟩
      have HB8 := Lib.hid (bb2.trans (bb.mono bb2.size))
      have HM8 := Lib.hid bb
      have R8 := Lib.hid (krun_rz rr)
      obtain ⟨A8, c8, e8, hc8, hm8⟩ := R8.out.len
      subst e8
      obtain ⟨m, hmm⟩ : ∃ m, m = (foldR l).length := ⟨_, rfl⟩
      rw [← hmm] at R8 hc8 hm8
      rw [← hmm]
      have HMM := Lib.hid hmm
      have hm60 : m ≤ 60 := by rw [hmm]; exact Nat.le_trans (foldR_len l) HL60.out
      clear rr bb bb2 hmm
      have kc := cut_cap_prun A7 n c7 k0 (by omega)
      have kd := cut_from_prun A7 n c7 k0 hkl
      have HTK := Lib.hid (RX.out.take HN.out hkl)
      have HDR : Hid ((krun wz).C wz (if c7 = k0 then A7 else A7.map (·.add (k0 * 6))) (n - k0) (l.drop k0)) := by
        have h := RX.out.drop HN.out hkl
        rw [show (l.drop k0).length = n - k0 by rw [List.length_drop, ← HN.out]] at h
        exact h
      obtain ⟨Ad, hAd⟩ : ∃ Ad, Ad = (if c7 = k0 then A7 else A7.map (·.add (k0 * 6))) := ⟨_, rfl⟩
      rw [← hAd] at HDR
      simp only [← hAd] at kd
      clear hAd
      have HLT : Hid (∀ r ∈ l.take k0, LightR r) := fun r hr => HLL.out r (List.mem_of_mem_take hr)
      have HTL : Hid ((l.take k0).length ≤ 1000) := by show (l.take k0).length ≤ 1000; rw [List.length_take]; have := HL60.out; omega
      go_wp2
      --S3
      refine start_ (n := 9) (S := fun w' => Below w8.heap.size w8 w') (ds := []) #[false, false, false, false, false, false, false, false, false] (by kernel_rfl) rfl rfl (Below.drew (Below.refl _ _)) (fun hHeld => ?_)
      refine pure_ (i := 0) (N := some 37) (v := ?_) (a' := ?_) #[true, false, false, false, false, false, false, false, false] rfl rfl (by kernel_rfl) (fun _ _ _ h => h) (Or.inl ⟨by rfl, ?_⟩) ?_ ?_
      rotate_left
      · intro w'
        go_simp
        with_reducible rfl
      rotate_left
      · simp only [Act.put, List.setIfInBounds_toArray, List.set_cons_zero, List.set_cons_succ, i64_w, i32_w]
        rfl
      refine pure_ (i := 1) (N := some 38) (v := ?_) (a' := ?_) #[true, true, false, false, false, false, false, false, false] rfl rfl (by kernel_rfl) (fun _ _ _ h => h) (Or.inl ⟨by rfl, ?_⟩) ?_ ?_
      rotate_left
      · intro w'
        go_simp
        with_reducible rfl
      rotate_left
      · simp only [Act.put, List.setIfInBounds_toArray, List.set_cons_zero, List.set_cons_succ, i64_w, i32_w]
        rfl
      refine pure_ (i := 2) (N := some 39) (v := ?_) (a' := ?_) #[true, true, true, false, false, false, false, false, false] rfl rfl (by kernel_rfl) (fun _ _ _ h => h) (Or.inl ⟨by rfl, ?_⟩) ?_ ?_
      rotate_left
      · intro w'
        go_simp
        with_reducible rfl
      rotate_left
      · simp only [Act.put, List.setIfInBounds_toArray, List.set_cons_zero, List.set_cons_succ, i64_w, i32_w]
        rfl
      refine pure_ (i := 4) (N := some 41) (v := ?_) (a' := ?_) #[true, true, true, false, true, false, false, false, false] rfl rfl (by kernel_rfl) (fun _ _ _ h => h) (Or.inl ⟨by rfl, ?_⟩) ?_ ?_
      rotate_left
      · intro w'
        go_simp
        with_reducible rfl
      rotate_left
      · simp only [Act.put, List.setIfInBounds_toArray, List.set_cons_zero, List.set_cons_succ, i64_w, i32_w]
        rfl
      refine pure_ (i := 5) (N := some 42) (v := ?_) (a' := ?_) #[true, true, true, false, true, true, false, false, false] rfl rfl (by kernel_rfl) (fun _ _ _ h => h) (Or.inl ⟨by rfl, ?_⟩) ?_ ?_
      rotate_left
      · intro w'
        go_simp
        with_reducible rfl
      rotate_left
      · simp only [Act.put, List.setIfInBounds_toArray, List.set_cons_zero, List.set_cons_succ, i64_w, i32_w]
        rfl
      refine pure_ (i := 6) (N := some 43) (v := ?_) (a' := ?_) #[true, true, true, false, true, true, true, false, false] rfl rfl (by kernel_rfl) (fun _ _ _ h => h) (Or.inl ⟨by rfl, ?_⟩) ?_ ?_
      rotate_left
      · intro w'
        go_simp
        with_reducible rfl
      rotate_left
      · simp only [Act.put, List.setIfInBounds_toArray, List.set_cons_zero, List.set_cons_succ, i64_w, i32_w]
        rfl
      refine one_ (i := 3) (N := some 40) #[true, true, true, true, true, true, true, false, false] rfl rfl (by kernel_rfl) (by decide) (fun K hK => ?_)
      refine goes_ Try.func24 (by kernel_rfl) rfl #[.slice A7 k0 c7] (by rfl) rfl rfl (by first | (simp only [List.map_toArray, List.map_cons, List.map_nil]; done) | (simp only [List.map_toArray, List.map_cons, List.map_nil]; rfl) | rfl) ?_
      with_reducible refine (fold_any _ (l.take k0) _ wz (HTK.out.below (HB8.out.trans (hHeld.mono HB8.out.size))) (HB8.out.trans (hHeld.mono HB8.out.size)) HTL.out HLT.out).mono ?_
      rintro e w9 ⟨v9, m9, rfl, rr, bb, bb2⟩
      refine ⟨_, rfl, ?_⟩
      have HR9 := Lib.hid rr
      have HM9 := Lib.hid bb
      have HB9 := Lib.hid ((HB8.out.trans (hHeld.mono HB8.out.size)).trans (bb2.mono (HB8.out.trans (hHeld.mono HB8.out.size)).size))
      have hb9 := hHeld.trans ((bb2.trans (bb.mono bb2.size)).mono hHeld.size)
      have HS9 : Hid (w8.heap.size ≤ m9.heap.size) := Nat.le_trans hHeld.size bb2.size
      obtain ⟨A9, c9, e9⟩ := Kd.R_slice rr
      obtain ⟨n9, hn9⟩ : ∃ n9, n9 = (foldR (l.take k0)).length := ⟨_, rfl⟩
      rw [← hn9] at e9
      subst e9
      have hf9 : n9 ≤ 60 := by rw [hn9]; have h1 := foldR_len (l.take k0); have h2 := HL60.out; rw [List.length_take] at h1; omega
      clear rr bb bb2
      refine hK.out _ _ (hb9) (fun hHeld => ?_)
      clear hK K
      refine norm_ (a' := ?_) ?_ ?_
      rotate_left
      · show Act.put _ (some 40) _ = _
        simp only [Act.put, List.setIfInBounds_toArray, List.set_cons_zero, List.set_cons_succ, i64_w, i32_w]
        rfl
      refine one_ (i := 7) (N := some 44) #[true, true, true, true, true, true, true, true, false] rfl rfl (by kernel_rfl) (by decide) (fun K hK => ?_)
      refine Kd.R_append_rows_step (krun m9) (Rr := (krun m9).K w9) (w0 := m9) m9.heap.size rfl (.tmp 40) (.tmp 43) 54 33 (.agg #[.string ⟨#[]⟩, .string ⟨#[]⟩, .int .i64 0, .int .i64 0, .slice none 0 0, .slice none 0 0]) 96 rfl Try.underlying54 (by kernel_rfl) rfl (by show 0 < 6; decide) (by decide) (.slice A9 n9 c9) (foldR (l.take k0)) (l.drop k0) Ad (n - k0) (c7 - k0) (fun _ => True) (fun _ => False) rfl rfl HR9.out ?_ (fun _ _ h => h) (fun _ hk => hk.elim) (fun _ _ => trivial) HM9.out HM9.out.size (by rw [← hn9]; omega) ?_
      · exact ReadsRow.imp_ HDR.out (HB9.out.trans (HM9.out.mono HB9.out.size)) (fun _ _ ⟨vi, vf, e, h1, h2⟩ => ⟨vi, vf, e, h1.below HB9.out, h2.below HB9.out⟩)
      intro vb wb rb bb2 gb _
      have hb5 : Below w8.heap.size w8 wb := hHeld.grown gb hHeld.size (fun k' hk' => by obtain ⟨inner, ho⟩ := Kd.R_own HR9.out; exact Nat.le_trans HS9.out (own_base ho k' hk'))
      have HRb := Lib.hid rb
      have HMb := Lib.hid bb2
      clear rb bb2 gb
      refine hK.out _ _ (hb5) (fun hHeld => ?_)
      clear hK K
      refine norm_ (a' := ?_) ?_ ?_
      rotate_left
      · show Act.put _ (some 44) _ = _
        simp only [Act.put, List.setIfInBounds_toArray, List.set_cons_zero, List.set_cons_succ, i64_w, i32_w]
        rfl
      refine pure_ (i := 8) (N := some 9) (v := ?_) (a' := ?_) #[true, true, true, true, true, true, true, true, true] rfl rfl (by kernel_rfl) (fun _ _ _ h => h) (Or.inl ⟨by rfl, ?_⟩) ?_ ?_
      rotate_left
      · intro w'
        go_simp
        with_reducible rfl
      rotate_left
      · simp only [Act.put, List.setIfInBounds_toArray, List.set_cons_zero, List.set_cons_succ, i64_w, i32_w]
        rfl
      refine done_ (by kernel_rfl) ?_
      --S4
      have HRB := Lib.hid (krun_rz HRb.out)
      have HBb := Lib.hid (HB8.out.trans (hHeld.mono HB8.out.size))
      have R8b := Lib.hid (R8.out.below hHeld)
      have HM8b := Lib.hid (HM8.out.trans (hHeld.mono HM8.out.size))
      have HLP : Hid ((foldR (l.take k0) ++ l.drop k0).length ≤ 1000) := by
        show (foldR (l.take k0) ++ l.drop k0).length ≤ 1000
        have h1 := foldR_len (l.take k0)
        have h2 := HL60.out
        rw [List.length_append]
        rw [List.length_take] at h1
        rw [List.length_drop]
        omega
      have HLD : Hid (∀ r ∈ foldR (l.take k0) ++ l.drop k0, LightR r) := fun r hr => by
        rcases List.mem_append.1 hr with h | h
        · exact HLT.out r (foldR_sub h)
        · exact HLL.out r (List.mem_of_mem_drop h)
      clear hHeld HRb HR9 HB9 HM9 HS9 hn9 hf9 kc kd HDR HTK R8 HM8
      go_wp2_with fail
      refine (fold_any _ _ _ m9 HRB.out HMb.out HLP.out HLD.out).mono ?_
      rintro e w10 ⟨v10, m10, rfl, rr, bb, bb2⟩
      have hbb := bb2.trans (bb.mono bb2.size)
      have HB10 := Lib.hid (HBb.out.trans (hbb.mono HBb.out.size))
      have HM10 := Lib.hid bb
      rw [fold_parts] at rr
      have R10 := Lib.hid (krun_rz rr)
      have R8c := Lib.hid (R8b.out.below hbb)
      have HM8c := Lib.hid (HM8b.out.trans (hbb.mono HM8b.out.size))
      obtain ⟨A10, c10, e10, hc10, _⟩ := R10.out.len
      rw [← HMM.out] at e10 hc10
      subst e10
      have HBx := Lib.hid (HBw.out.trans (HB10.out.mono HBw.out.size))
      have hne : ((m : Int) != (m : Int)) = false := by simp
      clear rr bb bb2 hbb R8b HM8b HRB HMb
      obtain ⟨wy, hwy⟩ : ∃ wy, wy = w10 := ⟨_, rfl⟩
      subst hwy
      go_wp2
      --S5
      go_loopw [11] (fun i wr => ∃ j : Nat, j ≤ m ∧ i = .int .i64 j ∧ Hid (Below wy.heap.size wy wr)) (fun i _ => m - (intOf i).toNat)
      case atStart => exact ⟨0, by omega, rfl, Below.refl _ _⟩
      case round =>
        obtain ⟨j, hj, rfl, HB⟩ := hrel
        by_cases l2 : j < m
        · have hjl : j < (foldR l).length := by rw [← HMM.out]; exact l2
          obtain ⟨ad1, vi1, vf1, e1, a1, hI1, hF1⟩ := c_at6 (rz_c R10.out) j hjl
          obtain ⟨ad2, vi2, vf2, e2, a2, hI2, hF2⟩ := c_at6 (rz_c R8c.out) j hjl
          subst e1
          subst e2
          have B1 := a1.below HB.out
          have B2 := a2.below HB.out
          have HI1 := Lib.hid (And.intro ((hI1.below HM10.out).below HB.out) ((hF1.below HM10.out).below HB.out))
          have HI2 := Lib.hid (And.intro ((hI2.below HM8c.out).below HB.out) ((hF2.below HM8c.out).below HB.out))
          obtain ⟨r, hr⟩ : ∃ r, r = (foldR l).getD j zv := ⟨_, rfl⟩
          rw [← hr] at B1 B2 HI1 HI2
          have HRE := Lib.hid hr
          clear a1 a2 hI1 hI2 hF1 hF2 hr
          obtain ⟨A3, c3, rfl, _, _⟩ := HI1.out.1.len
          obtain ⟨A4, c4, rfl, _, _⟩ := HI1.out.2.len
          obtain ⟨A5, c5, rfl, _, _⟩ := HI2.out.1.len
          obtain ⟨A6, c6, rfl, _, _⟩ := HI2.out.2.len
          obtain ⟨ri, hri⟩ : ∃ ri, ri = r.ins.length := ⟨_, rfl⟩
          obtain ⟨rf, hrf⟩ : ∃ rf, rf = r.found.length := ⟨_, rfl⟩
          rw [← hri, ← hrf] at B1 B2 HI1 HI2
          clear hri hrf
          have RI1 : Hid (RunIs wr (.agg #[.string r.out, .string r.cmd, .int .i64 r.time, .int .i64 r.mark, .slice A3 ri c3, .slice A4 rf c4]) r) := ⟨_, _, rfl, HI1.out.1, HI1.out.2⟩
          have RI2 : Hid (RunIs wr (.agg #[.string r.out, .string r.cmd, .int .i64 r.time, .int .i64 r.mark, .slice A5 ri c5, .slice A6 rf c6]) r) := ⟨_, _, rfl, HI2.out.1, HI2.out.2⟩
          obtain ⟨q0, q1, q2, q3, q4, q5⟩ := B1
          obtain ⟨p0, p1, p2, p3, p4, p5⟩ := B2
          have Q0 : Hid (wr.cell? (ad1.add (j * 6)) = some (.string r.out)) := q0
          have Q1 : Hid (wr.cell? ⟨(ad1.add (j * 6)).block, (ad1.add (j * 6)).off + 1, none⟩ = some (.string r.cmd)) := q1
          have Q2 : Hid (wr.cell? ⟨(ad1.add (j * 6)).block, (ad1.add (j * 6)).off + 2, none⟩ = some (.int .i64 r.time)) := q2
          have Q3 : Hid (wr.cell? ⟨(ad1.add (j * 6)).block, (ad1.add (j * 6)).off + 3, none⟩ = some (.int .i64 r.mark)) := q3
          have Q4 : Hid (wr.cell? ⟨(ad1.add (j * 6)).block, (ad1.add (j * 6)).off + 4, none⟩ = some (.slice A3 ri c3)) := q4
          have Q5 : Hid (wr.cell? ⟨(ad1.add (j * 6)).block, (ad1.add (j * 6)).off + 5, none⟩ = some (.slice A4 rf c4)) := q5
          have P0 : Hid (wr.cell? (ad2.add (j * 6)) = some (.string r.out)) := p0
          have P1 : Hid (wr.cell? ⟨(ad2.add (j * 6)).block, (ad2.add (j * 6)).off + 1, none⟩ = some (.string r.cmd)) := p1
          have P2 : Hid (wr.cell? ⟨(ad2.add (j * 6)).block, (ad2.add (j * 6)).off + 2, none⟩ = some (.int .i64 r.time)) := p2
          have P3 : Hid (wr.cell? ⟨(ad2.add (j * 6)).block, (ad2.add (j * 6)).off + 3, none⟩ = some (.int .i64 r.mark)) := p3
          have P4 : Hid (wr.cell? ⟨(ad2.add (j * 6)).block, (ad2.add (j * 6)).off + 4, none⟩ = some (.slice A5 ri c5)) := p4
          have P5 : Hid (wr.cell? ⟨(ad2.add (j * 6)).block, (ad2.add (j * 6)).off + 5, none⟩ = some (.slice A6 rf c6)) := p5
          clear q0 q1 q2 q3 q4 q5 p0 p1 p2 p3 p4 p5
          rcases Nat.eq_zero_or_pos j with hj0 | hj0
          --S6
          · as_aux_lemma =>
              have hg : decide ((0 : Int) < (j : Int)) = false := decide_eq_false (by omega)
              have hg2 : decide (0 < j) = false := decide_eq_false (by omega)
              clear hj0
              go_wp2
              refine start_ (n := 28) (S := fun w' => Below wr.heap.size wr w' ∧ w'.cell? (ad1.add (j * 6)) = some (.string r.out) ∧ w'.cell? ⟨(ad1.add (j * 6)).block, (ad1.add (j * 6)).off + 1, none⟩ = some (.string r.cmd) ∧ w'.cell? ⟨(ad1.add (j * 6)).block, (ad1.add (j * 6)).off + 2, none⟩ = some (.int .i64 r.time) ∧ w'.cell? ⟨(ad1.add (j * 6)).block, (ad1.add (j * 6)).off + 3, none⟩ = some (.int .i64 r.mark) ∧ w'.cell? ⟨(ad1.add (j * 6)).block, (ad1.add (j * 6)).off + 4, none⟩ = some (.slice A3 ri c3) ∧ w'.cell? ⟨(ad1.add (j * 6)).block, (ad1.add (j * 6)).off + 5, none⟩ = some (.slice A4 rf c4) ∧ w'.cell? (ad2.add (j * 6)) = some (.string r.out) ∧ w'.cell? ⟨(ad2.add (j * 6)).block, (ad2.add (j * 6)).off + 1, none⟩ = some (.string r.cmd) ∧ w'.cell? ⟨(ad2.add (j * 6)).block, (ad2.add (j * 6)).off + 2, none⟩ = some (.int .i64 r.time) ∧ w'.cell? ⟨(ad2.add (j * 6)).block, (ad2.add (j * 6)).off + 3, none⟩ = some (.int .i64 r.mark) ∧ w'.cell? ⟨(ad2.add (j * 6)).block, (ad2.add (j * 6)).off + 4, none⟩ = some (.slice A5 ri c5) ∧ w'.cell? ⟨(ad2.add (j * 6)).block, (ad2.add (j * 6)).off + 5, none⟩ = some (.slice A6 rf c6)) (ds := []) #[false, false, false, false, false, false, false, false, false, false, false, false, false, false, false, false, false, false, false, false, false, false, false, false, false, false, false, false] (by kernel_rfl) rfl rfl ⟨Below.drew (Below.refl _ _), Q0.out, Q1.out, Q2.out, Q3.out, Q4.out, Q5.out, P0.out, P1.out, P2.out, P3.out, P4.out, P5.out⟩ (fun hHeld => ?_)
              refine pure_ (i := 0) (N := some 58) (v := ?_) (a' := ?_) #[true, false, false, false, false, false, false, false, false, false, false, false, false, false, false, false, false, false, false, false, false, false, false, false, false, false, false, false] rfl rfl (by kernel_rfl) (fun _ _ _ h => h) (Or.inl ⟨by rfl, ?_⟩) ?_ ?_
              rotate_left
              · intro w'
                go_simp
                with_reducible rfl
              rotate_left
              · simp only [Act.put, List.setIfInBounds_toArray, List.set_cons_zero, List.set_cons_succ, i64_w, i32_w]
                rfl
              refine pure_ (i := 1) (N := some 59) (v := ?_) (a' := ?_) #[true, true, false, false, false, false, false, false, false, false, false, false, false, false, false, false, false, false, false, false, false, false, false, false, false, false, false, false] rfl rfl (by kernel_rfl) (fun _ _ _ h => h) (Or.inl ⟨by rfl, ?_⟩) ?_ ?_
              rotate_left
              · intro w'
                go_simp
                with_reducible rfl
              rotate_left
              · simp only [Act.put, List.setIfInBounds_toArray, List.set_cons_zero, List.set_cons_succ, i64_w, i32_w]
                rfl
              refine pure_ (i := 2) (N := some 60) (v := ?_) (a' := ?_) #[true, true, true, false, false, false, false, false, false, false, false, false, false, false, false, false, false, false, false, false, false, false, false, false, false, false, false, false] rfl rfl (by kernel_rfl) (fun _ _ _ h => h) (Or.inl ⟨by rfl, ?_⟩) ?_ ?_
              rotate_left
              · intro w'
                go_simp
                with_reducible rfl
              rotate_left
              · simp only [Act.put, List.setIfInBounds_toArray, List.set_cons_zero, List.set_cons_succ, i64_w, i32_w]
                rfl
              refine pure_ (i := 4) (N := some 62) (v := ?_) (a' := ?_) #[true, true, true, false, true, false, false, false, false, false, false, false, false, false, false, false, false, false, false, false, false, false, false, false, false, false, false, false] rfl rfl (by kernel_rfl) (fun _ _ _ h => h) (Or.inl ⟨by rfl, ?_⟩) ?_ ?_
              rotate_left
              · intro w'
                go_simp
                with_reducible rfl
              rotate_left
              · simp only [Act.put, List.setIfInBounds_toArray, List.set_cons_zero, List.set_cons_succ, i64_w, i32_w]
                rfl
              refine pure_ (i := 5) (N := some 63) (v := ?_) (a' := ?_) #[true, true, true, false, true, true, false, false, false, false, false, false, false, false, false, false, false, false, false, false, false, false, false, false, false, false, false, false] rfl rfl (by kernel_rfl) (fun _ _ _ h => h) (Or.inl ⟨by rfl, ?_⟩) ?_ ?_
              rotate_left
              · intro w'
                go_simp
                with_reducible rfl
              rotate_left
              · simp only [Act.put, List.setIfInBounds_toArray, List.set_cons_zero, List.set_cons_succ, i64_w, i32_w]
                rfl
              refine pure_ (i := 6) (N := some 64) (v := ?_) (a' := ?_) #[true, true, true, false, true, true, true, false, false, false, false, false, false, false, false, false, false, false, false, false, false, false, false, false, false, false, false, false] rfl rfl (by kernel_rfl) (fun _ _ _ h => h) (Or.inl ⟨by rfl, ?_⟩) ?_ ?_
              rotate_left
              · intro w'
                go_simp
                with_reducible rfl
              rotate_left
              · simp only [Act.put, List.setIfInBounds_toArray, List.set_cons_zero, List.set_cons_succ, i64_w, i32_w]
                rfl
              refine take_ (i := 3) (N := some 61) (v := ?_) (a' := ?_) #[true, true, true, true, true, true, true, false, false, false, false, false, false, false, false, false, false, false, false, false, false, false, false, false, false, false, false, false] rfl rfl (by kernel_rfl) (fun _ _ _ h => h) (Or.inl ⟨by rfl, ?_⟩) hHeld ?_ ?_
              rotate_left
              · rintro w' ⟨s0, s1, s2, s3, s4, s5, s6, s7, s8, s9, s10, s11, s12⟩
                go_simp
                with_reducible rfl
              rotate_left
              · simp only [Act.put, List.setIfInBounds_toArray, List.set_cons_zero, List.set_cons_succ, i64_w, i32_w]
                rfl
              refine take_ (i := 7) (N := some 65) (v := ?_) (a' := ?_) #[true, true, true, true, true, true, true, true, false, false, false, false, false, false, false, false, false, false, false, false, false, false, false, false, false, false, false, false] rfl rfl (by kernel_rfl) (fun _ _ _ h => h) (Or.inl ⟨by rfl, ?_⟩) hHeld ?_ ?_
              rotate_left
              · rintro w' ⟨s0, s1, s2, s3, s4, s5, s6, s7, s8, s9, s10, s11, s12⟩
                go_simp
                with_reducible rfl
              rotate_left
              · simp only [Act.put, List.setIfInBounds_toArray, List.set_cons_zero, List.set_cons_succ, i64_w, i32_w]
                rfl
              refine one_ (i := 8) (N := some 66) #[true, true, true, true, true, true, true, true, true, false, false, false, false, false, false, false, false, false, false, false, false, false, false, false, false, false, false, false] rfl rfl (by kernel_rfl) (by decide) (fun K hK => ?_)
              refine goes_ Try.func26 (by kernel_rfl) rfl #[.agg #[.string r.out, .string r.cmd, .int .i64 r.time, .int .i64 r.mark, .slice A3 ri c3, .slice A4 rf c4], .agg #[.string r.out, .string r.cmd, .int .i64 r.time, .int .i64 r.mark, .slice A5 ri c5, .slice A6 rf c6]] (by rfl) rfl rfl (by first | (simp only [List.map_toArray, List.map_cons, List.map_nil]; done) | (simp only [List.map_toArray, List.map_cons, List.map_nil]; rfl) | rfl) ?_
              with_reducible refine (psame_true _ _ r _ (RI1.out.below hHeld.1) (RI2.out.below hHeld.1)).mono ?_
              rintro e w6 ⟨rfl, bs⟩
              refine ⟨_, rfl, ?_⟩
              have hb6 := hHeld.1.trans (bs.mono hHeld.1.size)
              clear bs
              refine hK.out _ _ ⟨hb6, pw_cell_below (hb6) Q0.out, pw_cell_below (hb6) Q1.out, pw_cell_below (hb6) Q2.out, pw_cell_below (hb6) Q3.out, pw_cell_below (hb6) Q4.out, pw_cell_below (hb6) Q5.out, pw_cell_below (hb6) P0.out, pw_cell_below (hb6) P1.out, pw_cell_below (hb6) P2.out, pw_cell_below (hb6) P3.out, pw_cell_below (hb6) P4.out, pw_cell_below (hb6) P5.out⟩ (fun hHeld => ?_)
              clear hK K
              refine norm_ (a' := ?_) ?_ ?_
              rotate_left
              · show Act.put _ (some 66) _ = _
                simp only [Act.put, List.setIfInBounds_toArray, List.set_cons_zero, List.set_cons_succ, i64_w, i32_w]
                rfl
              refine pure_ (i := 9) (N := some 67) (v := ?_) (a' := ?_) #[true, true, true, true, true, true, true, true, true, true, false, false, false, false, false, false, false, false, false, false, false, false, false, false, false, false, false, false] rfl rfl (by kernel_rfl) (fun _ _ _ h => h) (Or.inl ⟨by rfl, ?_⟩) ?_ ?_
              rotate_left
              · intro w'
                go_simp
                with_reducible rfl
              rotate_left
              · simp only [Act.put, List.setIfInBounds_toArray, List.set_cons_zero, List.set_cons_succ, i64_w, i32_w]
                rfl
              refine pure_ (i := 10) (N := some 68) (v := ?_) (a' := ?_) #[true, true, true, true, true, true, true, true, true, true, true, false, false, false, false, false, false, false, false, false, false, false, false, false, false, false, false, false] rfl rfl (by kernel_rfl) (fun _ _ _ h => h) (Or.inl ⟨by rfl, ?_⟩) ?_ ?_
              rotate_left
              · intro w'
                go_simp
                with_reducible rfl
              rotate_left
              · simp only [Act.put, List.setIfInBounds_toArray, List.set_cons_zero, List.set_cons_succ, i64_w, i32_w]
                rfl
              refine pure_ (i := 11) (N := some 69) (v := ?_) (a' := ?_) #[true, true, true, true, true, true, true, true, true, true, true, true, false, false, false, false, false, false, false, false, false, false, false, false, false, false, false, false] rfl rfl (by kernel_rfl) (fun _ _ _ h => h) (Or.inl ⟨by rfl, ?_⟩) ?_ ?_
              rotate_left
              · intro w'
                go_simp
                with_reducible rfl
              rotate_left
              · simp only [Act.put, List.setIfInBounds_toArray, List.set_cons_zero, List.set_cons_succ, i64_w, i32_w]
                rfl
              refine pure_ (i := 12) (N := some 70) (v := ?_) (a' := ?_) #[true, true, true, true, true, true, true, true, true, true, true, true, true, false, false, false, false, false, false, false, false, false, false, false, false, false, false, false] rfl rfl (by kernel_rfl) (fun _ _ _ h => h) (Or.inl ⟨by rfl, ?_⟩) ?_ ?_
              rotate_left
              · intro w'
                go_simp
                with_reducible rfl
              rotate_left
              · simp only [Act.put, List.setIfInBounds_toArray, List.set_cons_zero, List.set_cons_succ, i64_w, i32_w]
                rfl
              refine pure_ (i := 13) (N := some 71) (v := ?_) (a' := ?_) #[true, true, true, true, true, true, true, true, true, true, true, true, true, true, false, false, false, false, false, false, false, false, false, false, false, false, false, false] rfl rfl (by kernel_rfl) (fun _ _ _ h => h) (Or.inl ⟨by rfl, ?_⟩) ?_ ?_
              rotate_left
              · intro w'
                go_simp
                with_reducible rfl
              rotate_left
              · simp only [Act.put, List.setIfInBounds_toArray, List.set_cons_zero, List.set_cons_succ, i64_w, i32_w]
                rfl
              refine pure_ (i := 14) (N := some 72) (v := undef) (a' := ?_) #[true, true, true, true, true, true, true, true, true, true, true, true, true, true, true, false, false, false, false, false, false, false, false, false, false, false, false, false] rfl rfl (by kernel_rfl) (fun _ _ _ h => h) (Or.inr ⟨by rfl, rfl⟩) ?_ ?_
              rotate_left
              · simp only [Act.put, List.setIfInBounds_toArray, List.set_cons_zero, List.set_cons_succ, i64_w, i32_w]
                rfl
              refine pure_ (i := 15) (N := some 73) (v := undef) (a' := ?_) #[true, true, true, true, true, true, true, true, true, true, true, true, true, true, true, true, false, false, false, false, false, false, false, false, false, false, false, false] rfl rfl (by kernel_rfl) (fun _ _ _ h => h) (Or.inr ⟨by rfl, rfl⟩) ?_ ?_
              rotate_left
              · simp only [Act.put, List.setIfInBounds_toArray, List.set_cons_zero, List.set_cons_succ, i64_w, i32_w]
                rfl
              refine pure_ (i := 16) (N := some 74) (v := undef) (a' := ?_) #[true, true, true, true, true, true, true, true, true, true, true, true, true, true, true, true, true, false, false, false, false, false, false, false, false, false, false, false] rfl rfl (by kernel_rfl) (fun _ _ _ h => h) (Or.inr ⟨by rfl, rfl⟩) ?_ ?_
              rotate_left
              · simp only [Act.put, List.setIfInBounds_toArray, List.set_cons_zero, List.set_cons_succ, i64_w, i32_w]
                rfl
              refine pure_ (i := 17) (N := some 75) (v := undef) (a' := ?_) #[true, true, true, true, true, true, true, true, true, true, true, true, true, true, true, true, true, true, false, false, false, false, false, false, false, false, false, false] rfl rfl (by kernel_rfl) (fun _ _ _ h => h) (Or.inr ⟨by rfl, rfl⟩) ?_ ?_
              rotate_left
              · simp only [Act.put, List.setIfInBounds_toArray, List.set_cons_zero, List.set_cons_succ, i64_w, i32_w]
                rfl
              refine pure_ (i := 18) (N := some 76) (v := undef) (a' := ?_) #[true, true, true, true, true, true, true, true, true, true, true, true, true, true, true, true, true, true, true, false, false, false, false, false, false, false, false, false] rfl rfl (by kernel_rfl) (fun _ _ _ h => h) (Or.inr ⟨by rfl, rfl⟩) ?_ ?_
              rotate_left
              · simp only [Act.put, List.setIfInBounds_toArray, List.set_cons_zero, List.set_cons_succ, i64_w, i32_w]
                rfl
              refine pure_ (i := 19) (N := some 77) (v := undef) (a' := ?_) #[true, true, true, true, true, true, true, true, true, true, true, true, true, true, true, true, true, true, true, true, false, false, false, false, false, false, false, false] rfl rfl (by kernel_rfl) (fun _ _ _ h => h) (Or.inr ⟨by rfl, rfl⟩) ?_ ?_
              rotate_left
              · simp only [Act.put, List.setIfInBounds_toArray, List.set_cons_zero, List.set_cons_succ, i64_w, i32_w]
                rfl
              refine pure_ (i := 20) (N := some 78) (v := undef) (a' := ?_) #[true, true, true, true, true, true, true, true, true, true, true, true, true, true, true, true, true, true, true, true, true, false, false, false, false, false, false, false] rfl rfl (by kernel_rfl) (fun _ _ _ h => h) (Or.inr ⟨by rfl, rfl⟩) ?_ ?_
              rotate_left
              · simp only [Act.put, List.setIfInBounds_toArray, List.set_cons_zero, List.set_cons_succ, i64_w, i32_w]
                rfl
              refine pure_ (i := 21) (N := some 79) (v := undef) (a' := ?_) #[true, true, true, true, true, true, true, true, true, true, true, true, true, true, true, true, true, true, true, true, true, true, false, false, false, false, false, false] rfl rfl (by kernel_rfl) (fun _ _ _ h => h) (Or.inr ⟨by rfl, rfl⟩) ?_ ?_
              rotate_left
              · simp only [Act.put, List.setIfInBounds_toArray, List.set_cons_zero, List.set_cons_succ, i64_w, i32_w]
                rfl
              refine pure_ (i := 22) (N := some 80) (v := undef) (a' := ?_) #[true, true, true, true, true, true, true, true, true, true, true, true, true, true, true, true, true, true, true, true, true, true, true, false, false, false, false, false] rfl rfl (by kernel_rfl) (fun _ _ _ h => h) (Or.inr ⟨by rfl, rfl⟩) ?_ ?_
              rotate_left
              · simp only [Act.put, List.setIfInBounds_toArray, List.set_cons_zero, List.set_cons_succ, i64_w, i32_w]
                rfl
              refine pure_ (i := 23) (N := some 81) (v := undef) (a' := ?_) #[true, true, true, true, true, true, true, true, true, true, true, true, true, true, true, true, true, true, true, true, true, true, true, true, false, false, false, false] rfl rfl (by kernel_rfl) (fun _ _ _ h => h) (Or.inr ⟨by rfl, rfl⟩) ?_ ?_
              rotate_left
              · simp only [Act.put, List.setIfInBounds_toArray, List.set_cons_zero, List.set_cons_succ, i64_w, i32_w]
                rfl
              refine pure_ (i := 24) (N := some 82) (v := undef) (a' := ?_) #[true, true, true, true, true, true, true, true, true, true, true, true, true, true, true, true, true, true, true, true, true, true, true, true, true, false, false, false] rfl rfl (by kernel_rfl) (fun _ _ _ h => h) (Or.inr ⟨by rfl, rfl⟩) ?_ ?_
              rotate_left
              · simp only [Act.put, List.setIfInBounds_toArray, List.set_cons_zero, List.set_cons_succ, i64_w, i32_w]
                rfl
              refine pure_ (i := 25) (N := some 83) (v := undef) (a' := ?_) #[true, true, true, true, true, true, true, true, true, true, true, true, true, true, true, true, true, true, true, true, true, true, true, true, true, true, false, false] rfl rfl (by kernel_rfl) (fun _ _ _ h => h) (Or.inr ⟨by rfl, rfl⟩) ?_ ?_
              rotate_left
              · simp only [Act.put, List.setIfInBounds_toArray, List.set_cons_zero, List.set_cons_succ, i64_w, i32_w]
                rfl
              refine pure_ (i := 26) (N := some 84) (v := ?_) (a' := ?_) #[true, true, true, true, true, true, true, true, true, true, true, true, true, true, true, true, true, true, true, true, true, true, true, true, true, true, true, false] rfl rfl (by kernel_rfl) (fun _ _ _ h => h) (Or.inl ⟨by rfl, ?_⟩) ?_ ?_
              rotate_left
              · intro w'
                go_simp
                with_reducible rfl
              rotate_left
              · simp only [Act.put, List.setIfInBounds_toArray, List.set_cons_zero, List.set_cons_succ, i64_w, i32_w]
                rfl
              refine pure_ (i := 27) (N := some 85) (v := ?_) (a' := ?_) #[true, true, true, true, true, true, true, true, true, true, true, true, true, true, true, true, true, true, true, true, true, true, true, true, true, true, true, true] rfl rfl (by kernel_rfl) (fun _ _ _ h => h) (Or.inl ⟨by rfl, ?_⟩) ?_ ?_
              rotate_left
              · intro w'
                go_simp
                with_reducible rfl
              rotate_left
              · simp only [Act.put, List.setIfInBounds_toArray, List.set_cons_zero, List.set_cons_succ, i64_w, i32_w]
                rfl
              refine done_ (by kernel_rfl) ?_
              --S71
              have HH := Lib.hid hHeld.1
              clear hHeld
              go_wp2
              go_roundw
              case rel => exact ⟨j + 1, by omega, by go_num, HB.out.trans (HH.out.mono HB.out.size)⟩
              case measure => simp [intOf]; omega
          · as_aux_lemma =>
              obtain ⟨i, hi⟩ : ∃ i, j = i + 1 := ⟨j - 1, by omega⟩
              have hil : i < (foldR l).length := by omega
              obtain ⟨ad3, vi3, vf3, e3, a3, _, _⟩ := c_at6 (rz_c R8c.out) i hil
              injection e3 with e3
              subst e3
              have hbl : bl ((foldR l).getD i zv).out r.out = true := by rw [HRE.out, hi]; exact rising_next l i (by omega)
              have p0 := (a3.below HB.out).c0
              generalize ((foldR l).getD i zv).out = so at p0 hbl
              have P6 : Hid (wr.cell? (ad2.add (i * 6)) = some (.string so)) := p0
              have hlt : Op.bytesLess so.toList r.out.toList = true := hbl
              have hg : decide ((0 : Int) < (j : Int)) = true := decide_eq_true (by omega)
              have hg2 : decide (0 < j) = true := decide_eq_true (by omega)
              have hsub : (j : Int) - 1 = (i : Int) := by omega
              have him : i < m := by omega
              have hwi : wrap64 (i : Int) = (i : Int) := IntWalk.wrap64_in _ (by omega)
              clear p0 a3 hbl hil hi hj0
              go_wp2
              refine start_ (n := 28) (S := fun w' => Below wr.heap.size wr w' ∧ w'.cell? (ad1.add (j * 6)) = some (.string r.out) ∧ w'.cell? ⟨(ad1.add (j * 6)).block, (ad1.add (j * 6)).off + 1, none⟩ = some (.string r.cmd) ∧ w'.cell? ⟨(ad1.add (j * 6)).block, (ad1.add (j * 6)).off + 2, none⟩ = some (.int .i64 r.time) ∧ w'.cell? ⟨(ad1.add (j * 6)).block, (ad1.add (j * 6)).off + 3, none⟩ = some (.int .i64 r.mark) ∧ w'.cell? ⟨(ad1.add (j * 6)).block, (ad1.add (j * 6)).off + 4, none⟩ = some (.slice A3 ri c3) ∧ w'.cell? ⟨(ad1.add (j * 6)).block, (ad1.add (j * 6)).off + 5, none⟩ = some (.slice A4 rf c4) ∧ w'.cell? (ad2.add (j * 6)) = some (.string r.out) ∧ w'.cell? ⟨(ad2.add (j * 6)).block, (ad2.add (j * 6)).off + 1, none⟩ = some (.string r.cmd) ∧ w'.cell? ⟨(ad2.add (j * 6)).block, (ad2.add (j * 6)).off + 2, none⟩ = some (.int .i64 r.time) ∧ w'.cell? ⟨(ad2.add (j * 6)).block, (ad2.add (j * 6)).off + 3, none⟩ = some (.int .i64 r.mark) ∧ w'.cell? ⟨(ad2.add (j * 6)).block, (ad2.add (j * 6)).off + 4, none⟩ = some (.slice A5 ri c5) ∧ w'.cell? ⟨(ad2.add (j * 6)).block, (ad2.add (j * 6)).off + 5, none⟩ = some (.slice A6 rf c6) ∧ w'.cell? (ad2.add (i * 6)) = some (.string so)) (ds := []) #[false, false, false, false, false, false, false, false, false, false, false, false, false, false, false, false, false, false, false, false, false, false, false, false, false, false, false, false] (by kernel_rfl) rfl rfl ⟨Below.drew (Below.refl _ _), Q0.out, Q1.out, Q2.out, Q3.out, Q4.out, Q5.out, P0.out, P1.out, P2.out, P3.out, P4.out, P5.out, P6.out⟩ (fun hHeld => ?_)
              refine pure_ (i := 0) (N := some 58) (v := ?_) (a' := ?_) #[true, false, false, false, false, false, false, false, false, false, false, false, false, false, false, false, false, false, false, false, false, false, false, false, false, false, false, false] rfl rfl (by kernel_rfl) (fun _ _ _ h => h) (Or.inl ⟨by rfl, ?_⟩) ?_ ?_
              rotate_left
              · intro w'
                go_simp
                with_reducible rfl
              rotate_left
              · simp only [Act.put, List.setIfInBounds_toArray, List.set_cons_zero, List.set_cons_succ, i64_w, i32_w]
                rfl
              refine pure_ (i := 1) (N := some 59) (v := ?_) (a' := ?_) #[true, true, false, false, false, false, false, false, false, false, false, false, false, false, false, false, false, false, false, false, false, false, false, false, false, false, false, false] rfl rfl (by kernel_rfl) (fun _ _ _ h => h) (Or.inl ⟨by rfl, ?_⟩) ?_ ?_
              rotate_left
              · intro w'
                go_simp
                with_reducible rfl
              rotate_left
              · simp only [Act.put, List.setIfInBounds_toArray, List.set_cons_zero, List.set_cons_succ, i64_w, i32_w]
                rfl
              refine pure_ (i := 2) (N := some 60) (v := ?_) (a' := ?_) #[true, true, true, false, false, false, false, false, false, false, false, false, false, false, false, false, false, false, false, false, false, false, false, false, false, false, false, false] rfl rfl (by kernel_rfl) (fun _ _ _ h => h) (Or.inl ⟨by rfl, ?_⟩) ?_ ?_
              rotate_left
              · intro w'
                go_simp
                with_reducible rfl
              rotate_left
              · simp only [Act.put, List.setIfInBounds_toArray, List.set_cons_zero, List.set_cons_succ, i64_w, i32_w]
                rfl
              refine pure_ (i := 4) (N := some 62) (v := ?_) (a' := ?_) #[true, true, true, false, true, false, false, false, false, false, false, false, false, false, false, false, false, false, false, false, false, false, false, false, false, false, false, false] rfl rfl (by kernel_rfl) (fun _ _ _ h => h) (Or.inl ⟨by rfl, ?_⟩) ?_ ?_
              rotate_left
              · intro w'
                go_simp
                with_reducible rfl
              rotate_left
              · simp only [Act.put, List.setIfInBounds_toArray, List.set_cons_zero, List.set_cons_succ, i64_w, i32_w]
                rfl
              refine pure_ (i := 5) (N := some 63) (v := ?_) (a' := ?_) #[true, true, true, false, true, true, false, false, false, false, false, false, false, false, false, false, false, false, false, false, false, false, false, false, false, false, false, false] rfl rfl (by kernel_rfl) (fun _ _ _ h => h) (Or.inl ⟨by rfl, ?_⟩) ?_ ?_
              rotate_left
              · intro w'
                go_simp
                with_reducible rfl
              rotate_left
              · simp only [Act.put, List.setIfInBounds_toArray, List.set_cons_zero, List.set_cons_succ, i64_w, i32_w]
                rfl
              refine pure_ (i := 6) (N := some 64) (v := ?_) (a' := ?_) #[true, true, true, false, true, true, true, false, false, false, false, false, false, false, false, false, false, false, false, false, false, false, false, false, false, false, false, false] rfl rfl (by kernel_rfl) (fun _ _ _ h => h) (Or.inl ⟨by rfl, ?_⟩) ?_ ?_
              rotate_left
              · intro w'
                go_simp
                with_reducible rfl
              rotate_left
              · simp only [Act.put, List.setIfInBounds_toArray, List.set_cons_zero, List.set_cons_succ, i64_w, i32_w]
                rfl
              refine take_ (i := 3) (N := some 61) (v := ?_) (a' := ?_) #[true, true, true, true, true, true, true, false, false, false, false, false, false, false, false, false, false, false, false, false, false, false, false, false, false, false, false, false] rfl rfl (by kernel_rfl) (fun _ _ _ h => h) (Or.inl ⟨by rfl, ?_⟩) hHeld ?_ ?_
              rotate_left
              · rintro w' ⟨s0, s1, s2, s3, s4, s5, s6, s7, s8, s9, s10, s11, s12, s13⟩
                go_simp
                with_reducible rfl
              rotate_left
              · simp only [Act.put, List.setIfInBounds_toArray, List.set_cons_zero, List.set_cons_succ, i64_w, i32_w]
                rfl
              refine take_ (i := 7) (N := some 65) (v := ?_) (a' := ?_) #[true, true, true, true, true, true, true, true, false, false, false, false, false, false, false, false, false, false, false, false, false, false, false, false, false, false, false, false] rfl rfl (by kernel_rfl) (fun _ _ _ h => h) (Or.inl ⟨by rfl, ?_⟩) hHeld ?_ ?_
              rotate_left
              · rintro w' ⟨s0, s1, s2, s3, s4, s5, s6, s7, s8, s9, s10, s11, s12, s13⟩
                go_simp
                with_reducible rfl
              rotate_left
              · simp only [Act.put, List.setIfInBounds_toArray, List.set_cons_zero, List.set_cons_succ, i64_w, i32_w]
                rfl
              refine one_ (i := 8) (N := some 66) #[true, true, true, true, true, true, true, true, true, false, false, false, false, false, false, false, false, false, false, false, false, false, false, false, false, false, false, false] rfl rfl (by kernel_rfl) (by decide) (fun K hK => ?_)
              refine goes_ Try.func26 (by kernel_rfl) rfl #[.agg #[.string r.out, .string r.cmd, .int .i64 r.time, .int .i64 r.mark, .slice A3 ri c3, .slice A4 rf c4], .agg #[.string r.out, .string r.cmd, .int .i64 r.time, .int .i64 r.mark, .slice A5 ri c5, .slice A6 rf c6]] (by rfl) rfl rfl (by first | (simp only [List.map_toArray, List.map_cons, List.map_nil]; done) | (simp only [List.map_toArray, List.map_cons, List.map_nil]; rfl) | rfl) ?_
              with_reducible refine (psame_true _ _ r _ (RI1.out.below hHeld.1) (RI2.out.below hHeld.1)).mono ?_
              rintro e w6 ⟨rfl, bs⟩
              refine ⟨_, rfl, ?_⟩
              have hb6 := hHeld.1.trans (bs.mono hHeld.1.size)
              clear bs
              refine hK.out _ _ ⟨hb6, pw_cell_below (hb6) Q0.out, pw_cell_below (hb6) Q1.out, pw_cell_below (hb6) Q2.out, pw_cell_below (hb6) Q3.out, pw_cell_below (hb6) Q4.out, pw_cell_below (hb6) Q5.out, pw_cell_below (hb6) P0.out, pw_cell_below (hb6) P1.out, pw_cell_below (hb6) P2.out, pw_cell_below (hb6) P3.out, pw_cell_below (hb6) P4.out, pw_cell_below (hb6) P5.out, pw_cell_below (hb6) P6.out⟩ (fun hHeld => ?_)
              clear hK K
              refine norm_ (a' := ?_) ?_ ?_
              rotate_left
              · show Act.put _ (some 66) _ = _
                simp only [Act.put, List.setIfInBounds_toArray, List.set_cons_zero, List.set_cons_succ, i64_w, i32_w]
                rfl
              refine pure_ (i := 9) (N := some 67) (v := ?_) (a' := ?_) #[true, true, true, true, true, true, true, true, true, true, false, false, false, false, false, false, false, false, false, false, false, false, false, false, false, false, false, false] rfl rfl (by kernel_rfl) (fun _ _ _ h => h) (Or.inl ⟨by rfl, ?_⟩) ?_ ?_
              rotate_left
              · intro w'
                go_simp
                with_reducible rfl
              rotate_left
              · simp only [Act.put, List.setIfInBounds_toArray, List.set_cons_zero, List.set_cons_succ, i64_w, i32_w]
                rfl
              refine pure_ (i := 10) (N := some 68) (v := ?_) (a' := ?_) #[true, true, true, true, true, true, true, true, true, true, true, false, false, false, false, false, false, false, false, false, false, false, false, false, false, false, false, false] rfl rfl (by kernel_rfl) (fun _ _ _ h => h) (Or.inl ⟨by rfl, ?_⟩) ?_ ?_
              rotate_left
              · intro w'
                go_simp
                with_reducible rfl
              rotate_left
              · simp only [Act.put, List.setIfInBounds_toArray, List.set_cons_zero, List.set_cons_succ, i64_w, i32_w]
                rfl
              refine pure_ (i := 11) (N := some 69) (v := ?_) (a' := ?_) #[true, true, true, true, true, true, true, true, true, true, true, true, false, false, false, false, false, false, false, false, false, false, false, false, false, false, false, false] rfl rfl (by kernel_rfl) (fun _ _ _ h => h) (Or.inl ⟨by rfl, ?_⟩) ?_ ?_
              rotate_left
              · intro w'
                go_simp
                with_reducible rfl
              rotate_left
              · simp only [Act.put, List.setIfInBounds_toArray, List.set_cons_zero, List.set_cons_succ, i64_w, i32_w]
                rfl
              refine pure_ (i := 12) (N := some 70) (v := ?_) (a' := ?_) #[true, true, true, true, true, true, true, true, true, true, true, true, true, false, false, false, false, false, false, false, false, false, false, false, false, false, false, false] rfl rfl (by kernel_rfl) (fun _ _ _ h => h) (Or.inl ⟨by rfl, ?_⟩) ?_ ?_
              rotate_left
              · intro w'
                go_simp
                with_reducible rfl
              rotate_left
              · simp only [Act.put, List.setIfInBounds_toArray, List.set_cons_zero, List.set_cons_succ, i64_w, i32_w]
                rfl
              refine pure_ (i := 13) (N := some 71) (v := ?_) (a' := ?_) #[true, true, true, true, true, true, true, true, true, true, true, true, true, true, false, false, false, false, false, false, false, false, false, false, false, false, false, false] rfl rfl (by kernel_rfl) (fun _ _ _ h => h) (Or.inl ⟨by rfl, ?_⟩) ?_ ?_
              rotate_left
              · intro w'
                go_simp
                with_reducible rfl
              rotate_left
              · simp only [Act.put, List.setIfInBounds_toArray, List.set_cons_zero, List.set_cons_succ, i64_w, i32_w]
                rfl
              refine pure_ (i := 14) (N := some 72) (v := ?_) (a' := ?_) #[true, true, true, true, true, true, true, true, true, true, true, true, true, true, true, false, false, false, false, false, false, false, false, false, false, false, false, false] rfl rfl (by kernel_rfl) (fun _ _ _ h => h) (Or.inl ⟨by rfl, ?_⟩) ?_ ?_
              rotate_left
              · intro w'
                go_simp
                with_reducible rfl
              rotate_left
              · simp only [Act.put, List.setIfInBounds_toArray, List.set_cons_zero, List.set_cons_succ, i64_w, i32_w]
                rfl
              refine pure_ (i := 15) (N := some 73) (v := ?_) (a' := ?_) #[true, true, true, true, true, true, true, true, true, true, true, true, true, true, true, true, false, false, false, false, false, false, false, false, false, false, false, false] rfl rfl (by kernel_rfl) (fun _ _ _ h => h) (Or.inl ⟨by rfl, ?_⟩) ?_ ?_
              rotate_left
              · intro w'
                go_simp
                with_reducible rfl
              rotate_left
              · simp only [Act.put, List.setIfInBounds_toArray, List.set_cons_zero, List.set_cons_succ, i64_w, i32_w]
                rfl
              refine pure_ (i := 16) (N := some 74) (v := ?_) (a' := ?_) #[true, true, true, true, true, true, true, true, true, true, true, true, true, true, true, true, true, false, false, false, false, false, false, false, false, false, false, false] rfl rfl (by kernel_rfl) (fun _ _ _ h => h) (Or.inl ⟨by rfl, ?_⟩) ?_ ?_
              rotate_left
              · intro w'
                go_simp
                with_reducible rfl
              rotate_left
              · simp only [Act.put, List.setIfInBounds_toArray, List.set_cons_zero, List.set_cons_succ, i64_w, i32_w]
                rfl
              refine pure_ (i := 17) (N := some 75) (v := ?_) (a' := ?_) #[true, true, true, true, true, true, true, true, true, true, true, true, true, true, true, true, true, true, false, false, false, false, false, false, false, false, false, false] rfl rfl (by kernel_rfl) (fun _ _ _ h => h) (Or.inl ⟨by rfl, ?_⟩) ?_ ?_
              rotate_left
              · intro w'
                go_simp
                with_reducible rfl
              rotate_left
              · simp only [Act.put, List.setIfInBounds_toArray, List.set_cons_zero, List.set_cons_succ, i64_w, i32_w]
                rfl
              refine pure_ (i := 18) (N := some 76) (v := ?_) (a' := ?_) #[true, true, true, true, true, true, true, true, true, true, true, true, true, true, true, true, true, true, true, false, false, false, false, false, false, false, false, false] rfl rfl (by kernel_rfl) (fun _ _ _ h => h) (Or.inl ⟨by rfl, ?_⟩) ?_ ?_
              rotate_left
              · intro w'
                go_simp
                with_reducible rfl
              rotate_left
              · simp only [Act.put, List.setIfInBounds_toArray, List.set_cons_zero, List.set_cons_succ, i64_w, i32_w]
                rfl
              refine pure_ (i := 20) (N := some 78) (v := ?_) (a' := ?_) #[true, true, true, true, true, true, true, true, true, true, true, true, true, true, true, true, true, true, true, false, true, false, false, false, false, false, false, false] rfl rfl (by kernel_rfl) (fun _ _ _ h => h) (Or.inl ⟨by rfl, ?_⟩) ?_ ?_
              rotate_left
              · intro w'
                go_simp
                with_reducible rfl
              rotate_left
              · simp only [Act.put, List.setIfInBounds_toArray, List.set_cons_zero, List.set_cons_succ, i64_w, i32_w]
                rfl
              refine pure_ (i := 21) (N := some 79) (v := ?_) (a' := ?_) #[true, true, true, true, true, true, true, true, true, true, true, true, true, true, true, true, true, true, true, false, true, true, false, false, false, false, false, false] rfl rfl (by kernel_rfl) (fun _ _ _ h => h) (Or.inl ⟨by rfl, ?_⟩) ?_ ?_
              rotate_left
              · intro w'
                go_simp
                with_reducible rfl
              rotate_left
              · simp only [Act.put, List.setIfInBounds_toArray, List.set_cons_zero, List.set_cons_succ, i64_w, i32_w]
                rfl
              refine pure_ (i := 22) (N := some 80) (v := ?_) (a' := ?_) #[true, true, true, true, true, true, true, true, true, true, true, true, true, true, true, true, true, true, true, false, true, true, true, false, false, false, false, false] rfl rfl (by kernel_rfl) (fun _ _ _ h => h) (Or.inl ⟨by rfl, ?_⟩) ?_ ?_
              rotate_left
              · intro w'
                go_simp
                with_reducible rfl
              rotate_left
              · simp only [Act.put, List.setIfInBounds_toArray, List.set_cons_zero, List.set_cons_succ, i64_w, i32_w]
                rfl
              refine pure_ (i := 23) (N := some 81) (v := ?_) (a' := ?_) #[true, true, true, true, true, true, true, true, true, true, true, true, true, true, true, true, true, true, true, false, true, true, true, true, false, false, false, false] rfl rfl (by kernel_rfl) (fun _ _ _ h => h) (Or.inl ⟨by rfl, ?_⟩) ?_ ?_
              rotate_left
              · intro w'
                go_simp
                with_reducible rfl
              rotate_left
              · simp only [Act.put, List.setIfInBounds_toArray, List.set_cons_zero, List.set_cons_succ, i64_w, i32_w]
                rfl
              refine take_ (i := 19) (N := some 77) (v := ?_) (a' := ?_) #[true, true, true, true, true, true, true, true, true, true, true, true, true, true, true, true, true, true, true, true, true, true, true, true, false, false, false, false] rfl rfl (by kernel_rfl) (fun _ _ _ h => h) (Or.inl ⟨by rfl, ?_⟩) hHeld ?_ ?_
              rotate_left
              · rintro w' ⟨s0, s1, s2, s3, s4, s5, s6, s7, s8, s9, s10, s11, s12, s13⟩
                go_simp
                with_reducible rfl
              rotate_left
              · simp only [Act.put, List.setIfInBounds_toArray, List.set_cons_zero, List.set_cons_succ, i64_w, i32_w]
                rfl
              refine take_ (i := 24) (N := some 82) (v := ?_) (a' := ?_) #[true, true, true, true, true, true, true, true, true, true, true, true, true, true, true, true, true, true, true, true, true, true, true, true, true, false, false, false] rfl rfl (by kernel_rfl) (fun _ _ _ h => h) (Or.inl ⟨by rfl, ?_⟩) hHeld ?_ ?_
              rotate_left
              · rintro w' ⟨s0, s1, s2, s3, s4, s5, s6, s7, s8, s9, s10, s11, s12, s13⟩
                go_simp
                with_reducible rfl
              rotate_left
              · simp only [Act.put, List.setIfInBounds_toArray, List.set_cons_zero, List.set_cons_succ, i64_w, i32_w]
                rfl
              refine pure_ (i := 25) (N := some 83) (v := ?_) (a' := ?_) #[true, true, true, true, true, true, true, true, true, true, true, true, true, true, true, true, true, true, true, true, true, true, true, true, true, true, false, false] rfl rfl (by kernel_rfl) (fun _ _ _ h => h) (Or.inl ⟨by rfl, ?_⟩) ?_ ?_
              rotate_left
              · intro w'
                go_simp
                with_reducible rfl
              rotate_left
              · simp only [Act.put, List.setIfInBounds_toArray, List.set_cons_zero, List.set_cons_succ, i64_w, i32_w]
                rfl
              refine pure_ (i := 26) (N := some 84) (v := ?_) (a' := ?_) #[true, true, true, true, true, true, true, true, true, true, true, true, true, true, true, true, true, true, true, true, true, true, true, true, true, true, true, false] rfl rfl (by kernel_rfl) (fun _ _ _ h => h) (Or.inl ⟨by rfl, ?_⟩) ?_ ?_
              rotate_left
              · intro w'
                go_simp
                with_reducible rfl
              rotate_left
              · simp only [Act.put, List.setIfInBounds_toArray, List.set_cons_zero, List.set_cons_succ, i64_w, i32_w]
                rfl
              refine pure_ (i := 27) (N := some 85) (v := ?_) (a' := ?_) #[true, true, true, true, true, true, true, true, true, true, true, true, true, true, true, true, true, true, true, true, true, true, true, true, true, true, true, true] rfl rfl (by kernel_rfl) (fun _ _ _ h => h) (Or.inl ⟨by rfl, ?_⟩) ?_ ?_
              rotate_left
              · intro w'
                go_simp
                with_reducible rfl
              rotate_left
              · simp only [Act.put, List.setIfInBounds_toArray, List.set_cons_zero, List.set_cons_succ, i64_w, i32_w]
                rfl
              refine done_ (by kernel_rfl) ?_
              --S70
              have HH := Lib.hid hHeld.1
              clear hHeld
              clear hwi hsub
              go_wp2
              go_roundw
              case rel => exact ⟨j + 1, by omega, by go_num, HB.out.trans (HH.out.mono HB.out.size)⟩
              case measure => simp [intOf]; omega
        · have hk2 : j = m := by omega
          clear hk2
          go_wp2_with fail
          refine (awake_any _).mono ?_
          rintro e wv ⟨rfl, bs⟩
          have HH := Lib.hid (HB.out.trans (bs.mono HB.out.size))
          clear bs
          go_wp2
          go_ret
          exact ⟨rfl, HBx.out.trans (HH.out.mono HBx.out.size)⟩
--END WALK
theorem RunsParts_int (v : Value) (l : List RunV) (a : Int) (w : World) (h : Rz w w v l) (hfl : ∀ r ∈ l, FitR r) (ha : (Lit.int .u8 a).wf = true) :
    Calls Try.prog 8 #[v, .int .u8 a] w fun e w' => e = .returned (.bool true) ∧ Below w.heap.size w w' := by
  simp [Lit.wf, IntKind.min, IntKind.max, IntKind.bits, IntKind.signed] at ha
  obtain ⟨n, rfl⟩ := Int.eq_ofNat_of_zero_le ha.1
  exact RunsParts_any v l n w h hfl (by omega)
end Go.Proofs.Ytehndlafbbpofaa.Run
