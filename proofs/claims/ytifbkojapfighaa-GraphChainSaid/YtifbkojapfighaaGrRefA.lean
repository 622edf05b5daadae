/- bellowsref13.Outs, .Sources, .Above (walks). -/
import Derived.Test.YtifbkojapfighaaGrWrong
import Derived.Test.YtifbkojapfighaaGrAsk
import Derived.Test.YtifbkojapfighaaGrPut
namespace Go.Proofs.Ytifbkojapfighaa.Gr
open Go.RowKit Go.Proofs.YtifbkojapfighaaW.PrintWords Go.Proofs.YtifbkojapfighaaW.PrintLast Go.Proofs.Ytifbkojapfighaa.Base Go.Maps
set_option linter.unusedVariables false
set_option linter.unusedSimpArgs false
theorem putAll_take' (l : List ByteArray) (a : List ByteArray) (j : Nat) (h : j < a.length) : putAll l (a.take (j + 1)) = putS (putAll l (a.take j)) (a.getD j ByteArray.empty) := by
  rw [(take_at a ByteArray.empty j h).1, putAll_snoc]
set_option maxRecDepth 100000 in
set_option maxHeartbeats 4000000 in
theorem routs_any (v : Value) (es : List EdgeV) (w : World) (ve vd : Value) (hv : v = .agg #[ve, vd]) (hE : Ez w ve es) (hl : (allOuts es).length ≤ 1000000) :
    Calls Try.prog 29 #[v] w fun e w' => (∃ v', e = .returned v' ∧ Ss w' v' (putAll [] (allOuts es))) ∧ Below w.heap.size w w' := by
  have HL : Hid ((allOuts es).length ≤ 1000000) := hl
  clear hl
  subst hv
  obtain ⟨Ae, ce, rfl, hce, hme⟩ := hE.len
  obtain ⟨n, hn⟩ : ∃ n, n = es.length := ⟨_, rfl⟩
  rw [← hn] at hce hme hE ⊢
  obtain ⟨x, hx⟩ : ∃ x, w.heap.size = x := ⟨_, rfl⟩
  obtain ⟨w1, hw1⟩ : ∃ w1, w1 = w.alloc (.cells #[.slice Ae n ce, vd] 25) := ⟨_, rfl⟩
  have hb1 : Below w.heap.size w w1 := by rw [hw1]; exact below_alloc (Below.refl _ _) _
  have hX : w1.heap[x]? = some (.cells #[.slice Ae n ce, vd] 25 (0, 0)) := by rw [hw1, ← hx]; exact blk_new w _
  have HX := Lib.hid hX
  have HE1 := Lib.hid (hE.below hb1)
  have HB1 := Lib.hid hb1
  have HW := Lib.hid hw1
  have HN := Lib.hid hn
  have q0 := (show w1.cell? ⟨x, 0, none⟩ = some (.slice Ae n ce) from blk_cell hX 0)
  have q1 := (show w1.cell? ⟨x, 1, none⟩ = some vd from blk_cell hX 1)
  clear hE hb1 hX hw1 hn
  go_enter Try.func29, Try.ntmps29
  go_upto_region 1 with (fail)
  rw [← HW.out]
  try rw [hx]
  clear hx
  go_wp2
  clear q0 q1
  --S1
  go_loopw [3, 4] (fun v i wr => ∃ k : Nat, k ≤ n ∧ i = .int .i64 k ∧ Hid (Ss wr v (putAll [] (allOuts (es.take k)))) ∧ Hid (Below w1.heap.size w1 wr)) (fun _ i _ => n - (intOf i).toNat)
  case atStart => exact ⟨0, by omega, rfl, ss_nil _, Below.refl _ _⟩
  case round =>
    obtain ⟨k, hk, rfl, HV, HB⟩ := hrel
    obtain ⟨Av, cv, ev, _, _⟩ := ss_len HV.out
    obtain ⟨nv, hnv⟩ : ∃ nv, nv = (putAll [] (allOuts (es.take k))).length := ⟨_, rfl⟩
    rw [← hnv] at ev
    subst ev
    clear hnv
    have q0 := (show wr.cell? ⟨x, 0, none⟩ = some (.slice Ae n ce) from blk_cell ((HB.out.block x (blk_lt HX.out)).trans HX.out) 0)
    by_cases l1 : k < n
    · have hkl : k < es.length := by rw [← HN.out]; exact l1
      obtain ⟨ad, vo, vi, vm, vr, e7, p0, p1, p2, p3, p4, p5, hec⟩ := (HE1.out.below HB.out).get k hkl
      subst e7
      have HSUB : Hid (∀ j, ∃ r, allOuts es = (allOuts (es.take k) ++ (es.getD k zedge).outs.take j) ++ r) := fun j => allOuts_take_sub es k j hkl
      have HSN : Hid (allOuts (es.take (k + 1)) = allOuts (es.take k) ++ (es.getD k zedge).outs) := by show _ = _; rw [(take_at es zedge k hkl).1, allOuts_snoc]
      obtain ⟨lo, hlo⟩ : ∃ lo, lo = (es.getD k zedge).outs := ⟨_, rfl⟩
      have hso := hec.1
      rw [← hlo] at hso HSUB HSN
      obtain ⟨Ao, co, rfl, hco, hmo⟩ := ss_len hso
      obtain ⟨no, hno⟩ : ∃ no, no = lo.length := ⟨_, rfl⟩
      rw [← hno] at p0 hco hmo hso
      have HSO := Lib.hid hso
      have HNO := Lib.hid hno
      have Z0 := Lib.hid q0
      have Z1 := Lib.hid p0
      have hw9 : Below wr.heap.size wr wr := Below.refl _ _
      have HWR := Lib.hid hw9
      clear hec hso hlo hno hkl p1 p2 p3 p4 p5 hw9
      go_wp2
      clear q0 p0
      obtain ⟨wo, hwo⟩ : ∃ wo, wo = wr := ⟨_, rfl⟩
      subst hwo
      --S2
      go_loopw [3, 5] (fun v i wr => ∃ j : Nat, j ≤ no ∧ i = .int .i64 j ∧ Hid (Ss wr v (putAll [] (allOuts (es.take k) ++ lo.take j))) ∧ Hid (Below wo.heap.size wo wr)) (fun _ i _ => no - (intOf i).toNat)
      case atStart => exact ⟨0, by omega, rfl, by rw [List.take_zero, List.append_nil]; exact HV.out, Below.refl _ _⟩
      case round =>
        clear HV
        obtain ⟨j, hj, rfl, HV, HBJ⟩ := hrel
        obtain ⟨Av, cv, ev, _, _⟩ := ss_len HV.out
        obtain ⟨nv, hnv⟩ : ∃ nv, nv = (putAll [] (allOuts (es.take k) ++ lo.take j)).length := ⟨_, rfl⟩
        rw [← hnv] at ev
        subst ev
        clear hnv
        have q0 := pw_cell_below HBJ.out Z0.out
        have p0 := pw_cell_below HBJ.out Z1.out
        by_cases l2 : j < no
        · have hjl : j < lo.length := by rw [← HNO.out]; exact l2
          obtain ⟨ado, e8, qs⟩ := ss_get (HSO.out.below HBJ.out) j hjl
          subst e8
          have HPT : Hid (putAll [] (allOuts (es.take k) ++ lo.take (j + 1)) = putS (putAll [] (allOuts (es.take k) ++ lo.take j)) (lo.getD j ByteArray.empty)) := by
            show _ = _
            rw [putAll_append, putAll_append, putAll_take' _ _ _ hjl]
          obtain ⟨s, hs⟩ : ∃ s, s = lo.getD j ByteArray.empty := ⟨_, rfl⟩
          rw [← hs] at qs HPT
          have HLW : Hid ((putAll [] (allOuts (es.take k) ++ lo.take j)).length ≤ 1000000) := by
            obtain ⟨r, hr⟩ := HSUB.out j
            have h1 := putAll_len (allOuts (es.take k) ++ lo.take j) []
            have h2 := congrArg List.length hr
            have h3 := HL.out
            rw [List.length_append] at h2
            simp only [List.length_nil] at h1
            show _ ≤ _
            omega
          clear hjl hs
          go_wp2_with fail
          refine (rput_any _ _ s _ HV.out (putAll_up _ _ up_nil) HLW.out).mono ?_
          rintro e w7 ⟨v7, rfl, r7, b7⟩
          have HR7 : Hid (Ss w7 v7 (putAll [] (allOuts (es.take k) ++ lo.take (j + 1)))) := by show Ss _ _ _; rw [HPT.out]; exact r7
          have HB7 := Lib.hid (HBJ.out.trans (b7.mono HBJ.out.size))
          clear r7 b7 qs q0 p0
          go_wp2
          go_roundw
          case rel => exact ⟨j + 1, by omega, by go_num, HR7.out, HB7.out⟩
          case measure => simp [intOf]; omega
        · have hj2 : j = no := by omega
          have HVF : Hid (Ss wr (.slice Av nv cv) (putAll [] (allOuts (es.take (k + 1))))) := by
            have h := HV.out
            rw [hj2, HNO.out, List.take_length, ← HSN.out] at h
            exact h
          have HBF := Lib.hid (HB.out.trans (HBJ.out.mono HB.out.size))
          clear hj2 HV
          go_wp2
          clear q0 p0
          go_roundw
          case rel => exact ⟨k + 1, by omega, by go_num, HVF.out, HBF.out⟩
          case measure => simp [intOf]; omega
    · have hk2 : k = n := by omega
      have HVF : Hid (Ss wr (.slice Av nv cv) (putAll [] (allOuts es))) := by
        have h := HV.out
        rw [hk2, HN.out, List.take_length] at h
        exact h
      have HBF := Lib.hid (HB1.out.trans (HB.out.mono HB1.out.size))
      clear hk2 HV
      go_wp2
      go_ret
      exact ⟨⟨_, rfl, HVF.out⟩, HBF.out⟩
/-- The needs that nothing makes. -/
def srcF (es : List EdgeV) (l : List ByteArray) : List ByteArray := l.filter fun s => !(makerOf es s).isSome
theorem srcF_snoc (es : List EdgeV) (l : List ByteArray) (s : ByteArray) : srcF es (l ++ [s]) = if (makerOf es s).isSome = true then srcF es l else srcF es l ++ [s] := by
  unfold srcF
  rw [List.filter_append]
  cases h : makerOf es s with
  | none => simp [h]
  | some k => simp [h]
theorem srcF_len (es : List EdgeV) (l : List ByteArray) : (srcF es l).length ≤ l.length := List.length_filter_le _ _
theorem sources_same (es : List EdgeV) : putAll [] (srcF es (allNeeds es)) = sourcesV es := by
  refine up_ext (putAll_up _ _ up_nil) (sources_up es) fun s => ?_
  rw [mem_putAll, mem_sources]
  unfold srcF
  rw [List.mem_filter]
  constructor
  · rintro (h | ⟨h1, h2⟩)
    · cases h
    · exact ⟨h1, by
        cases hm : makerOf es s with
        | none => rfl
        | some k => rw [hm] at h2; cases h2⟩
  · rintro ⟨h1, h2⟩
    exact .inr ⟨h1, by rw [h2]; rfl⟩
set_option maxRecDepth 100000 in
set_option maxHeartbeats 4000000 in
theorem rsources_any (v : Value) (es : List EdgeV) (w : World) (ve vd : Value) (hv : v = .agg #[ve, vd]) (hE : Ez w ve es) (hs : ∀ e ∈ es, SmallE e) (hl : (allNeeds es).length ≤ 1000000) :
    Calls Try.prog 28 #[v] w fun e w' => (∃ v', e = .returned v' ∧ Ss w' v' (sourcesV es)) ∧ Below w.heap.size w w' := by
  have HL : Hid ((allNeeds es).length ≤ 1000000) := hl
  have HS := Lib.hid hs
  clear hl hs
  subst hv
  obtain ⟨Ae, ce, rfl, hce, hme⟩ := hE.len
  obtain ⟨n, hn⟩ : ∃ n, n = es.length := ⟨_, rfl⟩
  rw [← hn] at hce hme hE ⊢
  obtain ⟨x, hx⟩ : ∃ x, w.heap.size = x := ⟨_, rfl⟩
  obtain ⟨w1, hw1⟩ : ∃ w1, w1 = w.alloc (.cells #[.slice Ae n ce, vd] 25) := ⟨_, rfl⟩
  have hb1 : Below w.heap.size w w1 := by rw [hw1]; exact below_alloc (Below.refl _ _) _
  have hX : w1.heap[x]? = some (.cells #[.slice Ae n ce, vd] 25 (0, 0)) := by rw [hw1, ← hx]; exact blk_new w _
  have HX := Lib.hid hX
  have HE1 := Lib.hid (hE.below hb1)
  have HB1 := Lib.hid hb1
  have HW := Lib.hid hw1
  have HN := Lib.hid hn
  have q0 := (show w1.cell? ⟨x, 0, none⟩ = some (.slice Ae n ce) from blk_cell hX 0)
  have q1 := (show w1.cell? ⟨x, 1, none⟩ = some vd from blk_cell hX 1)
  clear hE hb1 hX hw1 hn
  go_enter Try.func28, Try.ntmps28
  go_upto_region 1 with (fail)
  rw [← HW.out]
  try rw [hx]
  clear hx
  go_wp2
  clear q0 q1
  --S3
  go_loopw [3, 4] (fun v i wr => ∃ k : Nat, k ≤ n ∧ i = .int .i64 k ∧ Hid (Ss wr v (putAll [] (srcF es (allNeeds (es.take k))))) ∧ Hid (Below w1.heap.size w1 wr)) (fun _ i _ => n - (intOf i).toNat)
  case atStart => exact ⟨0, by omega, rfl, ss_nil _, Below.refl _ _⟩
  case round =>
    obtain ⟨k, hk, rfl, HV, HB⟩ := hrel
    obtain ⟨Av, cv, ev, _, _⟩ := ss_len HV.out
    obtain ⟨nv, hnv⟩ : ∃ nv, nv = (putAll [] (srcF es (allNeeds (es.take k)))).length := ⟨_, rfl⟩
    rw [← hnv] at ev
    subst ev
    clear hnv
    have q0 := (show wr.cell? ⟨x, 0, none⟩ = some (.slice Ae n ce) from blk_cell ((HB.out.block x (blk_lt HX.out)).trans HX.out) 0)
    by_cases l1 : k < n
    · have hkl : k < es.length := by rw [← HN.out]; exact l1
      obtain ⟨ad, vo, vi, vm, vr, e7, p0, p1, p2, p3, p4, p5, hec⟩ := (HE1.out.below HB.out).get k hkl
      subst e7
      have HSN := Lib.hid (allNeeds_snoc es k hkl)
      have HSE := Lib.hid (HS.out _ (take_at es zedge k hkl).2)
      have HLK := Lib.hid (allNeeds_len es (k + 1))
      generalize es.getD k zedge = ey at p4 p5 hec HSN HSE
      have HEI : Hid (EdIs wr (.agg #[vo, vi, vm, vr, .string ey.cmd, .string ey.dep]) ey) := ⟨_, _, _, _, rfl, hec⟩
      clear hec hkl
      go_wp2_with fail
      refine (rneeds_any _ ey _ HEI.out HSE.out).mono ?_
      rintro e w3 ⟨v3, rfl, r3, b3⟩
      have HS3 := Lib.hid (r_ss r3)
      obtain ⟨A3, c3, e3⟩ := Kd.R_slice r3
      obtain ⟨n3, hn3⟩ : ∃ n3, n3 = (needsV ey).length := ⟨_, rfl⟩
      rw [← hn3] at e3
      subst e3
      have hn36 : n3 ≤ 1000000 := by
        have h1 := HLK.out
        rw [HSN.out, List.length_append, ← hn3] at h1
        have h2 := HL.out
        omega
      have HN3 := Lib.hid hn3
      have HB3 := Lib.hid (HB.out.trans (b3.mono HB.out.size))
      have HV3 := Lib.hid (HV.out.below b3)
      clear r3 b3 hn3 q0 p0 p1 p2 p3 p4 p5 HV
      go_wp2
      --S4
      go_loopw [3, 6] (fun v i wr => ∃ j : Nat, j ≤ n3 ∧ i = .int .i64 j ∧ Hid (Ss wr v (putAll [] (srcF es (allNeeds (es.take k) ++ (needsV ey).take j)))) ∧ Hid (Below w3.heap.size w3 wr)) (fun _ i _ => n3 - (intOf i).toNat)
      case atStart => exact ⟨0, by omega, rfl, by rw [List.take_zero, List.append_nil]; exact HV3.out, Below.refl _ _⟩
      case round =>
        clear HV3
        obtain ⟨j, hj, rfl, HV, HBJ⟩ := hrel
        obtain ⟨Av, cv, ev, _, _⟩ := ss_len HV.out
        obtain ⟨nv, hnv⟩ : ∃ nv, nv = (putAll [] (srcF es (allNeeds (es.take k) ++ (needsV ey).take j))).length := ⟨_, rfl⟩
        rw [← hnv] at ev
        subst ev
        clear hnv
        have hb5 := HB3.out.trans (HBJ.out.mono HB3.out.size)
        have HB5 := Lib.hid hb5
        by_cases l2 : j < n3
        · have hjl : j < (needsV ey).length := by rw [← HN3.out]; exact l2
          obtain ⟨ads, e8, qs⟩ := ss_get (HS3.out.below HBJ.out) j hjl
          subst e8
          have HTJ := Lib.hid (take_at (needsV ey) ByteArray.empty j hjl)
          obtain ⟨s, hs⟩ : ∃ s, s = (needsV ey).getD j ByteArray.empty := ⟨_, rfl⟩
          rw [← hs] at qs HTJ
          have HLW : Hid ((putAll [] (srcF es (allNeeds (es.take k) ++ (needsV ey).take j))).length ≤ 1000000) := by
            have h1 := putAll_len (srcF es (allNeeds (es.take k) ++ (needsV ey).take j)) []
            have h2 := srcF_len es (allNeeds (es.take k) ++ (needsV ey).take j)
            have h3 := HLK.out
            have h4 := List.length_take_le j (needsV ey)
            have h5 := List.length_take_le' j (needsV ey)
            rw [HSN.out, List.length_append] at h3
            rw [List.length_append] at h2
            simp only [List.length_nil] at h1
            have h6 := HL.out
            show _ ≤ _
            omega
          have Z0 : Hid (wr.cell? ⟨x, 0, none⟩ = some (.slice (some ad) n ce)) := blk_cell ((hb5.block x (blk_lt HX.out)).trans HX.out) 0
          have Z1 : Hid (wr.cell? ⟨x, 1, none⟩ = some vd) := blk_cell ((hb5.block x (blk_lt HX.out)).trans HX.out) 1
          have Z2 := Lib.hid qs
          have HE5 := Lib.hid (HE1.out.below hb5)
          have HBD : Hid (Below wr.heap.size wr wr.drew) := Below.drew (Below.refl _ _)
          obtain ⟨b, hb⟩ : ∃ b, b = decide (mkI es s < 0) := ⟨_, rfl⟩
          have HBE : Hid (b = !(makerOf es s).isSome) := by
            show b = _
            rw [hb]
            unfold mkI
            cases makerOf es s <;> simp
          have d1 : decide (mkI es s < 0) = b := hb.symm
          clear hjl hs hb5 hb
          go_wp2
          clear qs
          refine start_ (n := 7) (S := fun w' => Below wr.heap.size wr w' ∧ w'.cell? ⟨x, 0, none⟩ = some (.slice (some ad) n ce) ∧ w'.cell? ⟨x, 1, none⟩ = some vd ∧ w'.cell? (ads.add j) = some (.string s)) (ds := []) #[false, false, false, false, false, false, false] (by kernel_rfl) rfl rfl ⟨HBD.out, Z0.out, Z1.out, Z2.out⟩ (fun hHeld => ?_)
          refine pure_ (i := 1) (N := some 27) (v := ?_) (a' := ?_) #[false, true, false, false, false, false, false] rfl rfl (by kernel_rfl) (fun _ _ _ h => h) (Or.inl ⟨by rfl, ?_⟩) ?_ ?_
          rotate_left
          · intro w'
            go_simp
            with_reducible rfl
          rotate_left
          · simp only [Act.put, List.setIfInBounds_toArray, List.set_cons_zero, List.set_cons_succ, i64_w, i32_w]
            rfl
          refine pure_ (i := 2) (N := some 28) (v := ?_) (a' := ?_) #[false, true, true, false, false, false, false] rfl rfl (by kernel_rfl) (fun _ _ _ h => h) (Or.inl ⟨by rfl, ?_⟩) ?_ ?_
          rotate_left
          · intro w'
            go_simp
            with_reducible rfl
          rotate_left
          · simp only [Act.put, List.setIfInBounds_toArray, List.set_cons_zero, List.set_cons_succ, i64_w, i32_w]
            rfl
          refine pure_ (i := 3) (N := some 29) (v := ?_) (a' := ?_) #[false, true, true, true, false, false, false] rfl rfl (by kernel_rfl) (fun _ _ _ h => h) (Or.inl ⟨by rfl, ?_⟩) ?_ ?_
          rotate_left
          · intro w'
            go_simp
            with_reducible rfl
          rotate_left
          · simp only [Act.put, List.setIfInBounds_toArray, List.set_cons_zero, List.set_cons_succ, i64_w, i32_w]
            rfl
          refine take_ (i := 0) (N := some 26) (v := ?_) (a' := ?_) #[true, true, true, true, false, false, false] rfl rfl (by kernel_rfl) (fun _ _ _ h => h) (Or.inl ⟨by rfl, ?_⟩) hHeld ?_ ?_
          rotate_left
          · rintro w' ⟨s0, s1, s2, s3⟩
            go_simp
            with_reducible rfl
          rotate_left
          · simp only [Act.put, List.setIfInBounds_toArray, List.set_cons_zero, List.set_cons_succ, i64_w, i32_w]
            rfl
          refine take_ (i := 4) (N := some 30) (v := ?_) (a' := ?_) #[true, true, true, true, true, false, false] rfl rfl (by kernel_rfl) (fun _ _ _ h => h) (Or.inl ⟨by rfl, ?_⟩) hHeld ?_ ?_
          rotate_left
          · rintro w' ⟨s0, s1, s2, s3⟩
            go_simp
            with_reducible rfl
          rotate_left
          · simp only [Act.put, List.setIfInBounds_toArray, List.set_cons_zero, List.set_cons_succ, i64_w, i32_w]
            rfl
          refine one_ (i := 5) (N := some 31) #[true, true, true, true, true, true, false] rfl rfl (by kernel_rfl) (by decide) (fun K hK => ?_)
          refine goes_ Try.func27 (by kernel_rfl) rfl #[.agg #[.slice (some ad) n ce, vd], .string s] (by rfl) rfl rfl (by first | (simp only [List.map_toArray, List.map_cons, List.map_nil]; done) | (simp only [List.map_toArray, List.map_cons, List.map_nil]; rfl) | rfl) ?_
          with_reducible refine (rmaker_any _ es s _ _ _ rfl (HE5.out.below hHeld.1)).mono ?_
          rintro e w7 ⟨rfl, b7⟩
          refine ⟨_, rfl, ?_⟩
          have h7 := hHeld.1.trans (b7.mono hHeld.1.size)
          have HB7 := Lib.hid h7
          clear b7
          refine hK.out _ _ ⟨h7, pw_cell_below (h7) Z0.out, pw_cell_below (h7) Z1.out, pw_cell_below (h7) Z2.out⟩ (fun hHeld => ?_)
          clear hK K
          refine norm_ (a' := ?_) ?_ ?_
          rotate_left
          · show Act.put _ (some 31) _ = _
            simp only [Act.put, List.setIfInBounds_toArray, List.set_cons_zero, List.set_cons_succ, i64_w, i32_w]
            rfl
          refine pure_ (i := 6) (N := some 32) (v := ?_) (a' := ?_) #[true, true, true, true, true, true, true] rfl rfl (by kernel_rfl) (fun _ _ _ h => h) (Or.inl ⟨by rfl, ?_⟩) ?_ ?_
          rotate_left
          · intro w'
            go_simp
            with_reducible rfl
          rotate_left
          · simp only [Act.put, List.setIfInBounds_toArray, List.set_cons_zero, List.set_cons_succ, i64_w, i32_w]
            rfl
          refine done_ (by kernel_rfl) ?_
          clear hHeld
          have q2 := pw_cell_below HB7.out Z2.out
          have HV7 := Lib.hid (HV.out.below HB7.out)
          have HB8 := Lib.hid (HBJ.out.trans (HB7.out.mono HBJ.out.size))
          clear Z0 Z1 Z2 HE5 HBD
          try rw [d1]
          clear d1
          cases b with
          | true =>
            have HSF : Hid (srcF es (allNeeds (es.take k) ++ (needsV ey).take (j + 1)) = srcF es (allNeeds (es.take k) ++ (needsV ey).take j) ++ [s]) := by
              show _ = _
              have h : (makerOf es s).isSome = false := by have := HBE.out; cases hm : (makerOf es s).isSome <;> simp [hm] at this ⊢
              rw [HTJ.out.1, ← List.append_assoc, srcF_snoc, if_neg (by rw [h]; exact Bool.false_ne_true)]
            go_wp2_with fail
            refine (rput_any _ _ s _ HV7.out (putAll_up _ _ up_nil) HLW.out).mono ?_
            rintro e w9 ⟨v9, rfl, r9, b9⟩
            have HR9 : Hid (Ss w9 v9 (putAll [] (srcF es (allNeeds (es.take k) ++ (needsV ey).take (j + 1))))) := by show Ss _ _ _; rw [HSF.out, putAll_snoc]; exact r9
            have HB9 := Lib.hid (HB8.out.trans (b9.mono HB8.out.size))
            clear r9 b9 q2
            go_wp2
            go_roundw
            case rel => exact ⟨j + 1, by omega, by go_num, HR9.out, HB9.out⟩
            case measure => simp [intOf]; omega
          | false =>
            have HSF : Hid (srcF es (allNeeds (es.take k) ++ (needsV ey).take (j + 1)) = srcF es (allNeeds (es.take k) ++ (needsV ey).take j)) := by
              show _ = _
              have h : (makerOf es s).isSome = true := by have := HBE.out; cases hm : (makerOf es s).isSome <;> simp [hm] at this ⊢
              rw [HTJ.out.1, ← List.append_assoc, srcF_snoc, if_pos h]
            have HR9 : Hid (Ss w7 (.slice Av nv cv) (putAll [] (srcF es (allNeeds (es.take k) ++ (needsV ey).take (j + 1))))) := by show Ss _ _ _; rw [HSF.out]; exact HV7.out
            go_wp2
            clear q2
            go_roundw
            case rel => exact ⟨j + 1, by omega, by go_num, HR9.out, HB8.out⟩
            case measure => simp [intOf]; omega
        · have hj2 : j = n3 := by omega
          have HVF : Hid (Ss wr (.slice Av nv cv) (putAll [] (srcF es (allNeeds (es.take (k + 1)))))) := by
            have h := HV.out
            rw [hj2, HN3.out, List.take_length, ← HSN.out] at h
            exact h
          clear hj2 HV hb5
          go_wp2
          go_roundw
          case rel => exact ⟨k + 1, by omega, by go_num, HVF.out, HB5.out⟩
          case measure => simp [intOf]; omega
    · have hk2 : k = n := by omega
      have HVF : Hid (Ss wr (.slice Av nv cv) (sourcesV es)) := by
        have h := HV.out
        rw [hk2, HN.out, List.take_length, sources_same] at h
        exact h
      have HBF := Lib.hid (HB1.out.trans (HB.out.mono HB1.out.size))
      clear hk2 HV
      go_wp2
      go_ret
      exact ⟨⟨_, rfl, HVF.out⟩, HBF.out⟩
end Go.Proofs.Ytifbkojapfighaa.Gr
