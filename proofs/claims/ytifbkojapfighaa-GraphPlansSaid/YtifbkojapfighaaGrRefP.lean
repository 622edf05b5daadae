/- bellowsref13.Plan (walk). -/
import Derived.Test.YtifbkojapfighaaGrRefA
import Derived.Test.YtifbkojapfighaaGrRefPP
import Derived.Test.YtifbkojapfighaaHeapOps
namespace Go.Proofs.Ytifbkojapfighaa.Gr
open Go.RowKit Go.Proofs.YtifbkojapfighaaW.PrintWords Go.Proofs.YtifbkojapfighaaW.PrintLast Go.Proofs.Ytifbkojapfighaa.Base Go.Maps
set_option linter.unusedVariables false
set_option linter.unusedSimpArgs false
set_option maxRecDepth 100000 in
set_option maxHeartbeats 16000000 in
theorem rplan_any (v v2 : Value) (m : ManV) (ts : List ByteArray) (w : World) (ve vd : Value) (hv : v = .agg #[ve, vd]) (hE : Ez w ve m.edges) (hT : Ss w v2 ts) (hn30 : m.edges.length ≤ 1000) (hs : SmallG m) :
    Calls Try.prog 26 #[v, v2] w fun e w' => ((e = .returned (.tuple #[.slice none 0 0, .int .i64 6]) ∧ ¬ ∀ t ∈ ts, goodT m.edges t) ∨ (∃ v' l, e = .returned (.tuple #[v', .int .i64 0]) ∧ (∀ t ∈ ts, goodT m.edges t) ∧ IsReach (aheadV m.edges) (madeF (makerOf m.edges) ts) l ∧ Ir w.heap.size w' v' (orderV (aheadV m.edges) l))) ∧ Below w.heap.size w w' := by
  subst hv
  obtain ⟨At, ct, rfl, hct, hmt⟩ := ss_len hT
  obtain ⟨nt, hnt⟩ : ∃ nt, nt = ts.length := ⟨_, rfl⟩
  rw [← hnt] at hct hmt hT ⊢
  obtain ⟨Ae, ce, rfl, hce, hme⟩ := hE.len
  obtain ⟨n, hn⟩ : ∃ n, n = m.edges.length := ⟨_, rfl⟩
  rw [← hn] at hce hme hE ⊢
  have hn3 : n ≤ 1000 := by rw [hn]; exact hn30
  have HS := Lib.hid hs
  have HNT := Lib.hid hnt
  have H30 : Hid (m.edges.length ≤ 1000) := hn30
  have hmb := mk_bools n hn3
  obtain ⟨x, hx⟩ : ∃ x, w.heap.size = x := ⟨_, rfl⟩
  obtain ⟨w1, hw1⟩ : ∃ w1, w1 = w.alloc (.cells #[.slice Ae n ce, vd] 25) := ⟨_, rfl⟩
  have hb1 : Below w.heap.size w w1 := by rw [hw1]; exact below_alloc (Below.refl _ _) _
  have hX : w1.heap[x]? = some (.cells #[.slice Ae n ce, vd] 25 (0, 0)) := by rw [hw1, ← hx]; exact blk_new w _
  have HX := Lib.hid hX
  have HE1 := Lib.hid (hE.below hb1)
  have HT1 := Lib.hid (hT.below hb1)
  have HB1 := Lib.hid hb1
  have HW := Lib.hid hw1
  have HN := Lib.hid hn
  have q0 := (show w1.cell? ⟨x, 0, none⟩ = some (.slice Ae n ce) from blk_cell hX 0)
  have q1 := (show w1.cell? ⟨x, 1, none⟩ = some vd from blk_cell hX 1)
  clear hE hT hb1 hX hw1 hn hnt hs hn30
  go_enter Try.func26, Try.ntmps26
  go_upto_region 1 with (fail)
  rw [← HW.out]
  try rw [hx]
  clear hx
  go_wp2_with fail
  refine (below_any _ m _ _ _ rfl HE1.out H30.out HS.out.each).mono ?_
  rintro e w2 ⟨gb, r, M, rfl, hgr, hM⟩
  rw [← HN.out] at hgr hM ⊢
  have HGR := Lib.hid hgr
  have HMM := Lib.hid hM
  have hb2 := hgr.below
  have HB2 := Lib.hid (HB1.out.trans (hb2.mono HB1.out.size))
  have HX2 := Lib.hid ((hb2.block x (blk_lt HX.out)).trans HX.out)
  have HE2 := Lib.hid (HE1.out.below hb2)
  have HT2 := Lib.hid (HT1.out.below hb2)
  have q0' := (show w2.cell? ⟨x, 0, none⟩ = some (.slice Ae n ce) from blk_cell HX2.out 0)
  clear hgr hM hb2 q0 q1
  go_upto_region 3 with (fail)
  obtain ⟨gw, hgw⟩ : ∃ gw, w2.heap.size = gw := ⟨_, rfl⟩
  have HR3 : Hid (BR (w2.alloc (.cells (madeCells #[.bool false] n) 4)) gw n (fun _ => false)) := by show BR _ _ _ _; rw [← hgw]; exact BR.made w2 n
  have HB3 : Hid (Below w2.heap.size w2 (w2.alloc (.cells (madeCells #[.bool false] n) 4))) := below_alloc (Below.refl _ _) _
  try rw [hgw]
  have HGW := Lib.hid hgw
  clear hgw q0'
  generalize w2.alloc (.cells (madeCells #[.bool false] n) 4) = w3 at HR3 HB3 ⊢
  have HX3 := Lib.hid ((HB3.out.block x (blk_lt HX2.out)).trans HX2.out)
  have HE3 := Lib.hid (HE2.out.below HB3.out)
  have q0 := (show w3.cell? ⟨x, 0, none⟩ = some (.slice Ae n ce) from blk_cell HX3.out 0)
  have q1 := (show w3.cell? ⟨x, 1, none⟩ = some vd from blk_cell HX3.out 1)
  go_wp2_with fail
  refine (rsources_any _ m.edges _ _ _ rfl HE3.out HS.out.each HS.out.needs).mono ?_
  rintro e w4 ⟨⟨v4, rfl, r4⟩, b4⟩
  have HS4 := Lib.hid r4
  obtain ⟨A4, cs4, e4, _, _⟩ := ss_len r4
  obtain ⟨n4, hn4⟩ : ∃ n4, n4 = (sourcesV m.edges).length := ⟨_, rfl⟩
  rw [← hn4] at e4
  subst e4
  have HR4 := Lib.hid (HR3.out.below b4)
  have HB4 := Lib.hid (HB3.out.trans (b4.mono HB3.out.size))
  clear r4 b4 hn4 q0 q1 HR3 HX3 HE3
  go_wp2
  --S1
  go_loopw [9] (fun i wr => ∃ (k : Nat) (f : Nat → Bool), k ≤ nt ∧ i = .int .i64 k ∧ Hid (BR wr gw n f) ∧ Hid (∀ b, b < n → (f b = true ↔ Want m.edges (ts.take k) b)) ∧ Hid (∀ j, j < k → goodT m.edges (ts.getD j ByteArray.empty)) ∧ Hid (Below w2.heap.size w2 wr) ∧ Hid (Ss wr (.slice A4 n4 cs4) (sourcesV m.edges))) (fun i _ => nt - (intOf i).toNat)
  case atStart => exact ⟨0, _, by omega, rfl, HR4.out, fun b _ => ⟨fun h => (by cases h), fun h => absurd h (want_nil _ _)⟩, fun j hj => absurd hj (Nat.not_lt_zero _), HB4.out, HS4.out⟩
  case round =>
    clear HR4 HB4 HS4 HB3
    obtain ⟨k, f, hk, rfl, HR, HF, HG, HB, HSO⟩ := hrel
    by_cases l1 : k < nt
    · have hkl : k < ts.length := by rw [← HNT.out]; exact l1
      obtain ⟨ad, e1, qs⟩ := ss_get (HT2.out.below HB.out) k hkl
      subst e1
      have HTK := Lib.hid (take_at ts ByteArray.empty k hkl)
      obtain ⟨s, hs⟩ : ∃ s, s = ts.getD k ByteArray.empty := ⟨_, rfl⟩
      rw [← hs] at qs HTK
      have HSK := Lib.hid hs
      have Z0 : Hid (wr.cell? ⟨x, 0, none⟩ = some (.slice Ae n ce)) := blk_cell ((HB.out.block x (blk_lt HX2.out)).trans HX2.out) 0
      have Z1 : Hid (wr.cell? ⟨x, 1, none⟩ = some vd) := blk_cell ((HB.out.block x (blk_lt HX2.out)).trans HX2.out) 1
      have Z2 := Lib.hid qs
      have HEW := Lib.hid (HE2.out.below HB.out)
      have HBD : Hid (Below wr.heap.size wr wr.drew) := Below.drew (Below.refl _ _)
      obtain ⟨xi, hxi⟩ : ∃ xi, xi = mkI m.edges s := ⟨_, rfl⟩
      have HXI := Lib.hid hxi
      clear hkl hs qs hxi
      go_wp2
      refine start_ (n := 7) (S := fun w' => Below wr.heap.size wr w' ∧ w'.cell? ⟨x, 0, none⟩ = some (.slice Ae n ce) ∧ w'.cell? ⟨x, 1, none⟩ = some vd ∧ w'.cell? (ad.add k) = some (.string s)) (ds := []) #[false, false, false, false, false, false, false] (by kernel_rfl) rfl rfl ⟨HBD.out, Z0.out, Z1.out, Z2.out⟩ (fun hHeld => ?_)
      refine pure_ (i := 1) (N := some 33) (v := ?_) (a' := ?_) #[false, true, false, false, false, false, false] rfl rfl (by kernel_rfl) (fun _ _ _ h => h) (Or.inl ⟨by rfl, ?_⟩) ?_ ?_
      rotate_left
      · intro w'
        go_simp
        with_reducible rfl
      rotate_left
      · simp only [Act.put, List.setIfInBounds_toArray, List.set_cons_zero, List.set_cons_succ, i64_w, i32_w]
        rfl
      refine pure_ (i := 2) (N := some 34) (v := ?_) (a' := ?_) #[false, true, true, false, false, false, false] rfl rfl (by kernel_rfl) (fun _ _ _ h => h) (Or.inl ⟨by rfl, ?_⟩) ?_ ?_
      rotate_left
      · intro w'
        go_simp
        with_reducible rfl
      rotate_left
      · simp only [Act.put, List.setIfInBounds_toArray, List.set_cons_zero, List.set_cons_succ, i64_w, i32_w]
        rfl
      refine pure_ (i := 3) (N := some 35) (v := ?_) (a' := ?_) #[false, true, true, true, false, false, false] rfl rfl (by kernel_rfl) (fun _ _ _ h => h) (Or.inl ⟨by rfl, ?_⟩) ?_ ?_
      rotate_left
      · intro w'
        go_simp
        with_reducible rfl
      rotate_left
      · simp only [Act.put, List.setIfInBounds_toArray, List.set_cons_zero, List.set_cons_succ, i64_w, i32_w]
        rfl
      refine take_ (i := 0) (N := some 32) (v := ?_) (a' := ?_) #[true, true, true, true, false, false, false] rfl rfl (by kernel_rfl) (fun _ _ _ h => h) (Or.inl ⟨by rfl, ?_⟩) hHeld ?_ ?_
      rotate_left
      · rintro w' ⟨s0, s1, s2, s3⟩
        go_simp
        with_reducible rfl
      rotate_left
      · simp only [Act.put, List.setIfInBounds_toArray, List.set_cons_zero, List.set_cons_succ, i64_w, i32_w]
        rfl
      refine take_ (i := 4) (N := some 36) (v := ?_) (a' := ?_) #[true, true, true, true, true, false, false] rfl rfl (by kernel_rfl) (fun _ _ _ h => h) (Or.inl ⟨by rfl, ?_⟩) hHeld ?_ ?_
      rotate_left
      · rintro w' ⟨s0, s1, s2, s3⟩
        go_simp
        with_reducible rfl
      rotate_left
      · simp only [Act.put, List.setIfInBounds_toArray, List.set_cons_zero, List.set_cons_succ, i64_w, i32_w]
        rfl
      refine one_ (i := 5) (N := some 37) #[true, true, true, true, true, true, false] rfl rfl (by kernel_rfl) (by decide) (fun K hK => ?_)
      refine goes_ Try.func27 (by kernel_rfl) rfl #[.agg #[.slice Ae n ce, vd], .string s] (by rfl) rfl rfl (by first | (simp only [List.map_toArray, List.map_cons, List.map_nil]; done) | (simp only [List.map_toArray, List.map_cons, List.map_nil]; rfl) | rfl) ?_
      with_reducible refine (rmaker_any _ m.edges s _ _ _ rfl (HEW.out.below hHeld.1)).mono ?_
      rintro e w7 ⟨rfl, b7⟩
      refine ⟨_, rfl, ?_⟩
      rw [← HXI.out]
      have h7 := hHeld.1.trans (b7.mono hHeld.1.size)
      have HB7 := Lib.hid h7
      clear b7
      refine hK.out _ _ ⟨h7, pw_cell_below (h7) Z0.out, pw_cell_below (h7) Z1.out, pw_cell_below (h7) Z2.out⟩ (fun hHeld => ?_)
      clear hK K
      refine norm_ (a' := ?_) ?_ ?_
      rotate_left
      · show Act.put _ (some 37) _ = _
        simp only [Act.put, List.setIfInBounds_toArray, List.set_cons_zero, List.set_cons_succ, i64_w, i32_w]
        rfl
      refine pure_ (i := 6) (N := some 10) (v := ?_) (a' := ?_) #[true, true, true, true, true, true, true] rfl rfl (by kernel_rfl) (fun _ _ _ h => h) (Or.inl ⟨by rfl, ?_⟩) ?_ ?_
      rotate_left
      · intro w'
        go_simp
        with_reducible rfl
      rotate_left
      · simp only [Act.put, List.setIfInBounds_toArray, List.set_cons_zero, List.set_cons_succ, i64_w, i32_w]
        rfl
      refine done_ (by kernel_rfl) ?_
      clear hHeld
      have qs := pw_cell_below HB7.out Z2.out
      have HR7 := Lib.hid (HR.out.below HB7.out)
      have HB8 := Lib.hid (HB.out.trans (HB7.out.mono HB.out.size))
      have HSO7 := Lib.hid (HSO.out.below HB7.out)
      clear Z0 Z1 Z2 HEW HBD HR HB HSO HB7
      obtain ⟨t, ht⟩ : ∃ t, t = makerOf m.edges s := ⟨_, rfl⟩
      cases t with
      | none =>
        have hx1 : xi = -1 := by
          have h := HXI.out
          unfold mkI at h
          rw [← ht] at h
          exact h
        have HF2 : Hid (∀ b, b < n → (f b = true ↔ Want m.edges (ts.take (k + 1)) b)) := fun b hb => by
          rw [HTK.out.1, want_snoc, ← ht, HF.out b hb]
          simp
        have HMK : Hid (makerOf m.edges s = none) := ht.symm
        subst hx1
        obtain ⟨b, hb⟩ : ∃ b, b = decide (s ∈ sourcesV m.edges) := ⟨_, rfl⟩
        have HBE := Lib.hid hb
        clear hb ht
        go_wp2_with fail
        refine (in_any _ _ s _ HSO7.out).mono ?_
        rintro e w8 ⟨rfl, hw8⟩
        have hw8 := hw8.symm
        subst hw8
        rw [← HBE.out]
        cases b with
        | false =>
          have HBZ := Lib.hid (HB2.out.trans (HB8.out.mono HB2.out.size))
          clear qs
          go_wp2
          go_ret2
          refine ⟨.inl ⟨rfl, fun h => ?_⟩, HBZ.out⟩
          rcases h s HTK.out.2 with h | h
          · exact of_decide_eq_false HBE.out.symm h
          · rw [HMK.out] at h; cases h
        | true =>
          have HG2 : Hid (∀ j, j < k + 1 → goodT m.edges (ts.getD j ByteArray.empty)) := fun j hj => by
            rcases Nat.lt_succ_iff_lt_or_eq.1 hj with h | h
            · exact HG.out j h
            · rw [h, ← HSK.out]; exact .inl (of_decide_eq_true HBE.out.symm)
          clear qs
          go_wp2
          obtain ⟨wo, hwo⟩ : ∃ wo, wo = w7 := ⟨_, rfl⟩
          subst hwo
          go_loopw [11] (fun i wr => i = .int .i64 0 ∧ wr = wo) (fun i _ => 0)
          case atStart => exact ⟨rfl, rfl⟩
          case round =>
            obtain ⟨rfl, hwr⟩ := hrel
            have hwr := hwr.symm
            subst hwr
            by_cases hn0 : 0 < n
            · have d1 : decide ((0 : Int) < (n : Int)) = true := decide_eq_true (by omega)
              have d2 : decide (0 < n) = true := decide_eq_true hn0
              go_wp2
              go_roundw
              case rel => exact ⟨k + 1, _, by omega, by go_num, HR7.out, HF2.out, HG2.out, HB8.out, HSO7.out⟩
              case measure => simp [intOf]; omega
            · have d1 : decide ((0 : Int) < (n : Int)) = false := decide_eq_false (by omega)
              have d2 : decide (0 < n) = false := decide_eq_false hn0
              go_wp2
              go_roundw
              case rel => exact ⟨k + 1, _, by omega, by go_num, HR7.out, HF2.out, HG2.out, HB8.out, HSO7.out⟩
              case measure => simp [intOf]; omega
      | some z =>
        have hx1 : xi = (z : Int) := by
          have h := HXI.out
          unfold mkI at h
          rw [← ht] at h
          exact h
        have hzn : z < n := by rw [HN.out]; exact maker_lt ht.symm
        have HF2 : Hid (∀ b, b < n → (Want m.edges (ts.take (k + 1)) b ↔ (f b = true ∨ (b = z ∨ TC (Ed (aheadV m.edges)) z b)))) := fun b hb => by
          rw [HTK.out.1, want_snoc, ← ht, HF.out b hb]
          simp
        have HG2 : Hid (∀ j, j < k + 1 → goodT m.edges (ts.getD j ByteArray.empty)) := fun j hj => by
          rcases Nat.lt_succ_iff_lt_or_eq.1 hj with h | h
          · exact HG.out j h
          · rw [h, ← HSK.out]; exact .inr (by rw [← ht]; rfl)
        subst hx1
        clear ht qs
        go_wp2
        --S2
        go_loopw [11] (fun i wr => ∃ (j : Nat) (f2 : Nat → Bool), j ≤ n ∧ i = .int .i64 j ∧ Hid (BR wr gw n f2) ∧ Hid (∀ b, b < n → (f2 b = true ↔ (f b = true ∨ (b < j ∧ (b = z ∨ TC (Ed (aheadV m.edges)) z b))))) ∧ Hid (Below w2.heap.size w2 wr) ∧ Hid (Ss wr (.slice A4 n4 cs4) (sourcesV m.edges))) (fun i _ => n - (intOf i).toNat)
        case atStart => exact ⟨0, _, by omega, rfl, HR7.out, fun b _ => by simp, HB8.out, HSO7.out⟩
        case round =>
          clear HR7 HB8 HSO7
          obtain ⟨j, f2, hj, rfl, HR2, HFJ, HBJ, HSJ⟩ := hrel
          by_cases l2 : j < n
          · have HGJ := Lib.hid (HGR.out.moved HBJ.out)
            have c1 := HR2.out.cell l2
            have c2 := HR2.out.free j
            have c3 := HGJ.out.cell hzn
            have c4 := HGJ.out.bit hzn l2
            obtain ⟨bf, hbf⟩ : ∃ bf, bf = f2 j := ⟨_, rfl⟩
            obtain ⟨bm, hbm⟩ : ∃ bm, bm = M z j := ⟨_, rfl⟩
            rw [← hbf] at c1
            rw [← hbm] at c4
            have HNEW : Hid (∀ nb : Bool, (nb = true ↔ (bf = true ∨ j = z ∨ bm = true)) → ∀ b, b < n → ((if b = j then nb else f2 b) = true ↔ (f b = true ∨ (b < j + 1 ∧ (b = z ∨ TC (Ed (aheadV m.edges)) z b))))) := fun nb hnb b hb => by
              have hMz := HMM.out z j hzn l2
              by_cases hbj : b = j
              · subst hbj
                rw [if_pos rfl, hnb, hbf, HFJ.out b hb, hbm, hMz]
                constructor
                · rintro ((h | ⟨h, _⟩) | h | h)
                  · exact .inl h
                  · omega
                  · exact .inr ⟨by omega, .inl h⟩
                  · exact .inr ⟨by omega, .inr h⟩
                · rintro (h | ⟨_, h | h⟩)
                  · exact .inl (.inl h)
                  · exact .inr (.inl h)
                  · exact .inr (.inr h)
              · rw [if_neg hbj, HFJ.out b hb]
                constructor
                · rintro (h | ⟨h1, h2⟩)
                  · exact .inl h
                  · exact .inr ⟨by omega, h2⟩
                · rintro (h | ⟨h1, h2⟩)
                  · exact .inl h
                  · exact .inr ⟨by omega, h2⟩
            have HSETB : Hid (∀ nb : Bool, BR (wr.setCell ⟨gw, j, none⟩ (.bool nb)) gw n (fun x => if x = j then nb else f2 x) ∧ Below w2.heap.size w2 (wr.setCell ⟨gw, j, none⟩ (.bool nb)) ∧ Ss (wr.setCell ⟨gw, j, none⟩ (.bool nb)) (.slice A4 n4 cs4) (sourcesV m.edges)) := fun nb => ⟨HR2.out.setb j nb, HBJ.out.setCell (by rw [HGW.out]; exact Nat.le_refl _) _, Ss.setBR HSJ.out HR2.out j nb⟩
            clear hbf hbm
            cases bf with
            | true =>
              have HR9 := Lib.hid (HSETB.out true)
              have HF9 := Lib.hid (HNEW.out true (by simp))
              go_wp2
              go_roundw
              case rel => exact ⟨j + 1, _, by omega, by go_num, HR9.out.1, HF9.out, HR9.out.2.1, HR9.out.2.2⟩
              case measure => simp [intOf]; omega
            | false =>
              by_cases hjz : j = z
              · have HR9 := Lib.hid (HSETB.out true)
                have HF9 := Lib.hid (HNEW.out true (by simp [hjz]))
                have d1 : ((j : Int) == (z : Int)) = true := by rw [hjz]; exact beq_self_eq_true _
                clear hjz
                go_wp2
                go_roundw
                case rel => exact ⟨j + 1, _, by omega, by go_num, HR9.out.1, HF9.out, HR9.out.2.1, HR9.out.2.2⟩
                case measure => simp [intOf]; omega
              · have HR9 := Lib.hid (HSETB.out bm)
                have HF9 := Lib.hid (HNEW.out bm (by simp [hjz]))
                have d1 : ((j : Int) == (z : Int)) = false := by rw [beq_eq_false_iff_ne]; omega
                clear hjz
                go_wp2
                go_roundw
                case rel => exact ⟨j + 1, _, by omega, by go_num, HR9.out.1, HF9.out, HR9.out.2.1, HR9.out.2.2⟩
                case measure => simp [intOf]; omega
          · have hj2 : j = n := by omega
            have HF9 : Hid (∀ b, b < n → (f2 b = true ↔ Want m.edges (ts.take (k + 1)) b)) := fun b hb => by
              rw [HF2.out b hb, HFJ.out b hb, hj2]
              constructor
              · rintro (h | ⟨_, h⟩)
                · exact .inl h
                · exact .inr h
              · rintro (h | h)
                · exact .inl h
                · exact .inr ⟨hb, h⟩
            clear hj2
            go_wp2
            go_roundw
            case rel => exact ⟨k + 1, _, by omega, by go_num, HR2.out, HF9.out, HG2.out, HBJ.out, HSJ.out⟩
            case measure => simp [intOf]; omega
    · have hk2 : k = nt := by omega
      have HFW : Hid (∀ b, b < n → (f b = true ↔ Want m.edges ts b)) := by
        have h := HF.out
        rw [hk2, HNT.out, List.take_length] at h
        exact h
      have HGOOD : Hid (∀ t ∈ ts, goodT m.edges t) := fun t ht => by
        obtain ⟨j, hj, e⟩ := List.mem_iff_getElem.1 ht
        have h := HG.out j (by rw [hk2, HNT.out]; exact hj)
        rw [List.getD_eq_getElem?_getD, List.getElem?_eq_getElem hj] at h
        rw [← e]
        exact h
      have HIS : Hid (IsReach (aheadV m.edges) (madeF (makerOf m.edges) ts) ((List.range m.edges.length).filter f)) := want_isReach (fun b hb => HFW.out b (by rw [HN.out]; exact hb))
      have HL1 : Hid (∀ b, b ∈ (List.range m.edges.length).filter f ↔ b < n ∧ f b = true) := fun b => by rw [List.mem_filter, List.mem_range, ← HN.out]
      have HLL : Hid (((List.range m.edges.length).filter f).length ≤ n) := by
        have h := List.length_filter_le f (List.range m.edges.length)
        rw [List.length_range] at h
        show _ ≤ _
        rw [HN.out]
        exact h
      generalize (List.range m.edges.length).filter f = l1 at HIS HL1 HLL
      obtain ⟨w5, hw5⟩ : ∃ w5, w5 = wr := ⟨_, rfl⟩
      subst hw5
      have X5 := (HB.out.block x (blk_lt HX2.out)).trans HX2.out
      have q0 := (show w5.cell? ⟨x, 0, none⟩ = some (.slice Ae n ce) from blk_cell X5 0)
      have HB5 := Lib.hid (HB2.out.trans (HB.out.mono HB2.out.size))
      have HG5 := Lib.hid (HGR.out.moved HB.out)
      clear hk2 HF HG X5 HSO
      go_upto_region 16 with (fail)
      obtain ⟨gd, hgd⟩ : ∃ gd, w5.heap.size = gd := ⟨_, rfl⟩
      have HD6 : Hid (BR (w5.alloc (.cells (madeCells #[.bool false] n) 4)) gd n (fun _ => false)) := by show BR _ _ _ _; rw [← hgd]; exact BR.made w5 n
      have hal := below_alloc (Below.refl w5.heap.size w5) (.cells (madeCells #[.bool false] n) 4)
      have HB6 := Lib.hid hal
      try rw [hgd]
      have HGD := Lib.hid hgd
      clear hgd q0 hal hmb
      generalize w5.alloc (.cells (madeCells #[.bool false] n) 4) = w6 at HD6 HB6 ⊢
      --S3
      go_loopw [12] (fun v wr => ∃ (out : List Nat) (F : Nat) (g : Nat → Bool), Hid (BR wr gd n g) ∧ Hid (∀ b, b < n → (g b = true ↔ b ∈ out)) ∧ Hid (Od (aheadV m.edges) l1 out F) ∧ Hid (Topo (aheadV m.edges) out) ∧ Hid (Ir w5.heap.size wr v out) ∧ Hid (Below w5.heap.size w5 wr)) (fun v _ => n - sliceLen v)
      case atStart => exact ⟨[], _, _, HD6.out, fun b _ => ⟨fun h => (by cases h), fun h => (by cases h)⟩, od_start _ _, .nil, Kd.R_nil _ _ _ _ _, HB6.out⟩
      case round =>
        clear HD6 HB6
        obtain ⟨out, F, g, HD, HGO, HOD, HTO, HV, HB6⟩ := hrel
        obtain ⟨Ao, co, eo⟩ := Kd.R_slice HV.out
        obtain ⟨no, hno⟩ : ∃ no, no = out.length := ⟨_, rfl⟩
        rw [List.length_map, ← hno] at eo
        subst eo
        have hno2 : no ≤ n := by have h1 := HOD.out.len; have h2 := HLL.out; omega
        have HNO := Lib.hid hno
        have HWB := Lib.hid (HR.out.below HB6.out)
        have HGB := Lib.hid (HG5.out.moved HB6.out)
        obtain ⟨w7, hw7⟩ : ∃ w7, w7 = wr := ⟨_, rfl⟩
        subst hw7
        have HCAND : Hid (∀ y, y < n → (f y = true ∧ g y = false ∧ (∀ i, i < n → M y i = true → g i = true) ↔ y ∈ l1 ∧ readyB (aheadV m.edges) out y = true)) := fun y hy => by
          have h1 := ready_all (k := y) HTO.out (fun b hb => HMM.out y b hy (by rw [HN.out]; exact hb)) (g := g) (fun b hb => HGO.out b (by rw [HN.out]; exact hb))
          rw [← HN.out] at h1
          have h2 := HGO.out y hy
          rw [h1, HL1.out, ready_iff]
          constructor
          · rintro ⟨a, b, c⟩
            exact ⟨⟨hy, a⟩, (fun h => by rw [h2.2 h] at b; cases b), c⟩
          · rintro ⟨⟨_, a⟩, b, c⟩
            exact ⟨a, (by cases hg : g y with | false => rfl | true => exact absurd (h2.1 hg) b), c⟩
        clear hno
        go_wp2
        --S4
        go_loopw [14, 15] (fun nx i wr => ∃ (k : Nat), k ≤ n ∧ i = .int .i64 k ∧ ((nx = .int .i64 (-1) ∧ Hid (∀ j, j < k → ¬ (f j = true ∧ g j = false ∧ ∀ i, i < n → M j i = true → g i = true))) ∨ ∃ y, nx = .int .i64 (y : Nat) ∧ y < n ∧ Hid (f y = true ∧ g y = false ∧ ∀ i, i < n → M y i = true → g i = true) ∧ Hid (∀ j, j < y → ¬ (f j = true ∧ g j = false ∧ ∀ i, i < n → M j i = true → g i = true))) ∧ wr = w7) (fun _ i _ => n - (intOf i).toNat)
        case atStart => exact ⟨0, by omega, rfl, .inl ⟨rfl, fun j hj => absurd hj (Nat.not_lt_zero _)⟩, rfl⟩
        case round =>
          obtain ⟨k, hk, rfl, hnx, hwr⟩ := hrel
          have hwr := hwr.symm
          subst hwr
          rcases hnx with ⟨rfl, HNC⟩ | ⟨y, rfl, hyn, HCY, HNC⟩
          · by_cases l3 : k < n
            · have c1 := HWB.out.cell l3
              have c2 := HD.out.cell l3
              obtain ⟨bf, hbf⟩ : ∃ bf, bf = f k := ⟨_, rfl⟩
              obtain ⟨bg, hbg⟩ : ∃ bg, bg = g k := ⟨_, rfl⟩
              rw [← hbf] at c1
              rw [← hbg] at c2
              have HBF := Lib.hid hbf
              have HBG := Lib.hid hbg
              clear hbf hbg
              have HSKIP : Hid (¬ (f k = true ∧ g k = false ∧ ∀ i, i < n → M k i = true → g i = true) → ∀ j, j < k + 1 → ¬ (f j = true ∧ g j = false ∧ ∀ i, i < n → M j i = true → g i = true)) := fun h j hj => by
                rcases Nat.lt_succ_iff_lt_or_eq.1 hj with h2 | h2
                · exact HNC.out j h2
                · rw [h2]; exact h
              cases bf with
              | false =>
                have HN2 := Lib.hid (HSKIP.out (fun h => by rw [← HBF.out] at h; exact absurd h.1 (by simp)))
                go_wp2
                clear c1 c2
                go_roundw
                case rel => exact ⟨k + 1, by omega, by go_num, .inl ⟨rfl, HN2.out⟩, trivial⟩
                case measure => simp [intOf]; omega
              | true =>
                cases bg with
                | true =>
                  have HN2 := Lib.hid (HSKIP.out (fun h => by rw [← HBG.out] at h; exact absurd h.2.1 (by simp)))
                  go_wp2
                  clear c1 c2
                  go_roundw
                  case rel => exact ⟨k + 1, by omega, by go_num, .inl ⟨rfl, HN2.out⟩, trivial⟩
                  case measure => simp [intOf]; omega
                | false =>
                  go_wp2
                  clear c1 c2
                  --S5
                  go_loopw [16, 17] (fun u i wr => ∃ (j : Nat) (b : Bool), j ≤ n ∧ i = .int .i64 j ∧ u = .bool b ∧ Hid (b = true ↔ ∀ i, i < j → M k i = true → g i = true) ∧ wr = w7) (fun _ i _ => n - (intOf i).toNat)
                  case atStart => exact ⟨0, true, by omega, rfl, rfl, ⟨fun _ j hj => absurd hj (Nat.not_lt_zero _), fun _ => rfl⟩, rfl⟩
                  case round =>
                    obtain ⟨j, b, hj, rfl, rfl, HBJ, hwr⟩ := hrel
                    have hwr := hwr.symm
                    subst hwr
                    by_cases l4 : j < n
                    · have c3 := HGB.out.cell l3
                      have c4 := HGB.out.bit l3 l4
                      have c5 := HD.out.cell l4
                      obtain ⟨bm, hbm⟩ : ∃ bm, bm = M k j := ⟨_, rfl⟩
                      obtain ⟨bj, hbj⟩ : ∃ bj, bj = g j := ⟨_, rfl⟩
                      rw [← hbm] at c4
                      rw [← hbj] at c5
                      have HNB : Hid (∀ nb : Bool, (nb = true ↔ (b = true ∧ (bm = false ∨ bj = true))) → (nb = true ↔ ∀ i, i < j + 1 → M k i = true → g i = true)) := fun nb h => by
                        rw [h, HBJ.out, hbm, hbj]
                        constructor
                        · rintro ⟨h1, h2⟩ i hi hm
                          rcases Nat.lt_succ_iff_lt_or_eq.1 hi with h3 | h3
                          · exact h1 i h3 hm
                          · rw [h3] at hm ⊢
                            rcases h2 with h2 | h2
                            · rw [h2] at hm; cases hm
                            · exact h2
                        · intro h1
                          refine ⟨fun i hi => h1 i (by omega), ?_⟩
                          cases hm : M k j with
                          | false => exact .inl rfl
                          | true => exact .inr (h1 j (by omega) hm)
                      clear hbm hbj
                      cases b with
                      | false =>
                        have HN9 := Lib.hid (HNB.out false (by simp))
                        go_wp2
                        clear c3 c4 c5
                        go_roundw
                        case rel => exact ⟨j + 1, _, by omega, by go_num, rfl, HN9.out, trivial⟩
                        case measure => simp [intOf]; omega
                      | true =>
                        cases bm with
                        | false =>
                          have HN9 := Lib.hid (HNB.out true (by simp))
                          go_wp2
                          clear c3 c4 c5
                          go_roundw
                          case rel => exact ⟨j + 1, _, by omega, by go_num, rfl, HN9.out, trivial⟩
                          case measure => simp [intOf]; omega
                        | true =>
                          have HN9 := Lib.hid (HNB.out bj (by simp))
                          go_wp2
                          clear c3 c4 c5
                          go_roundw
                          case rel => exact ⟨j + 1, _, by omega, by go_num, rfl, HN9.out, trivial⟩
                          case measure => simp [intOf]; omega
                    · have hj2 : j = n := by omega
                      have HBN : Hid (b = true ↔ ∀ i, i < n → M k i = true → g i = true) := by
                        have h := HBJ.out
                        rw [hj2] at h
                        exact h
                      clear hj2 HBJ
                      cases b with
                      | true =>
                        have HC9 : Hid (f k = true ∧ g k = false ∧ ∀ i, i < n → M k i = true → g i = true) := ⟨HBF.out.symm, HBG.out.symm, HBN.out.1 rfl⟩
                        go_wp2
                        go_roundw
                        case rel => exact ⟨k + 1, by omega, by go_num, .inr ⟨k, rfl, l3, HC9.out, HNC.out⟩, trivial⟩
                        case measure => simp [intOf]; omega
                      | false =>
                        have HN2 := Lib.hid (HSKIP.out (fun h => by have := HBN.out.2 h.2.2; cases this))
                        go_wp2
                        go_roundw
                        case rel => exact ⟨k + 1, by omega, by go_num, .inl ⟨rfl, HN2.out⟩, trivial⟩
                        case measure => simp [intOf]; omega
            · have hk2 : k = n := by omega
              have HEND : Hid (out = orderV (aheadV m.edges) l1) := HOD.out.done (fun y hy => by
                have hyn : y < n := ((HL1.out y).1 hy).1
                cases hr : readyB (aheadV m.edges) out y with
                | false => rfl
                | true => exact absurd ((HCAND.out y hyn).2 ⟨hy, hr⟩) (HNC.out y (by rw [hk2]; exact hyn)))
              have HVF : Hid (Ir w.heap.size w7 (.slice Ao no co) (orderV (aheadV m.edges) l1)) := by
                show (Kd.int .i64).R _ _ _ _ _ _
                rw [← HEND.out]
                exact Kd.R_lower HV.out HB5.out.size
              have HBF := Lib.hid (HB5.out.trans (HB6.out.mono HB5.out.size))
              clear hk2
              go_wp2
              go_ret2
              exact ⟨.inr ⟨_, rfl, HGOOD.out, l1, HIS.out, HVF.out⟩, HBF.out⟩
          · have HY1 := Lib.hid ((HCAND.out y hyn).1 HCY.out)
            obtain ⟨F', hF'⟩ := first_next HOD.out HIS.out.up HY1.out.1 HY1.out.2 (fun j hj h => HNC.out j hj ((HCAND.out j (by omega)).2 h))
            have HOD2 := Lib.hid hF'
            have HTO2 := Lib.hid (topo_next HTO.out HY1.out.2)
            have hlt2 : no + 1 ≤ n := by
              have h1 := hF'.len
              have h2 := HLL.out
              rw [List.length_append, List.length_singleton, ← HNO.out] at h1
              omega
            have c1 := HD.out.cell hyn
            have c2 := HD.out.free y
            have HD2 := Lib.hid (HD.out.set y)
            have HGO2 : Hid (∀ b, b < n → ((if b = y then true else g b) = true ↔ b ∈ out ++ [y])) := fun b hb => by
              rw [List.mem_append, List.mem_singleton, ← HGO.out b hb]
              by_cases hby : b = y
              · simp [hby]
              · simp [hby]
            have HBS : Hid (Below w5.heap.size w5 (w7.setCell ⟨gd, y, none⟩ (.bool true))) := HB6.out.setCell (by rw [HGD.out]; exact Nat.le_refl _) _
            have HVS : Hid (Ir w5.heap.size (w7.setCell ⟨gd, y, none⟩ (.bool true)) (.slice Ao no co) out) := R_q HV.out (q := gd) (fun t ht => not_cells HD.out (by
              rcases List.mem_cons.1 ht with rfl | h
              · decide
              · cases h)) (fun k _ hk => Below.heap_setCell _ _ _ _ hk)
            clear hF'
            by_cases l3 : k < n
            all_goals
              go_upto_region 31 with (fail)
              clear c1 c2
              generalize w7.setCell ⟨gd, y, none⟩ (.bool true) = w8 at HD2 HBS HVS ⊢
              go_wp2_with (at_builtin; refine Held.of ?_)
              refine Held.out (Kd.R_append (Kd.int .i64) (w0 := w5) w5.heap.size rfl (.tmp 136) (.tmp 138) 37 3 (.int .i64 0) 8 rfl Try.underlying37 (by kernel_rfl) rfl (by decide) (by decide) _ (ints out) (y : Int) [.int .i64 (y : Int)] (fun _ => True) (fun _ => False) rfl rfl rfl (fun _ h => h.elim) (fun _ _ => trivial) HVS.out HBS.out HBS.out.size (by rw [List.length_map, ← HNO.out]; omega) ?_)
              intro v9 w9 r9 b9 g9 _
              have HV9 : Hid (Ir w5.heap.size w9 v9 (out ++ [y])) := by
                show (Kd.int .i64).R _ _ _ _ _ _
                unfold ints
                rw [List.map_append]
                exact r9
              have HB9 := Lib.hid b9
              have HD9 : Hid (BR w9 gd n (fun x => if x = y then true else g x)) := (grown_ne g9 (blk_lt HD2.out) (fun e => by
                obtain ⟨cells, hc⟩ := R_rowed HVS.out gd e.symm
                have h2 : w8.heap[gd]? = some (.cells (rowOf n fun x => if x = y then true else g x) 4 (0, 0)) := HD2.out
                rw [h2] at hc
                injection hc with hc
                injection hc with _ hc
                exact absurd hc (by decide))).trans HD2.out
              obtain ⟨A9, c9, e9⟩ := Kd.R_slice r9
              have hn9 : (ints out ++ [(y : Int)]).length = no + 1 := by rw [List.length_append, List.length_map, ← HNO.out]; rfl
              rw [hn9] at e9
              subst e9
              clear r9 b9 g9 hn9
              go_wp2
              go_roundw
              case rel => exact ⟨_, _, _, HD9.out, HGO2.out, HOD2.out, HTO2.out, HV9.out, HB9.out⟩
              case measure => simp [sliceLen]; omega
end Go.Proofs.Ytifbkojapfighaa.Gr
