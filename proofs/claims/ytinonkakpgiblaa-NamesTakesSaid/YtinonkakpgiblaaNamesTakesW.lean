/- NamesTakes (walk). -/
import Derived.Test.YtinonkakpgiblaaNamTwo
import Derived.Test.YtinonkakpgiblaaNamLight
namespace Go.Proofs.Ytinonkakpgiblaa.Nam
open Go.RowKit Go.Proofs.YtinonkakpgiblaaW.PrintWords Go.Proofs.YtinonkakpgiblaaW.PrintLast Go.Proofs.Ytinonkakpgiblaa.Base Go.Proofs.Ytinonkakpgiblaa.Pack Go.Maps
set_option linter.unusedVariables false
set_option linter.unusedSimpArgs false

--BEGIN WALK
set_option maxRecDepth 100000 in
set_option maxHeartbeats 8000000 in
theorem NamesTakes_any (v0 : Value) (rs : List (List Int)) (out : ByteArray) (w : World) (h : Rs w v0 rs) (hb : ∀ r ∈ rs, Bytes r) (ho : out.size ≤ maxLen) :
    Calls Try.prog 6 #[v0, .string out] w fun e w' => e = .returned (.bool true) ∧ Below w.heap.size w w' := by
  have hlen : ∃ A c, v0 = .slice A rs.length c ∧ rs.length ≤ c ∧ rs.length ≤ 9223372036854775807 := by
    obtain ⟨A, c, e, h1, h2, _⟩ := h
    exact ⟨A, c, e, h1, h2⟩
  obtain ⟨A, c, rfl, hc, hm⟩ := hlen
  obtain ⟨n, hn⟩ : ∃ n, n = rs.length := ⟨_, rfl⟩
  rw [← hn] at hc h hm ⊢
  have HR := Lib.hid h
  have HN := Lib.hid hn
  have HBB := Lib.hid hb
  simp only [maxLen] at ho
  clear h hn hb
  go_enter Try.func6, Try.ntmps6
  go_wp2_with fail
  refine (light_any _ rs _ HR.out).mono ?_
  rintro e w0 ⟨he, rfl⟩
  rcases he with ⟨rfl, hl60, hl1⟩ | rfl
  case inr =>
    go_wp2
    go_ret
    exact ⟨rfl, Below.refl _ _⟩
  rw [← HN.out] at hl60
  have HL1 := Lib.hid hl1
  clear hl1
  by_cases hos : out.size ≤ 1000
  case neg =>
    have hgt : 1000 < out.size := by omega
    clear hos
    go_wp2
    go_ret
    exact ⟨rfl, Below.refl _ _⟩
  go_wp2_with fail
  --S1
  refine (bnew_any _).mono ?_
  rintro e w1 ⟨gn, rfl, hk, hb⟩
  obtain ⟨g, hg⟩ : ∃ g, w1.heap.size = g := ⟨_, rfl⟩
  obtain ⟨w2, hw2⟩ : ∃ w2, w2 = w1.alloc (.cells #[.slice none 0 0, .slice none 0 0] 55) := ⟨_, rfl⟩
  have htw := tw_new hk hb
  rw [← hw2, hg] at htw
  have HT0 : Hid (Tw w0 w2 0 0 gn g book0 book0) := htw
  have HW2 := Lib.hid hw2
  clear htw hw2 hk hb
  go_upto_region 5 with (fail)
  rw [← HW2.out]
  try rw [hg]
  clear hg
  go_wp2
  --S2
  go_loopw [7, 8] (fun a i wr => ∃ k : Nat, k ≤ n ∧ i = .int .i64 k ∧ a = .bool (takesV book0 (rs.take k)).isSome ∧ Hid (Tw w0 wr k k gn g (takeL (rs.take k)) (takeL (rs.take k)))) (fun _ i _ => n - (intOf i).toNat)
  case atStart => exact ⟨0, by omega, rfl, by rw [List.take_zero]; rfl, by rw [List.take_zero]; exact HT0.out⟩
  case round =>
    obtain ⟨k, hk, rfl, rfl, HT⟩ := hrel
    by_cases l1 : k < n
    · have hkl : k < rs.length := by rw [← HN.out]; exact l1
      have hrr : Rs wr (.slice A n c) rs := HR.out.below HT.out.below
      obtain ⟨ad, u, rfl, q, hbs⟩ := rs_get hrr k hkl
      obtain ⟨hTK, hmem⟩ := take_at rs [] k hkl
      have HTK := Lib.hid hTK
      have HM : Hid (Bytes (rs.getD k []) ∧ (rs.getD k []).length ≤ 1000) := ⟨HBB.out _ hmem, HL1.out _ hmem⟩
      have HBS := Lib.hid hbs
      clear hTK hmem hbs hrr hkl
      generalize rs.getD k [] = r at HTK HM HBS
      obtain ⟨Ar, cr, er, _, _⟩ := HBS.out.len
      subst er
      obtain ⟨nr, hnr⟩ : ∃ nr, nr = r.length := ⟨_, rfl⟩
      rw [← hnr] at q HBS
      have HNR := Lib.hid hnr
      clear hnr
      have HAL : Hid ((takesV book0 (rs.take (k + 1))).isSome = ((takesV book0 (rs.take k)).isSome && (takeV (takeL (rs.take k)) r).isSome)) := by show _ = _; rw [HTK.out]; exact all_snoc _ _
      have HTL : Hid (takeL (rs.take (k + 1)) = (takeV (takeL (rs.take k)) r).getD (takeL (rs.take k))) := by show _ = _; rw [HTK.out]; exact takeL_snoc _ _
      go_wp2_with fail
      refine (tw_rtake HT.out _ r HBS.out HM.out.1 (by have := HM.out.2; omega) (by omega)).mono ?_
      rintro e w4 ⟨rfl, ht4⟩
      rw [← HTL.out] at ht4
      have HT4 := Lib.hid ht4
      have hb4 : Below w0.heap.size w0 w4 := ht4.below
      have hrr : Rs w4 (.slice (some ad) n c) rs := HR.out.below hb4
      clear ht4 hb4
      obtain ⟨bk, hbk⟩ : ∃ bk, bk = takeL (rs.take k) := ⟨_, rfl⟩
      rw [← hbk] at HT4 HTL HAL ⊢
      obtain ⟨al, hal⟩ : ∃ al, al = (takesV book0 (rs.take k)).isSome := ⟨_, rfl⟩
      rw [← hal] at HAL ⊢
      have hkl : k < rs.length := by rw [← HN.out]; exact l1
      obtain ⟨ad', u', e', q4, hbs4⟩ := rs_get hrr k hkl
      injection e' with e'
      subst e'
      have hg4 : rs.getD k [] = r := by
        have h1 := (take_at rs [] k hkl).1
        rw [HTK.out] at h1
        exact (List.cons.inj (List.append_cancel_left h1)).1.symm
      rw [hg4] at hbs4
      obtain ⟨Ar4, cr4, er4, _, _⟩ := hbs4.len
      subst er4
      rw [← HNR.out] at q4 hbs4
      have HBS4 := Lib.hid hbs4
      have HT1 := HT
      clear hbk hal hrr hbs4 hg4 hkl q HT
      obtain ⟨tv, htv⟩ : ∃ tv, tv = takeV bk r := ⟨_, rfl⟩
      rw [← htv] at HTL HAL ⊢
      have HTV := Lib.hid htv
      clear htv
      have hE := Ow.lit (Below.refl w4.heap.size w4) [] (by simp)
      have HE := Lib.hid hE
      clear hE
      cases tv with
      | none =>
        have HTL5 : Hid (takeL (rs.take (k + 1)) = (takeV bk r).getD bk) := by show _ = _; rw [← HTV.out]; exact HTL.out
        simp only [Option.isSome_none] at HAL ⊢
        cases al
        · --Qfalsefalse
          have q5 : (w4.alloc (.cells #[] 5)).cell? (ad.add k) = some (.slice Ar4 nr cr4) := pw_cell_below (below_alloc (Below.refl _ _) _) q4
          go_wp2_with (at_builtin; refine Held.of ?_)
          refine app_bytes rfl (.tmp 45) (.tmp 49) 46 rfl Try.underlying46 _ _ [] r rfl rfl HE.out (HBS4.out.alloc _) (by have := HM.out.2; simp only [List.length_nil]; omega) ?_
          intro va w5 o1 _
          rw [List.nil_append] at o1
          obtain ⟨Aa, na, ca, rfl, hna⟩ := o1.slice
          have HT5 := Lib.hid (HT4.out.moved o1.below)
          have O5 := Lib.hid o1
          clear hna o1 q4 q5
          go_wp2_with fail
          refine (tw_take HT5.out _ r O5.out.bs HM.out.1 (by have := HM.out.2; omega) (by omega) HTL5.out).mono ?_
          rintro e w6 ⟨rfl, ht6⟩
          rw [← HTV.out]
          have hE : takeE none = 4 := rfl
          rw [hE]
          clear hE
          have HT6 := Lib.hid ht6
          clear ht6
          go_wp2_with fail
          refine (tw_same HT6.out (by omega)).mono ?_
          rintro e w7 ⟨rfl, hb7⟩
          have HT7 := Lib.hid (HT6.out.moved hb7)
          have HA7 : Hid ((takesV book0 (rs.take (k + 1))).isSome = false) := HAL.out
          clear hb7
          go_wp2
          go_roundw
          case rel => exact ⟨k + 1, by omega, by go_num, by rw [HA7.out], HT7.out⟩
          case measure => simp [intOf]; omega
        · --Qfalsetrue
          have q5 : (w4.alloc (.cells #[] 5)).cell? (ad.add k) = some (.slice Ar4 nr cr4) := pw_cell_below (below_alloc (Below.refl _ _) _) q4
          go_wp2_with (at_builtin; refine Held.of ?_)
          refine app_bytes rfl (.tmp 45) (.tmp 49) 46 rfl Try.underlying46 _ _ [] r rfl rfl HE.out (HBS4.out.alloc _) (by have := HM.out.2; simp only [List.length_nil]; omega) ?_
          intro va w5 o1 _
          rw [List.nil_append] at o1
          obtain ⟨Aa, na, ca, rfl, hna⟩ := o1.slice
          have HT5 := Lib.hid (HT4.out.moved o1.below)
          have O5 := Lib.hid o1
          clear hna o1 q4 q5
          go_wp2_with fail
          refine (tw_take HT5.out _ r O5.out.bs HM.out.1 (by have := HM.out.2; omega) (by omega) HTL5.out).mono ?_
          rintro e w6 ⟨rfl, ht6⟩
          rw [← HTV.out]
          have hE : takeE none = 4 := rfl
          rw [hE]
          clear hE
          have HT6 := Lib.hid ht6
          clear ht6
          go_wp2_with fail
          refine (tw_same HT6.out (by omega)).mono ?_
          rintro e w7 ⟨rfl, hb7⟩
          have HT7 := Lib.hid (HT6.out.moved hb7)
          have HA7 : Hid ((takesV book0 (rs.take (k + 1))).isSome = false) := HAL.out
          clear hb7
          go_wp2
          go_roundw
          case rel => exact ⟨k + 1, by omega, by go_num, by rw [HA7.out], HT7.out⟩
          case measure => simp [intOf]; omega
      | some b2 =>
        have HTL5 : Hid (takeL (rs.take (k + 1)) = (takeV bk r).getD bk) := by show _ = _; rw [← HTV.out]; exact HTL.out
        simp only [Option.isSome_some] at HAL ⊢
        cases al
        · --Qtruefalse
          have q5 : (w4.alloc (.cells #[] 5)).cell? (ad.add k) = some (.slice Ar4 nr cr4) := pw_cell_below (below_alloc (Below.refl _ _) _) q4
          go_wp2_with (at_builtin; refine Held.of ?_)
          refine app_bytes rfl (.tmp 45) (.tmp 49) 46 rfl Try.underlying46 _ _ [] r rfl rfl HE.out (HBS4.out.alloc _) (by have := HM.out.2; simp only [List.length_nil]; omega) ?_
          intro va w5 o1 _
          rw [List.nil_append] at o1
          obtain ⟨Aa, na, ca, rfl, hna⟩ := o1.slice
          have HT5 := Lib.hid (HT4.out.moved o1.below)
          have O5 := Lib.hid o1
          clear hna o1 q4 q5
          go_wp2_with fail
          refine (tw_take HT5.out _ r O5.out.bs HM.out.1 (by have := HM.out.2; omega) (by omega) HTL5.out).mono ?_
          rintro e w6 ⟨rfl, ht6⟩
          rw [← HTV.out]
          have hE : takeE (some b2) = 0 := rfl
          rw [hE]
          clear hE
          have HT6 := Lib.hid ht6
          clear ht6
          go_wp2_with fail
          refine (tw_same HT6.out (by omega)).mono ?_
          rintro e w7 ⟨rfl, hb7⟩
          have HT7 := Lib.hid (HT6.out.moved hb7)
          have HA7 : Hid ((takesV book0 (rs.take (k + 1))).isSome = false) := HAL.out
          clear hb7
          go_wp2
          go_roundw
          case rel => exact ⟨k + 1, by omega, by go_num, by rw [HA7.out], HT7.out⟩
          case measure => simp [intOf]; omega
        · --Qtruetrue
          have q5 : (w4.alloc (.cells #[] 5)).cell? (ad.add k) = some (.slice Ar4 nr cr4) := pw_cell_below (below_alloc (Below.refl _ _) _) q4
          go_wp2_with (at_builtin; refine Held.of ?_)
          refine app_bytes rfl (.tmp 45) (.tmp 49) 46 rfl Try.underlying46 _ _ [] r rfl rfl HE.out (HBS4.out.alloc _) (by have := HM.out.2; simp only [List.length_nil]; omega) ?_
          intro va w5 o1 _
          rw [List.nil_append] at o1
          obtain ⟨Aa, na, ca, rfl, hna⟩ := o1.slice
          have HT5 := Lib.hid (HT4.out.moved o1.below)
          have O5 := Lib.hid o1
          clear hna o1 q4 q5
          go_wp2_with fail
          refine (tw_take HT5.out _ r O5.out.bs HM.out.1 (by have := HM.out.2; omega) (by omega) HTL5.out).mono ?_
          rintro e w6 ⟨rfl, ht6⟩
          rw [← HTV.out]
          have hE : takeE (some b2) = 0 := rfl
          rw [hE]
          clear hE
          have HT6 := Lib.hid ht6
          clear ht6
          go_wp2_with fail
          refine (tw_same HT6.out (by omega)).mono ?_
          rintro e w7 ⟨rfl, hb7⟩
          have HT7 := Lib.hid (HT6.out.moved hb7)
          have HA7 : Hid ((takesV book0 (rs.take (k + 1))).isSome = true) := HAL.out
          clear hb7
          go_wp2
          go_roundw
          case rel => exact ⟨k + 1, by omega, by go_num, by rw [HA7.out], HT7.out⟩
          case measure => simp [intOf]; omega
    · have hk2 : k = n := by omega
      have htk : rs.take k = rs := by rw [hk2, HN.out, List.take_length]
      rw [htk] at HT ⊢
      clear htk
      have hRR : Rs wr (.slice A n c) rs := HR.out.below HT.out.below
      have HRR := Lib.hid hRR
      have HKN : Hid (k ≤ 60) := by show _ ≤ _; omega
      clear hk2 hRR
      --S3
      have HLD := Lib.hid (load_any _ rs wr HRR.out (fun r hr => ⟨HBB.out r hr, by have := HL1.out r hr; omega⟩) (by rw [← HN.out]; omega))
      obtain ⟨ts, hts⟩ : ∃ ts, ts = takesV book0 rs := ⟨_, rfl⟩
      have HB0 : Hid (∀ b, ts = some b → b = takeL rs) := fun b hb => takesV_takeL rs b (hts.symm.trans hb)
      rw [← hts] at HLD ⊢
      clear hts
      obtain ⟨bf, hbf⟩ : ∃ bf, bf = takeL rs := ⟨_, rfl⟩
      rw [← hbf] at HT HB0
      clear hbf
      cases ts with
      | none =>
        simp only [Option.isSome_none]
        go_wp2_with fail
        refine HLD.out.mono ?_
        rintro e w4 ⟨hl4, hb4⟩
        have hl4 : e = .returned (.tuple #[.pointer none, .int .i64 4]) := hl4
        subst hl4
        have HT5 := Lib.hid (HT.out.moved hb4)
        clear hb4
        go_wp2_with fail
        --S5
        refine (tw_look HT5.out out (by simp only [maxLen]; omega) (by have := HKN.out; omega)).mono ?_
        rintro e w6 ⟨v6, rfl, hd6, hb6⟩
        obtain ⟨vd6, rfl, hr6⟩ := hd6
        obtain ⟨A6, c6, ev6⟩ := Kd.R_slice hr6
        obtain ⟨nd, hnd⟩ : ∃ nd, nd = ((lookV bf out).getD zdep).deps.length := ⟨_, rfl⟩
        rw [← hnd] at ev6
        subst ev6
        have HND := Lib.hid hnd
        clear hnd
        obtain ⟨x5, hx5⟩ : ∃ x5, w6.heap.size = x5 := ⟨_, rfl⟩
        obtain ⟨w7, hw7⟩ : ∃ w7, w7 = w6.alloc (.cells #[.string ((lookV bf out).getD zdep).out, .int .i64 ((lookV bf out).getD zdep).time, .slice A6 nd c6] 36) := ⟨_, rfl⟩
        have hb7 : Below w6.heap.size w6 w7 := by rw [hw7]; exact below_alloc (Below.refl _ _) _
        have X7 : Hid (w7.heap[x5]? = some (.cells #[.string ((lookV bf out).getD zdep).out, .int .i64 ((lookV bf out).getD zdep).time, .slice A6 nd c6] 36 (0, 0))) := by show _ = _; rw [hw7, ← hx5]; exact blk_new w6 _
        have HF7 : Hid (DepIs w7 (.agg #[.string ((lookV bf out).getD zdep).out, .int .i64 ((lookV bf out).getD zdep).time, .slice A6 nd c6]) ((lookV bf out).getD zdep)) := ⟨_, rfl, (r_ss hr6).below hb7⟩
        have HT7 := Lib.hid (HT5.out.moved (hb6.trans (hb7.mono hb6.size)))
        have HW7 := Lib.hid hw7
        clear hr6 hb6 hb7 hw7
        obtain ⟨L, vn, vl, hgb, hdz, hll, hlk⟩ := tw_list HT7.out
        obtain ⟨A8, c8, e8, _, _⟩ := hdz.len
        subst e8
        obtain ⟨nL, hnL⟩ : ∃ nL, nL = L.length := ⟨_, rfl⟩
        rw [← hnL] at hgb hdz hll
        have XG7 := Lib.hid hgb
        have HDZ7 := Lib.hid hdz
        have HNL := Lib.hid hnL
        have HLK := Lib.hid hlk
        have hnL2 : nL ≤ 60 := by have := HKN.out; omega
        clear hgb hdz hll hnL hlk
        go_upto_region 18 with (fail)
        rw [← HW7.out]
        try rw [hx5]
        clear hx5
        go_wp2
        --S6
        go_loopw [15, 16] (fun s i wr => ∃ j : Nat, j ≤ nL ∧ i = .int .i64 j ∧ s = .bool (decide (out ∈ (L.take j).map (·.out))) ∧ wr = w7) (fun _ i _ => nL - (intOf i).toNat)
        case atStart => exact ⟨0, by omega, rfl, by simp, rfl⟩
        case round =>
          obtain ⟨j, hj, rfl, rfl, rfl⟩ := hrel
          have g1 := blk_cell XG7.out 1
          by_cases l2 : j < nL
          · have hjl : j < L.length := by rw [← HNL.out]; exact l2
            obtain ⟨bd, ve, e2, r0, _, _, _⟩ := HDZ7.out.get j hjl
            subst e2
            obtain ⟨hTJ, _⟩ := take_at L zdep j hjl
            have HTJ : Hid ((L.take (j + 1)).map (·.out) = (L.take j).map (·.out) ++ [(L.getD j zdep).out]) := by show _ = _; rw [hTJ, List.map_append]; rfl
            clear hTJ hjl
            generalize (L.getD j zdep).out = so at r0 HTJ
            obtain ⟨bb, hbb⟩ : ∃ bb, decide (out ∈ (L.take j).map (·.out)) = bb := ⟨_, rfl⟩
            rw [hbb]
            have HBB2 := Lib.hid hbb
            clear hbb
            cases bb with
            | true =>
              have HE2 : Hid (decide (out ∈ (L.take (j + 1)).map (·.out)) = true) := by show _ = _; rw [HTJ.out]; exact decide_eq_true (List.mem_append_left _ (of_decide_eq_true HBB2.out))
              go_wp2
              go_roundw
              case rel => exact ⟨j + 1, by omega, by go_num, by rw [HE2.out], trivial⟩
              case measure => simp [intOf]; omega
            | false =>
              by_cases hs : so = out
              · have hb : (so.toList == out.toList) = true := by rw [str_eqb]; exact decide_eq_true hs
                have HE2 : Hid (decide (out ∈ (L.take (j + 1)).map (·.out)) = true) := by show _ = _; rw [HTJ.out]; exact decide_eq_true (List.mem_append_right _ (by simp [hs]))
                clear hs
                go_wp2
                go_roundw
                case rel => exact ⟨j + 1, by omega, by go_num, by rw [HE2.out], trivial⟩
                case measure => simp [intOf]; omega
              · have hb : (so.toList == out.toList) = false := by rw [str_eqb]; exact decide_eq_false hs
                have HE2 : Hid (decide (out ∈ (L.take (j + 1)).map (·.out)) = false) := by
                  show _ = _
                  rw [HTJ.out]
                  refine decide_eq_false (fun hm => ?_)
                  rcases List.mem_append.1 hm with h | h
                  · exact of_decide_eq_false HBB2.out h
                  · exact hs (List.mem_singleton.1 h).symm
                clear hs
                go_wp2
                go_roundw
                case rel => exact ⟨j + 1, by omega, by go_num, by rw [HE2.out], trivial⟩
                case measure => simp [intOf]; omega
          · --S7
            have hj2 : j = nL := by omega
            have htj : L.take j = L := by rw [hj2, HNL.out, List.take_length]
            rw [htj, ← HLK.out out]
            clear htj hj2
            have HB7 := Lib.hid HT7.out.below
            have V0 := blk_cell X7.out 0
            have V1 := blk_cell X7.out 1
            have V2 := blk_cell X7.out 2
            obtain ⟨lk, hlk⟩ : ∃ lk, lk = lookV bf out := ⟨_, rfl⟩
            rw [← hlk] at HF7 V0 V1 V2 ⊢
            clear hlk X7
            cases lk with
            | some d =>
              simp only [Option.getD_some, Option.isSome_some] at HF7 V0 V1 V2 ⊢
              go_wp2_with fail
              refine (awake_any _).mono ?_
              rintro e wv ⟨rfl, bs⟩
              have HH := Lib.hid (HB7.out.trans (bs.mono HB7.out.size))
              clear bs
              go_wp2
              go_ret
              exact ⟨rfl, HH.out⟩
            | none =>
              simp only [Option.getD_none, Option.isSome_none] at HF7 V0 V1 V2 ⊢
              --S8
              go_wp2_with fail
              refine (found_any _ zdep _ HF7.out).mono ?_
              rintro e wf ⟨vf, rfl, df, bf7⟩
              have HDF := Lib.hid df
              have HBF := Lib.hid (HB7.out.trans (bf7.mono HB7.out.size))
              clear df bf7 V0 V1 V2
              go_wp2_with fail
              refine (same_true _ _ zdep _ HDF.out ⟨_, rfl, ss_nil _⟩).mono ?_
              rintro e ws ⟨rfl, bs⟩
              have HBS := Lib.hid (HBF.out.trans (bs.mono HBF.out.size))
              clear bs
              go_wp2_with fail
              refine (awake_any _).mono ?_
              rintro e wv ⟨rfl, bs⟩
              have HH := Lib.hid (HBS.out.trans (bs.mono HBS.out.size))
              clear bs
              go_wp2
              go_ret
              exact ⟨rfl, HH.out⟩
      | some b2 =>
        obtain rfl : bf = b2 := (HB0.out b2 rfl).symm
        simp only [Option.isSome_some]
        go_wp2_with fail
        refine HLD.out.mono ?_
        rintro e w4 ⟨hl4, hb4⟩
        obtain ⟨gc, Sc, rfl, hkc, _⟩ := hl4
        have HC4 := Lib.hid hkc
        have HT4 := Lib.hid (HT.out.moved hb4)
        clear hb4 hkc
        --S4
        go_wp2_with fail
        refine (tw_loaded HT4.out HC4.out (by rw [← HN.out]; omega)).mono ?_
        rintro e w5 ⟨rfl, hb5⟩
        have HT5 := Lib.hid (HT4.out.moved hb5)
        clear hb5
        go_wp2_with fail
        --S5
        refine (tw_look HT5.out out (by simp only [maxLen]; omega) (by have := HKN.out; omega)).mono ?_
        rintro e w6 ⟨v6, rfl, hd6, hb6⟩
        obtain ⟨vd6, rfl, hr6⟩ := hd6
        obtain ⟨A6, c6, ev6⟩ := Kd.R_slice hr6
        obtain ⟨nd, hnd⟩ : ∃ nd, nd = ((lookV bf out).getD zdep).deps.length := ⟨_, rfl⟩
        rw [← hnd] at ev6
        subst ev6
        have HND := Lib.hid hnd
        clear hnd
        obtain ⟨x5, hx5⟩ : ∃ x5, w6.heap.size = x5 := ⟨_, rfl⟩
        obtain ⟨w7, hw7⟩ : ∃ w7, w7 = w6.alloc (.cells #[.string ((lookV bf out).getD zdep).out, .int .i64 ((lookV bf out).getD zdep).time, .slice A6 nd c6] 36) := ⟨_, rfl⟩
        have hb7 : Below w6.heap.size w6 w7 := by rw [hw7]; exact below_alloc (Below.refl _ _) _
        have X7 : Hid (w7.heap[x5]? = some (.cells #[.string ((lookV bf out).getD zdep).out, .int .i64 ((lookV bf out).getD zdep).time, .slice A6 nd c6] 36 (0, 0))) := by show _ = _; rw [hw7, ← hx5]; exact blk_new w6 _
        have HF7 : Hid (DepIs w7 (.agg #[.string ((lookV bf out).getD zdep).out, .int .i64 ((lookV bf out).getD zdep).time, .slice A6 nd c6]) ((lookV bf out).getD zdep)) := ⟨_, rfl, (r_ss hr6).below hb7⟩
        have HT7 := Lib.hid (HT5.out.moved (hb6.trans (hb7.mono hb6.size)))
        have HW7 := Lib.hid hw7
        clear hr6 hb6 hb7 hw7
        obtain ⟨L, vn, vl, hgb, hdz, hll, hlk⟩ := tw_list HT7.out
        obtain ⟨A8, c8, e8, _, _⟩ := hdz.len
        subst e8
        obtain ⟨nL, hnL⟩ : ∃ nL, nL = L.length := ⟨_, rfl⟩
        rw [← hnL] at hgb hdz hll
        have XG7 := Lib.hid hgb
        have HDZ7 := Lib.hid hdz
        have HNL := Lib.hid hnL
        have HLK := Lib.hid hlk
        have hnL2 : nL ≤ 60 := by have := HKN.out; omega
        clear hgb hdz hll hnL hlk
        go_upto_region 18 with (fail)
        rw [← HW7.out]
        try rw [hx5]
        clear hx5
        go_wp2
        --S6
        go_loopw [15, 16] (fun s i wr => ∃ j : Nat, j ≤ nL ∧ i = .int .i64 j ∧ s = .bool (decide (out ∈ (L.take j).map (·.out))) ∧ wr = w7) (fun _ i _ => nL - (intOf i).toNat)
        case atStart => exact ⟨0, by omega, rfl, by simp, rfl⟩
        case round =>
          obtain ⟨j, hj, rfl, rfl, rfl⟩ := hrel
          have g1 := blk_cell XG7.out 1
          by_cases l2 : j < nL
          · have hjl : j < L.length := by rw [← HNL.out]; exact l2
            obtain ⟨bd, ve, e2, r0, _, _, _⟩ := HDZ7.out.get j hjl
            subst e2
            obtain ⟨hTJ, _⟩ := take_at L zdep j hjl
            have HTJ : Hid ((L.take (j + 1)).map (·.out) = (L.take j).map (·.out) ++ [(L.getD j zdep).out]) := by show _ = _; rw [hTJ, List.map_append]; rfl
            clear hTJ hjl
            generalize (L.getD j zdep).out = so at r0 HTJ
            obtain ⟨bb, hbb⟩ : ∃ bb, decide (out ∈ (L.take j).map (·.out)) = bb := ⟨_, rfl⟩
            rw [hbb]
            have HBB2 := Lib.hid hbb
            clear hbb
            cases bb with
            | true =>
              have HE2 : Hid (decide (out ∈ (L.take (j + 1)).map (·.out)) = true) := by show _ = _; rw [HTJ.out]; exact decide_eq_true (List.mem_append_left _ (of_decide_eq_true HBB2.out))
              go_wp2
              go_roundw
              case rel => exact ⟨j + 1, by omega, by go_num, by rw [HE2.out], trivial⟩
              case measure => simp [intOf]; omega
            | false =>
              by_cases hs : so = out
              · have hb : (so.toList == out.toList) = true := by rw [str_eqb]; exact decide_eq_true hs
                have HE2 : Hid (decide (out ∈ (L.take (j + 1)).map (·.out)) = true) := by show _ = _; rw [HTJ.out]; exact decide_eq_true (List.mem_append_right _ (by simp [hs]))
                clear hs
                go_wp2
                go_roundw
                case rel => exact ⟨j + 1, by omega, by go_num, by rw [HE2.out], trivial⟩
                case measure => simp [intOf]; omega
              · have hb : (so.toList == out.toList) = false := by rw [str_eqb]; exact decide_eq_false hs
                have HE2 : Hid (decide (out ∈ (L.take (j + 1)).map (·.out)) = false) := by
                  show _ = _
                  rw [HTJ.out]
                  refine decide_eq_false (fun hm => ?_)
                  rcases List.mem_append.1 hm with h | h
                  · exact of_decide_eq_false HBB2.out h
                  · exact hs (List.mem_singleton.1 h).symm
                clear hs
                go_wp2
                go_roundw
                case rel => exact ⟨j + 1, by omega, by go_num, by rw [HE2.out], trivial⟩
                case measure => simp [intOf]; omega
          · --S7
            have hj2 : j = nL := by omega
            have htj : L.take j = L := by rw [hj2, HNL.out, List.take_length]
            rw [htj, ← HLK.out out]
            clear htj hj2
            have HB7 := Lib.hid HT7.out.below
            have V0 := blk_cell X7.out 0
            have V1 := blk_cell X7.out 1
            have V2 := blk_cell X7.out 2
            obtain ⟨lk, hlk⟩ : ∃ lk, lk = lookV bf out := ⟨_, rfl⟩
            rw [← hlk] at HF7 V0 V1 V2 ⊢
            clear hlk X7
            cases lk with
            | some d =>
              simp only [Option.getD_some, Option.isSome_some] at HF7 V0 V1 V2 ⊢
              go_wp2_with fail
              refine (awake_any _).mono ?_
              rintro e wv ⟨rfl, bs⟩
              have HH := Lib.hid (HB7.out.trans (bs.mono HB7.out.size))
              clear bs
              go_wp2
              go_ret
              exact ⟨rfl, HH.out⟩
            | none =>
              simp only [Option.getD_none, Option.isSome_none] at HF7 V0 V1 V2 ⊢
              --S8
              go_wp2_with fail
              refine (found_any _ zdep _ HF7.out).mono ?_
              rintro e wf ⟨vf, rfl, df, bf7⟩
              have HDF := Lib.hid df
              have HBF := Lib.hid (HB7.out.trans (bf7.mono HB7.out.size))
              clear df bf7 V0 V1 V2
              go_wp2_with fail
              refine (same_true _ _ zdep _ HDF.out ⟨_, rfl, ss_nil _⟩).mono ?_
              rintro e ws ⟨rfl, bs⟩
              have HBS := Lib.hid (HBF.out.trans (bs.mono HBF.out.size))
              clear bs
              go_wp2_with fail
              refine (awake_any _).mono ?_
              rintro e wv ⟨rfl, bs⟩
              have HH := Lib.hid (HBS.out.trans (bs.mono HBS.out.size))
              clear bs
              go_wp2
              go_ret
              exact ⟨rfl, HH.out⟩
--END WALK
end Go.Proofs.Ytinonkakpgiblaa.Nam
