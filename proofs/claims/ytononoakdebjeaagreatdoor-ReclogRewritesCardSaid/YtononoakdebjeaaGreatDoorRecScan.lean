/- The contract of reclog.Scan (a walk). -/
import Derived.Test.YtononoakdebjeaaGreatDoorRecWalk
import Derived.Test.YtononoakdebjeaaGreatDoorCut
import Derived.Test.YtononoakdebjeaaGreatDoorPackAll
import Derived.WalkMore
namespace Go.Proofs.YtononoakdebjeaaGreatDoor.Rec
open Go.RowKit Go.Proofs.YtononoakdebjeaaGreatDoorW.PrintWords Go.Proofs.YtononoakdebjeaaGreatDoor.Base Go.Proofs.YtononoakdebjeaaGreatDoor.Pack
set_option linter.unusedVariables false
set_option linter.unusedSimpArgs false

set_option maxRecDepth 100000 in
set_option maxHeartbeats 1600000 in
theorem scan_any (k : Int) (v : Value) (data : List Int) (w : World) (hv : Bs w v data) (hb : Bytes data) (hl : data.length ≤ 100000) (k0 : 0 ≤ k) (k1 : k < 256) :
    Calls Tryz.prog 50 #[v, .int .u8 k] w fun e w' => ∃ vr, e = .returned (.tuple #[vr, .int .i64 (scanRes k data).2.1, .int .i64 (scanRes k data).2.2]) ∧ Recs w w' vr (scanRes k data).1 := by
  obtain ⟨A, c, rfl, hc, hm⟩ := hv.len
  have HV := Lib.hid hv
  have HB := Lib.hid hb
  have HH := Lib.hid (headBytes_bytes k0 k1)
  clear hv hb
  by_cases g0 : data.length < 8
  · by_cases g1 : (headBytes k).take data.length = data
    · have d1 := decide_eq_true g1
      have HS := Lib.hid (scanRes_short g0 g1)
      clear g1
      go_enter Tryz.func50, Tryz.ntmps50
      go_wp2
      go_step3
      go_wp2_with fail
      refine (head_any _ _).mono ?_
      rintro e w1 ⟨v1, rfl, o1⟩
      obtain ⟨A1, n1, c1, rfl, hn1⟩ := o1.slice
      replace hn1 : n1 = 8 := hn1
      subst hn1
      have O1 := Lib.hid o1
      clear o1
      go_wp2_with fail
      refine (prefix_any _ _ _ _ _ O1.out.bs (HV.out.below O1.out.below) HH.out HB.out).mono ?_
      rintro e w' ⟨rfl, rfl⟩
      rw [d1]
      go_wp2_with fail
      (try rw [Exit.noGoto_ret])
      go_ret3
      rw [HS.out]
      exact ⟨_, rfl, Recs.nil O1.out.below⟩
    · have d1 := decide_eq_false g1
      have d2 : decide (data.take (headBytes k).length = headBytes k) = false := by
        refine decide_eq_false (fun h => ?_)
        have := congrArg List.length h
        rw [List.length_take, show (headBytes k).length = 8 from rfl] at this
        omega
      have HS := Lib.hid (scanRes_bad (k := k) (data := data) (fun h => g1 h.2) (of_decide_eq_false d2))
      clear g1
      go_enter Tryz.func50, Tryz.ntmps50
      go_wp2
      go_step3
      go_wp2_with fail
      refine (head_any _ _).mono ?_
      rintro e w1 ⟨v1, rfl, o1⟩
      obtain ⟨A1, n1, c1, rfl, hn1⟩ := o1.slice
      replace hn1 : n1 = 8 := hn1
      subst hn1
      have O1 := Lib.hid o1
      clear o1
      go_wp2_with fail
      refine (prefix_any _ _ _ _ _ O1.out.bs (HV.out.below O1.out.below) HH.out HB.out).mono ?_
      rintro e w' ⟨rfl, rfl⟩
      rw [d1]
      go_wp2_with fail
      refine (prefix_any _ _ _ _ _ (HV.out.below O1.out.below) O1.out.bs HB.out HH.out).mono ?_
      rintro e w' ⟨rfl, rfl⟩
      rw [d2]
      go_wp2_with fail
      (try rw [Exit.noGoto_ret])
      go_ret3
      rw [HS.out]
      exact ⟨_, rfl, Recs.nil O1.out.below⟩
  · by_cases g1 : data.take 8 = headBytes k
    · have d2 : decide (data.take (headBytes k).length = headBytes k) = true := decide_eq_true g1
      have HS := Lib.hid (scanRes_good g1).2
      have g8 : 8 ≤ data.length := by omega
      clear g1
      go_enter Tryz.func50, Tryz.ntmps50
      go_wp2
      go_step3
      go_wp2_with fail
      refine (head_any _ _).mono ?_
      rintro e w1 ⟨v1, rfl, o1⟩
      obtain ⟨A1, n1, c1, rfl, hn1⟩ := o1.slice
      replace hn1 : n1 = 8 := hn1
      subst hn1
      have O1 := Lib.hid o1
      clear o1
      go_wp2_with fail
      refine (prefix_any _ _ _ _ _ (HV.out.below O1.out.below) O1.out.bs HB.out HH.out).mono ?_
      rintro e w' ⟨rfl, rfl⟩
      rw [d2]
      go_wp2_with fail
      go_step3
      go_wp2
      go_loopw [4, 5] (fun vr i wr => ∃ (p : Nat) (rs : List (List Int)), i = .int .i64 p ∧ Hid (Recs w wr vr rs) ∧ Hid (Under data rs p)) (fun _ i _ => data.length - (intOf i).toNat)
      case atStart => exact ⟨8, [], rfl, Recs.nil O1.out.below, Under.start g8⟩
      case round =>
        obtain ⟨p, rs, rfl, HR, HU⟩ := hrel
        have hlow := HU.out.low
        have hple := HU.out.le
        have hfew := HU.out.few
        obtain ⟨u, ku, hu⟩ := cut_from (HV.out.below HR.out.below) p hple
        have hbr := HB.out.drop p
        obtain ⟨rest, hrest⟩ : ∃ rest, rest = data.drop p := ⟨_, rfl⟩
        have HREST := Lib.hid hrest
        have hrl : p + rest.length = data.length := by rw [hrest, List.length_drop]; omega
        rw [← hrest] at hu hbr
        obtain ⟨Au, cu, rfl, hcu, hmu⟩ := hu.len
        have HUU := Lib.hid hu
        have HBR := Lib.hid hbr
        clear hu hbr hrest
        by_cases l8 : 8 ≤ rest.length
        · obtain ⟨n, hn⟩ : ∃ n, n = sizeAt rest := ⟨_, rfl⟩
          have hsz := sizeAt_range rest HBR.out
          rw [← hn] at hsz
          have HSZ := Lib.hid hsz.1
          have HN := Lib.hid hn
          have hn32 := hsz.2
          have hs2 := sumAt_range rest HBR.out
          clear hn hsz
          by_cases ln : n ≤ 4096
          · by_cases lf : n + 8 ≤ rest.length
            · obtain ⟨u2, ku2, hu2⟩ := cut_mid (HV.out.below HR.out.below) (p + 8) (p + 8 + n) (by omega) (by omega)
              have er : (data.drop (p + 8)).take (p + 8 + n - (p + 8)) = recAt rest := by
                unfold recAt
                rw [HREST.out, List.drop_drop, ← HREST.out, ← HN.out, Nat.add_sub_cancel_left]
              rw [er] at hu2
              rw [show ((p + 8 + n : Nat) : Int) = (p : Int) + 8 + (n : Int) from by omega, show ((p + 8 : Nat) : Int) = (p : Int) + 8 from by omega] at ku2
              have hbr2 := recAt_bytes rest HBR.out
              have hlr2 : (recAt rest).length = n := by
                rw [← er, List.length_take, List.length_drop]; omega
              obtain ⟨A2, c2, rfl, hcu2, _⟩ := hu2.len
              rw [hlr2] at ku2
              have HU2 := Lib.hid (hlr2 ▸ hu2)
              have HBR2 := Lib.hid hbr2
              have HLR2 := Lib.hid hlr2
              clear hu2 hbr2 er hlr2
              have HLEN : Hid (((List.drop 4 (List.drop 4 rest)).length : Int) = (rest.length : Int) - 8) := by show _ = _; rw [List.length_drop, List.length_drop]; omega
              by_cases le : Crc.sumOf (recAt rest) = sumAt rest
              · have hgood : good rest := ⟨l8, by rw [← HN.out]; exact ln, by rw [← HN.out]; exact lf, le⟩
                have HG := Lib.hid hgood
                have le' : (Crc.sumOf (recAt rest) != leVal ((rest.drop 4).take 4)) = false := by show (_ != sumAt rest) = false; simp [le]
                clear le hgood
                go_wp2_with fail
                refine (new_any _ _ _ HUU.out (by omega)).mono ?_
                rintro e w2 ⟨g, rfl, hrd, hb2⟩
                have HRD := Lib.hid hrd
                have HB2 := Lib.hid hb2
                clear hrd hb2
                go_wp2_with fail
                refine (r32_ok _ _ _ _ HRD.out (by omega) HBR.out).mono ?_
                rintro e w3 ⟨rfl, hrd, ho3⟩
                rw [HSZ.out]
                have HRD3 := Lib.hid hrd
                have HO3 := Lib.hid ho3
                clear hrd ho3
                go_wp2_with fail
                refine (r32_ok _ _ _ _ HRD3.out (by rw [List.length_drop]; omega) (HBR.out.drop 4)).mono ?_
                rintro e w4 ⟨rfl, hrd, ho4⟩
                have HRD4 := Lib.hid hrd
                have HO4 := Lib.hid ho4
                clear hrd ho4
                go_wp2_with fail
                refine (right_any _ _ _ _ _ HRD4.out).mono ?_
                rintro e w' ⟨rfl, rfl⟩
                have HB4 := Lib.hid (HB2.out.trans ((HO3.out.trans HO4.out).below HRD.out.base HB2.out.size))
                go_wp2_with fail
                refine (left_any _ _ _ _ _ HRD4.out).mono ?_
                rintro e w' ⟨rfl, rfl⟩
                rw [HLEN.out]
                go_wp2_with fail
                refine (Crc.sum_any _ _ _ (HU2.out.below HB4.out)).mono ?_
                rintro e w' ⟨rfl, rfl⟩
                go_wp2_with fail
                refine (clone_any _ _ _ (HU2.out.below HB4.out) (by rw [HLR2.out]; omega)).mono ?_
                rintro e w5 ⟨v5, rfl, o5⟩
                obtain ⟨A5, n5, c5, rfl, hn5⟩ := o5.slice
                clear hn5
                have HRR := Lib.hid ((HR.out.step HB4.out).step o5.below)
                have HB5 := Lib.hid (HB4.out.trans (o5.below.mono HB4.out.size))
                have O5 := Lib.hid (o5.lower ((HR.out.below).trans (HB4.out.mono HR.out.below.size)))
                clear o5
                go_wp2_with (at_builtin; refine Held.of ?_)
                refine app_rec (w0 := w) rfl (.tmp 59) (.tmp 62) 53 rfl Tryz.underlying53 u4 (.slice A5 n5 c5) rs (recAt rest) rfl rfl HRR.out O5.out (by omega) ?_
                intro v6 w6 HR6 _
                have R6 := Lib.hid HR6
                clear HR6
                have HNX := Lib.hid (HU.out.next (HREST.out ▸ HG.out))
                go_wp2
                go_roundw
                case rel =>
                  refine ⟨p + (8 + n), rs ++ [recAt rest], by go_num, R6, ?_⟩
                  have := HNX.out
                  rw [← HREST.out, ← HN.out] at this
                  exact this
                case measure => simp [intOf]; omega
              · have le' : (Crc.sumOf (recAt rest) != leVal ((rest.drop 4).take 4)) = true := by show (_ != sumAt rest) = true; simp [le]
                have hbad : ¬ good rest := fun h => le h.2.2.2
                have hst := HU.out.stop (HREST.out ▸ hbad)
                have HE : Hid (scanRes k data = (rs, p, 0)) := by show _ = _; rw [HS.out, hst.1, hst.2]
                clear hst hbad
                clear le
                go_wp2_with fail
                refine (new_any _ _ _ HUU.out (by omega)).mono ?_
                rintro e w2 ⟨g, rfl, hrd, hb2⟩
                have HRD := Lib.hid hrd
                have HB2 := Lib.hid hb2
                clear hrd hb2
                go_wp2_with fail
                refine (r32_ok _ _ _ _ HRD.out (by omega) HBR.out).mono ?_
                rintro e w3 ⟨rfl, hrd, ho3⟩
                rw [HSZ.out]
                have HRD3 := Lib.hid hrd
                have HO3 := Lib.hid ho3
                clear hrd ho3
                go_wp2_with fail
                refine (r32_ok _ _ _ _ HRD3.out (by rw [List.length_drop]; omega) (HBR.out.drop 4)).mono ?_
                rintro e w4 ⟨rfl, hrd, ho4⟩
                have HRD4 := Lib.hid hrd
                have HO4 := Lib.hid ho4
                clear hrd ho4
                go_wp2_with fail
                refine (right_any _ _ _ _ _ HRD4.out).mono ?_
                rintro e w' ⟨rfl, rfl⟩
                have HB4 := Lib.hid (HB2.out.trans ((HO3.out.trans HO4.out).below HRD.out.base HB2.out.size))
                go_wp2_with fail
                refine (left_any _ _ _ _ _ HRD4.out).mono ?_
                rintro e w' ⟨rfl, rfl⟩
                rw [HLEN.out]
                go_wp2_with fail
                refine (Crc.sum_any _ _ _ (HU2.out.below HB4.out)).mono ?_
                rintro e w' ⟨rfl, rfl⟩
                go_wp2_with fail
                (try rw [Exit.noGoto_ret])
                go_ret3
                rw [HE.out]
                exact ⟨_, rfl, HR.out.step HB4.out⟩
            · have HLEN : Hid (((List.drop 4 (List.drop 4 rest)).length : Int) = (rest.length : Int) - 8) := by show _ = _; rw [List.length_drop, List.length_drop]; omega
              have hbad : ¬ good rest := fun h => lf (by rw [HN.out]; exact h.2.2.1)
              have hst := HU.out.stop (HREST.out ▸ hbad)
              have HE : Hid (scanRes k data = (rs, p, 0)) := by show _ = _; rw [HS.out, hst.1, hst.2]
              clear hst hbad
              go_wp2_with fail
              refine (new_any _ _ _ HUU.out (by omega)).mono ?_
              rintro e w2 ⟨g, rfl, hrd, hb2⟩
              have HRD := Lib.hid hrd
              have HB2 := Lib.hid hb2
              clear hrd hb2
              go_wp2_with fail
              refine (r32_ok _ _ _ _ HRD.out (by omega) HBR.out).mono ?_
              rintro e w3 ⟨rfl, hrd, ho3⟩
              rw [HSZ.out]
              have HRD3 := Lib.hid hrd
              have HO3 := Lib.hid ho3
              clear hrd ho3
              go_wp2_with fail
              refine (r32_ok _ _ _ _ HRD3.out (by rw [List.length_drop]; omega) (HBR.out.drop 4)).mono ?_
              rintro e w4 ⟨rfl, hrd, ho4⟩
              have HRD4 := Lib.hid hrd
              have HO4 := Lib.hid ho4
              clear hrd ho4
              go_wp2_with fail
              refine (right_any _ _ _ _ _ HRD4.out).mono ?_
              rintro e w' ⟨rfl, rfl⟩
              have HB4 := Lib.hid (HB2.out.trans ((HO3.out.trans HO4.out).below HRD.out.base HB2.out.size))
              go_wp2_with fail
              refine (left_any _ _ _ _ _ HRD4.out).mono ?_
              rintro e w' ⟨rfl, rfl⟩
              rw [HLEN.out]
              go_wp2_with fail
              (try rw [Exit.noGoto_ret])
              go_ret3
              rw [HE.out]
              exact ⟨_, rfl, HR.out.step HB4.out⟩
          · skip
            have hbad : ¬ good rest := fun h => ln (by rw [HN.out]; exact h.2.1)
            have hst := HU.out.stop (HREST.out ▸ hbad)
            have HE : Hid (scanRes k data = (rs, p, 0)) := by show _ = _; rw [HS.out, hst.1, hst.2]
            clear hst hbad
            go_wp2_with fail
            refine (new_any _ _ _ HUU.out (by omega)).mono ?_
            rintro e w2 ⟨g, rfl, hrd, hb2⟩
            have HRD := Lib.hid hrd
            have HB2 := Lib.hid hb2
            clear hrd hb2
            go_wp2_with fail
            refine (r32_ok _ _ _ _ HRD.out (by omega) HBR.out).mono ?_
            rintro e w3 ⟨rfl, hrd, ho3⟩
            rw [HSZ.out]
            have HRD3 := Lib.hid hrd
            have HO3 := Lib.hid ho3
            clear hrd ho3
            go_wp2_with fail
            refine (r32_ok _ _ _ _ HRD3.out (by rw [List.length_drop]; omega) (HBR.out.drop 4)).mono ?_
            rintro e w4 ⟨rfl, hrd, ho4⟩
            have HRD4 := Lib.hid hrd
            have HO4 := Lib.hid ho4
            clear hrd ho4
            go_wp2_with fail
            refine (right_any _ _ _ _ _ HRD4.out).mono ?_
            rintro e w' ⟨rfl, rfl⟩
            have HB4 := Lib.hid (HB2.out.trans ((HO3.out.trans HO4.out).below HRD.out.base HB2.out.size))
            go_wp2_with fail
            (try rw [Exit.noGoto_ret])
            go_ret3
            rw [HE.out]
            exact ⟨_, rfl, HR.out.step HB4.out⟩
        · by_cases l4 : 4 ≤ rest.length
          · have hbad : ¬ good rest := fun h => l8 h.1
            have hst := HU.out.stop (HREST.out ▸ hbad)
            have HE : Hid (scanRes k data = (rs, p, 0)) := by show _ = _; rw [HS.out, hst.1, hst.2]
            clear hst hbad
            have hr4 := sizeAt_range rest HBR.out
            obtain ⟨n, hn⟩ : ∃ n, n = sizeAt rest := ⟨_, rfl⟩
            rw [← hn] at hr4
            have HSZ := Lib.hid hr4.1
            have hn32 := hr4.2
            clear hr4 hn
            go_wp2_with fail
            refine (new_any _ _ _ HUU.out (by omega)).mono ?_
            rintro e w2 ⟨g, rfl, hrd, hb2⟩
            have HRD := Lib.hid hrd
            have HB2 := Lib.hid hb2
            clear hrd hb2
            go_wp2_with fail
            refine (r32_ok _ _ _ _ HRD.out (by omega) HBR.out).mono ?_
            rintro e w3 ⟨rfl, hrd, ho3⟩
            rw [HSZ.out]
            have HRD3 := Lib.hid hrd
            have HO3 := Lib.hid ho3
            clear hrd ho3
            go_wp2_with fail
            refine (r32_short _ _ _ _ _ HRD3.out (Or.inr (by rw [List.length_drop]; omega))).mono ?_
            rintro e w4 ⟨rfl, hrd, ho4⟩
            have HRD4 := Lib.hid hrd
            have HO4 := Lib.hid ho4
            clear hrd ho4
            go_wp2_with fail
            refine (right_any _ _ _ _ _ HRD4.out).mono ?_
            rintro e w' ⟨rfl, rfl⟩
            have HB4 := Lib.hid (HB2.out.trans ((HO3.out.trans HO4.out).below HRD.out.base HB2.out.size))
            go_wp2_with fail
            (try rw [Exit.noGoto_ret])
            go_ret3
            rw [HE.out]
            exact ⟨_, rfl, HR.out.step HB4.out⟩
          · have hbad : ¬ good rest := fun h => l8 h.1
            have hst := HU.out.stop (HREST.out ▸ hbad)
            have HE : Hid (scanRes k data = (rs, p, 0)) := by show _ = _; rw [HS.out, hst.1, hst.2]
            clear hst hbad
            go_wp2_with fail
            refine (new_any _ _ _ HUU.out (by omega)).mono ?_
            rintro e w2 ⟨g, rfl, hrd, hb2⟩
            have HRD := Lib.hid hrd
            have HB2 := Lib.hid hb2
            clear hrd hb2
            go_wp2_with fail
            refine (r32_short _ _ _ _ _ HRD.out (Or.inr (by omega))).mono ?_
            rintro e w3 ⟨rfl, hrd, ho3⟩
            have HRD3 := Lib.hid hrd
            have HO3 := Lib.hid ho3
            clear hrd ho3
            go_wp2_with fail
            refine (r32_short _ _ _ _ _ HRD3.out (Or.inl rfl)).mono ?_
            rintro e w4 ⟨rfl, hrd, ho4⟩
            have HRD4 := Lib.hid hrd
            have HO4 := Lib.hid ho4
            clear hrd ho4
            go_wp2_with fail
            refine (right_any _ _ _ _ _ HRD4.out).mono ?_
            rintro e w' ⟨rfl, rfl⟩
            go_wp2_with fail
            (try rw [Exit.noGoto_ret])
            go_ret3
            rw [HE.out]
            exact ⟨_, rfl, HR.out.step (HB2.out.trans ((HO3.out.trans HO4.out).below HRD.out.base HB2.out.size))⟩
    · have d2 : decide (data.take (headBytes k).length = headBytes k) = false := decide_eq_false g1
      have HS := Lib.hid (scanRes_bad (k := k) (data := data) (fun h => g0 h.1) g1)
      clear g1
      go_enter Tryz.func50, Tryz.ntmps50
      go_wp2
      go_step3
      go_wp2_with fail
      refine (head_any _ _).mono ?_
      rintro e w1 ⟨v1, rfl, o1⟩
      obtain ⟨A1, n1, c1, rfl, hn1⟩ := o1.slice
      replace hn1 : n1 = 8 := hn1
      subst hn1
      have O1 := Lib.hid o1
      clear o1
      go_wp2_with fail
      refine (prefix_any _ _ _ _ _ (HV.out.below O1.out.below) O1.out.bs HB.out HH.out).mono ?_
      rintro e w' ⟨rfl, rfl⟩
      rw [d2]
      go_wp2_with fail
      (try rw [Exit.noGoto_ret])
      go_ret3
      rw [HS.out]
      exact ⟨_, rfl, Recs.nil O1.out.below⟩
end Go.Proofs.YtononoakdebjeaaGreatDoor.Rec
