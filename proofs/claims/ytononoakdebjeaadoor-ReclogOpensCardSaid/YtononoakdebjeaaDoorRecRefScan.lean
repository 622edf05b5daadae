/- The contract of the reference's Scan (a walk), and of its Same. -/
import Derived.Test.YtononoakdebjeaaDoorRecWalk
import Derived.Test.YtononoakdebjeaaDoorCut
namespace Go.Proofs.YtononoakdebjeaaDoor.Rec
open Go.RowKit Go.Proofs.YtononoakdebjeaaDoorW.PrintWords Go.Proofs.YtononoakdebjeaaDoor.Base Go.Proofs.YtononoakdebjeaaDoor.Pack
set_option linter.unusedVariables false
set_option linter.unusedSimpArgs false

theorem take_next (xs : List Int) (k : Nat) (h : k < xs.length) : xs.take (k + 1) = xs.take k ++ [rd xs k] := by
  rw [List.take_add_one, List.getElem?_eq_getElem h]
  simp [rd, List.getD_eq_getElem?_getD, List.getElem?_eq_getElem h]

set_option maxHeartbeats 800000 in
theorem begins_any (v1 v2 : Value) (xs ys : List Int) (w : World) (h1 : Bs w v1 xs) (h2 : Bs w v2 ys) :
    Calls Tryd.prog 37 #[v1, v2] w fun e w' => e = .returned (.bool (decide (xs.take ys.length = ys.take xs.length))) ∧ Below w.heap.size w w' := by
  obtain ⟨A1, c1, rfl, hc1, hr1⟩ := h1
  obtain ⟨A2, c2, rfl, hc2, hr2⟩ := h2
  have hm1 := hr1.2.1
  have hm2 := hr2.2.1
  have R1 := Lib.hid hr1
  have R2 := Lib.hid hr2
  clear hr1 hr2
  go_enter Tryd.func37, Tryd.ntmps37
  go_wp2
  go_loopw [5] (fun i wr => ∃ k : Nat, k ≤ xs.length ∧ k ≤ ys.length ∧ i = .int .i64 k ∧ Hid (xs.take k = ys.take k) ∧ Hid (Below w.heap.size w wr)) (fun i _ => xs.length - (intOf i).toNat)
  case atStart => exact ⟨0, by omega, by omega, rfl, rfl, Below.refl _ _⟩
  case round =>
    obtain ⟨k, hk1, hk2, rfl, HE, HB⟩ := hrel
    by_cases l1 : k < xs.length
    · by_cases l2 : k < ys.length
      · obtain ⟨ad1, e1, q1⟩ := at_nat (R1.out) k l1
        obtain ⟨ad2, e2, q2⟩ := at_nat (R2.out) k l2
        cases e1
        cases e2
        have c1' := pw_cell_below HB.out q1
        have c2' := pw_cell_below HB.out q2
        by_cases hne : rd xs k = rd ys k
        · have hb : (rd xs k != rd ys k) = false := by simp [hne]
          have HX : Hid (xs.take (k + 1) = ys.take (k + 1)) := by show _ = _; rw [take_next xs k l1, take_next ys k l2, HE.out, hne]
          clear hne
          go_wp2
          go_quiet (fail)
          go_wp2
          go_roundw
          case rel => exact ⟨k + 1, by omega, by omega, by go_num, HX, pw_below_drewN HB.out _⟩
          case measure => simp [intOf]; omega
        · have hb : (rd xs k != rd ys k) = true := by simp [hne]
          have HX : Hid (decide (xs.take ys.length = ys.take xs.length) = false) := by
            refine decide_eq_false (fun h => hne ?_)
            have h3 : (xs.take ys.length)[k]? = (ys.take xs.length)[k]? := by rw [h]
            rw [List.getElem?_take_of_lt l2, List.getElem?_take_of_lt l1] at h3
            unfold rd
            rw [List.getD_eq_getElem?_getD, List.getD_eq_getElem?_getD]
            simp [h3]
          clear hne
          go_wp2
          go_quiet (fail)
          go_wp2
          go_ret
          exact ⟨by rw [HX.out]; rfl, pw_below_drewN HB.out _⟩
      · have hk : k = ys.length := by omega
        have HX : Hid (decide (xs.take ys.length = ys.take xs.length) = true) := by
          refine decide_eq_true ?_
          rw [hk] at HE
          rw [HE.out, List.take_of_length_le (Nat.le_refl _), List.take_of_length_le (by omega)]
        clear hk
        go_wp2
        go_ret
        exact ⟨by rw [HX.out]; rfl, HB.out⟩
    · have hk : k = xs.length := by omega
      have HX : Hid (decide (xs.take ys.length = ys.take xs.length) = true) := by
        refine decide_eq_true ?_
        rw [hk] at HE
        rw [← HE.out, List.take_of_length_le (Nat.le_refl _), List.take_of_length_le (by omega)]
      clear hk
      go_wp2
      go_ret
      exact ⟨by rw [HX.out]; rfl, HB.out⟩

set_option maxRecDepth 100000 in
set_option maxHeartbeats 1600000 in
theorem refscan_any (k : Int) (v : Value) (data : List Int) (w : World) (hv : Bs w v data) (hb : Bytes data) (hl : data.length ≤ 100000) :
    Calls Tryd.prog 11 #[v, .int .u8 k] w fun e w' => ∃ vr, e = .returned (.tuple #[vr, .int .i64 (scanRes k data).2.1, .int .i64 (scanRes k data).2.2]) ∧ Recs w w' vr (scanRes k data).1 := by
  obtain ⟨A, c, rfl, hc, hm⟩ := hv.len
  have HV := Lib.hid hv
  have HB := Lib.hid hb
  clear hv hb
  by_cases g0 : data.length < 8
  · by_cases g1 : (headBytes k).take data.length = data
    · have d1 : decide ((headBytes k).take data.length = data.take (headBytes k).length) = true := decide_eq_true (by rw [List.take_of_length_le (l := data) (by show _ ≤ 8; omega)]; exact g1)
      have HS := Lib.hid (scanRes_short g0 g1)
      clear g1
      go_enter Tryd.func11, Tryd.ntmps11
      go_wp2_with fail
      refine (refhead_any _ _).mono ?_
      rintro e w1 ⟨v1, rfl, o1⟩
      obtain ⟨A1, n1, c1, rfl, hn1⟩ := o1.slice
      replace hn1 : n1 = 8 := hn1
      subst hn1
      have O1 := Lib.hid o1
      clear o1
      go_wp2_with fail
      refine (begins_any _ _ _ _ _ O1.out.bs (HV.out.below O1.out.below)).mono ?_
      rintro e w2 ⟨rfl, hb2⟩
      have HB2 := Lib.hid (O1.out.below.trans (hb2.mono O1.out.below.size))
      clear hb2
      rw [d1]
      go_wp2_with fail
      (try rw [Exit.noGoto_ret])
      go_ret3
      rw [HS.out]
      exact ⟨_, rfl, Recs.nil HB2.out⟩
    · have d1 : decide ((headBytes k).take data.length = data.take (headBytes k).length) = false := decide_eq_false (by rw [List.take_of_length_le (l := data) (by show _ ≤ 8; omega)]; exact g1)
      have HS := Lib.hid (scanRes_bad (k := k) (data := data) (fun h => g1 h.2) (fun h => by have := congrArg List.length h; rw [List.length_take, show (headBytes k).length = 8 from rfl] at this; omega))
      clear g1
      go_enter Tryd.func11, Tryd.ntmps11
      go_wp2_with fail
      refine (refhead_any _ _).mono ?_
      rintro e w1 ⟨v1, rfl, o1⟩
      obtain ⟨A1, n1, c1, rfl, hn1⟩ := o1.slice
      replace hn1 : n1 = 8 := hn1
      subst hn1
      have O1 := Lib.hid o1
      clear o1
      go_wp2_with fail
      refine (begins_any _ _ _ _ _ O1.out.bs (HV.out.below O1.out.below)).mono ?_
      rintro e w2 ⟨rfl, hb2⟩
      have HB2 := Lib.hid (O1.out.below.trans (hb2.mono O1.out.below.size))
      clear hb2
      rw [d1]
      go_wp2_with fail
      (try rw [Exit.noGoto_ret])
      go_ret3
      rw [HS.out]
      exact ⟨_, rfl, Recs.nil HB2.out⟩
  · by_cases g1 : data.take 8 = headBytes k
    · have d1 : decide ((headBytes k).take data.length = data.take (headBytes k).length) = true := decide_eq_true (by rw [List.take_of_length_le (l := headBytes k) (by show 8 ≤ _; omega)]; exact g1.symm)
      have HS := Lib.hid (scanRes_good g1).2
      have g8 : 8 ≤ data.length := by omega
      clear g1
      go_enter Tryd.func11, Tryd.ntmps11
      go_wp2_with fail
      refine (refhead_any _ _).mono ?_
      rintro e w1 ⟨v1, rfl, o1⟩
      obtain ⟨A1, n1, c1, rfl, hn1⟩ := o1.slice
      replace hn1 : n1 = 8 := hn1
      subst hn1
      have O1 := Lib.hid o1
      clear o1
      go_wp2_with fail
      refine (begins_any _ _ _ _ _ O1.out.bs (HV.out.below O1.out.below)).mono ?_
      rintro e w2 ⟨rfl, hb2⟩
      have HB2 := Lib.hid (O1.out.below.trans (hb2.mono O1.out.below.size))
      clear hb2
      rw [d1]
      go_wp2_with fail
      go_loopw [7, 8] (fun vr i wr => ∃ (p : Nat) (rs : List (List Int)), i = .int .i64 p ∧ Hid (Recs w wr vr rs) ∧ Hid (Under data rs p)) (fun _ i _ => data.length - (intOf i).toNat)
      case atStart => exact ⟨8, [], rfl, Recs.nil HB2.out, Under.start g8⟩
      case round =>
        obtain ⟨p, rs, rfl, HR, HU⟩ := hrel
        have hlow := HU.out.low
        have hple := HU.out.le
        have hfew := HU.out.few
        have hbr := HB.out.drop p
        obtain ⟨rest, hrest⟩ : ∃ rest, rest = data.drop p := ⟨_, rfl⟩
        have HREST := Lib.hid hrest
        have hrl : p + rest.length = data.length := by rw [hrest, List.length_drop]; omega
        rw [← hrest] at hbr
        have HBR := Lib.hid hbr
        clear hbr hrest
        by_cases l8 : 8 ≤ rest.length
        · have hge : p + 8 ≤ data.length := by omega
          obtain ⟨n, hn⟩ : ∃ n, n = sizeAt rest := ⟨_, rfl⟩
          have hsz := sizeAt_range rest HBR.out
          rw [← hn] at hsz
          have HSZ := Lib.hid hsz.1
          have HN := Lib.hid hn
          have hn32 := hsz.2
          have hs2 := sumAt_range rest HBR.out
          clear hn hsz
          obtain ⟨q1, kq1, hq1⟩ := cut_mid (HV.out.below HR.out.below) p (p + 4) (by omega) (by omega)
          obtain ⟨q2, kq2, hq2⟩ := cut_mid (HV.out.below HR.out.below) (p + 4) (p + 8) (by omega) (by omega)
          rw [show p + 4 - p = 4 from by omega, ← HREST.out] at hq1
          rw [show p + 8 - (p + 4) = 4 from by omega, ← List.drop_drop, ← HREST.out] at hq2
          rw [show ((p + 4 : Nat) : Int) = (p : Int) + 4 from by omega] at kq1
          rw [show ((p + 8 : Nat) : Int) = (p : Int) + 8 from by omega, show ((p + 4 : Nat) : Int) = (p : Int) + 4 from by omega] at kq2
          have hq1l : (rest.take 4).length = 4 := by rw [List.length_take]; omega
          have hq2l : ((rest.drop 4).take 4).length = 4 := by rw [List.length_take, List.length_drop]; omega
          have HQ1 := Lib.hid hq1
          have HQ2 := Lib.hid hq2
          have HBQ := Lib.hid (And.intro (HBR.out.take 4) ((HBR.out.drop 4).take 4))
          obtain ⟨Aq1, cq1, rfl, _, _⟩ := hq1.len
          obtain ⟨Aq2, cq2, rfl, _, _⟩ := hq2.len
          have HQL := Lib.hid (And.intro hq1l hq2l)
          rw [hq1l] at HQ1 kq1
          rw [hq2l] at HQ2 kq2
          clear hq1 hq2 hq1l hq2l
          by_cases ln : n ≤ 4096
          · by_cases lf : n + 8 ≤ rest.length
            · obtain ⟨u2, ku2, hu2⟩ := cut_mid (HV.out.below HR.out.below) (p + 8) (p + 8 + n) (by omega) (by omega)
              have er : (data.drop (p + 8)).take (p + 8 + n - (p + 8)) = recAt rest := by
                unfold recAt
                rw [HREST.out, List.drop_drop, ← HREST.out, ← HN.out, Nat.add_sub_cancel_left]
              rw [er] at hu2
              rw [show ((p + 8 + n : Nat) : Int) = (p : Int) + 8 + (n : Int) from by omega, show ((p + 8 : Nat) : Int) = (p : Int) + 8 from by omega] at ku2
              have hbr2 := recAt_bytes rest HBR.out
              have hlr2 : (recAt rest).length = n := by
                rw [← er, List.length_take, List.length_drop]; omega
              obtain ⟨A2, c2, rfl, hcu2, _⟩ := hu2.len
              rw [hlr2] at ku2
              have HU2 := Lib.hid (hlr2 ▸ hu2)
              have HBR2 := Lib.hid hbr2
              have HLR2 := Lib.hid hlr2
              have HRS := Lib.hid (Crc.refSum_eq (recAt rest) hbr2)
              have hsr := sumOf_range (recAt rest) hbr2
              clear hu2 hbr2 er hlr2
              by_cases le : Crc.sumOf (recAt rest) = sumAt rest
              · have hgood : good rest := ⟨l8, by rw [← HN.out]; exact ln, by rw [← HN.out]; exact lf, le⟩
                have HG := Lib.hid hgood
                have le' : (Crc.sumOf (recAt rest) != leVal ((rest.drop 4).take 4)) = false := by show (_ != sumAt rest) = false; simp [le]
                clear le hgood
                go_wp2_with fail
                refine (value_any _ _ _ HQ1.out (by rw [HQL.out.1]; omega) HBQ.out.1).mono ?_
                rintro e w' ⟨rfl, rfl⟩
                rw [HSZ.out]
                go_wp2_with fail
                refine (value_any _ _ _ HQ2.out (by rw [HQL.out.2]; omega) HBQ.out.2).mono ?_
                rintro e w' ⟨rfl, rfl⟩
                go_wp2_with fail
                refine (Crc.refsum_any _ _ _ HU2.out (by rw [HLR2.out]; omega)).mono ?_
                rintro e w' ⟨rfl, rfl⟩
                rw [HRS.out]
                have HL0 := Lib.hid (Ow.lit HR.out.below [] (by simp))
                go_wp2_with (at_builtin; refine Held.of ?_)
                refine app_bytes rfl (.tmp 65) (.tmp 66) 22 rfl Tryd.underlying22 _ _ [] (recAt rest) rfl rfl HL0.out (HU2.out.alloc _) (by rw [HLR2.out]; simp only [List.length_nil]; omega) ?_
                intro v5 w5 o5 hg5
                rw [List.nil_append] at o5
                obtain ⟨A5, n5, c5, rfl, hn5⟩ := o5.slice
                clear hn5
                have HRR := Lib.hid (HR.out.step ((Below.refl _ _).alloc (Nat.le_refl _) _ |>.grown hg5 (by simp) (fun k hk => by cases hk; exact Nat.le_refl _)))
                have O5 := Lib.hid o5
                clear o5 hg5
                go_wp2_with (at_builtin; refine Held.of ?_)
                refine app_rec (w0 := w) rfl (.tmp 64) (.tmp 68) 31 rfl Tryd.underlying31 u7 (.slice A5 n5 c5) rs (recAt rest) rfl rfl HRR.out O5.out (by omega) ?_
                intro v6 w6 HR6 _
                have R6 := Lib.hid HR6
                clear HR6
                have HNX := Lib.hid (HU.out.next (HREST.out ▸ HG.out))
                go_wp2
                go_roundw
                case rel =>
                  refine ⟨p + (8 + n), rs ++ [recAt rest], by go_num, R6, ?_⟩
                  have := HNX.out
                  rw [← HREST.out, ← HN.out] at this
                  exact this
                case measure => simp [intOf]; omega
              · have le' : (Crc.sumOf (recAt rest) != leVal ((rest.drop 4).take 4)) = true := by show (_ != sumAt rest) = true; simp [le]
                have hbad : ¬ good rest := fun h => le h.2.2.2
                have hst := HU.out.stop (HREST.out ▸ hbad)
                have HE : Hid (scanRes k data = (rs, p, 0)) := by show _ = _; rw [HS.out, hst.1, hst.2]
                clear hst hbad
                clear le
                go_wp2_with fail
                refine (value_any _ _ _ HQ1.out (by rw [HQL.out.1]; omega) HBQ.out.1).mono ?_
                rintro e w' ⟨rfl, rfl⟩
                rw [HSZ.out]
                go_wp2_with fail
                refine (value_any _ _ _ HQ2.out (by rw [HQL.out.2]; omega) HBQ.out.2).mono ?_
                rintro e w' ⟨rfl, rfl⟩
                go_wp2_with fail
                refine (Crc.refsum_any _ _ _ HU2.out (by rw [HLR2.out]; omega)).mono ?_
                rintro e w' ⟨rfl, rfl⟩
                rw [HRS.out]
                go_wp2_with fail
                (try rw [Exit.noGoto_ret])
                go_ret3
                rw [HE.out]
                exact ⟨_, rfl, HR.out⟩
            · skip
              have hbad : ¬ good rest := fun h => lf (by rw [HN.out]; exact h.2.2.1)
              have hst := HU.out.stop (HREST.out ▸ hbad)
              have HE : Hid (scanRes k data = (rs, p, 0)) := by show _ = _; rw [HS.out, hst.1, hst.2]
              clear hst hbad
              go_wp2_with fail
              refine (value_any _ _ _ HQ1.out (by rw [HQL.out.1]; omega) HBQ.out.1).mono ?_
              rintro e w' ⟨rfl, rfl⟩
              rw [HSZ.out]
              go_wp2_with fail
              refine (value_any _ _ _ HQ2.out (by rw [HQL.out.2]; omega) HBQ.out.2).mono ?_
              rintro e w' ⟨rfl, rfl⟩
              go_wp2_with fail
              (try rw [Exit.noGoto_ret])
              go_ret3
              rw [HE.out]
              exact ⟨_, rfl, HR.out⟩
          · skip
            have hbad : ¬ good rest := fun h => ln (by rw [HN.out]; exact h.2.1)
            have hst := HU.out.stop (HREST.out ▸ hbad)
            have HE : Hid (scanRes k data = (rs, p, 0)) := by show _ = _; rw [HS.out, hst.1, hst.2]
            clear hst hbad
            go_wp2_with fail
            refine (value_any _ _ _ HQ1.out (by rw [HQL.out.1]; omega) HBQ.out.1).mono ?_
            rintro e w' ⟨rfl, rfl⟩
            rw [HSZ.out]
            go_wp2_with fail
            refine (value_any _ _ _ HQ2.out (by rw [HQL.out.2]; omega) HBQ.out.2).mono ?_
            rintro e w' ⟨rfl, rfl⟩
            go_wp2_with fail
            (try rw [Exit.noGoto_ret])
            go_ret3
            rw [HE.out]
            exact ⟨_, rfl, HR.out⟩
        · have hge : ¬ (p + 8 ≤ data.length) := by omega
          have hbad : ¬ good rest := fun h => l8 h.1
          have hst := HU.out.stop (HREST.out ▸ hbad)
          have HE : Hid (scanRes k data = (rs, p, 0)) := by show _ = _; rw [HS.out, hst.1, hst.2]
          clear hst hbad
          go_wp2_with fail
          (try rw [Exit.noGoto_ret])
          go_ret3
          rw [HE.out]
          exact ⟨_, rfl, HR.out⟩
    · have d1 : decide ((headBytes k).take data.length = data.take (headBytes k).length) = false := decide_eq_false (by rw [List.take_of_length_le (l := headBytes k) (by show 8 ≤ _; omega)]; exact fun h => g1 h.symm)
      have HS := Lib.hid (scanRes_bad (k := k) (data := data) (fun h => g0 h.1) g1)
      clear g1
      go_enter Tryd.func11, Tryd.ntmps11
      go_wp2_with fail
      refine (refhead_any _ _).mono ?_
      rintro e w1 ⟨v1, rfl, o1⟩
      obtain ⟨A1, n1, c1, rfl, hn1⟩ := o1.slice
      replace hn1 : n1 = 8 := hn1
      subst hn1
      have O1 := Lib.hid o1
      clear o1
      go_wp2_with fail
      refine (begins_any _ _ _ _ _ O1.out.bs (HV.out.below O1.out.below)).mono ?_
      rintro e w2 ⟨rfl, hb2⟩
      have HB2 := Lib.hid (O1.out.below.trans (hb2.mono O1.out.below.size))
      clear hb2
      rw [d1]
      go_wp2_with fail
      (try rw [Exit.noGoto_ret])
      go_ret3
      rw [HS.out]
      exact ⟨_, rfl, Recs.nil HB2.out⟩
end Go.Proofs.YtononoakdebjeaaDoor.Rec
