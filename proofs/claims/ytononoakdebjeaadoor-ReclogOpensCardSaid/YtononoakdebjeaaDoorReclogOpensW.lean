/- What is opened of any file, and what becomes of it (walk of the statement). -/
import Derived.Test.YtononoakdebjeaaDoorRecLawP
import Derived.Test.YtononoakdebjeaaDoorRecAwake
import Derived.Test.YtononoakdebjeaaDoorRecRefScan
import Derived.Test.YtononoakdebjeaaDoorCut
import Derived.RegionTactic
import Derived.ChangeAlike
import Derived.BigRegion
namespace Go.Proofs.YtononoakdebjeaaDoor.Rec
open Go.RowKit Go.Proofs.YtononoakdebjeaaDoorW.PrintWords Go.Proofs.YtononoakdebjeaaDoorW.PrintLast Go.Proofs.YtononoakdebjeaaDoor.Base Go.Proofs.YtononoakdebjeaaDoor.Path Go.Proofs.YtononoakdebjeaaDoor.Pack Go.Proofs.YtononoakdebjeaaDoor.Dk Go.Maps
set_option linter.unusedVariables false
set_option linter.unusedSimpArgs false
/-- The disk ahead of the opening. -/
structure PreI (xs : List Int) (th : Bool) (D : DiskV) : Prop where
  up : UpA D
  len : D.dir.length ≤ 2
  quota : D.quota = 16777216
  bytes : bytesAt D logN = if th then xs else []
theorem pre_new (xs : List Int) : PreI xs false (newV 16777216 fun _ => ⟨[], 0, 0⟩) ∧ (newV 16777216 fun _ => ⟨[], 0, 0⟩).dir.length = 0 := ⟨⟨⟨rfl, rfl⟩, Nat.zero_le _, rfl, rfl⟩, rfl⟩
theorem pre_log {c : Nat} {xs : List Int} {D D' : DiskV} {k : Nat} (hk : OkD c D) (h : PreI xs false D) (h0 : D.dir.length = 0) (hx : xs.length ≤ 5000) (r : DeedR D (rightB logN) (FreshR logN xs) D' k) : k = 0 ∧ PreI xs true D' ∧ D'.dir.length ≤ 1 := by
  have hp : Plain (countV D) := ⟨(Plain.of hk).up, (Plain.of hk).small⟩
  obtain ⟨a1, j, a2⟩ := fresh_told hp logN_no (fits_zero hp (by omega) (by show D.dir.length ≤ 10; omega) (by show 1048576 ≤ D.quota; rw [h.quota]; decide)) (h.up.deed right_log r)
  have hl := a2.len
  have hl : D'.dir.length ≤ D.dir.length + 1 := hl
  exact ⟨a1, ⟨⟨a2.down.trans h.up.down, a2.armed.trans (count_minus h.up.armed)⟩, by omega, a2.quota.trans h.quota, a2.bytes⟩, by omega⟩
theorem pre_new' {c : Nat} {xs ys : List Int} {th : Bool} {D D' : DiskV} {k : Nat} (hk : OkD c D) (h : PreI xs th D) (h0 : D.dir.length ≤ 1) (hx : ys.length ≤ 5000) (r : DeedR D (rightB newN) (FreshR newN ys) D' k) : k = 0 ∧ PreI xs th D' := by
  have hp : Plain (countV D) := ⟨(Plain.of hk).up, (Plain.of hk).small⟩
  obtain ⟨a1, j, a2⟩ := fresh_told hp newN_no (fits_zero hp (by omega) (by show D.dir.length ≤ 10; omega) (by show 1048576 ≤ D.quota; rw [h.quota]; decide)) (h.up.deed right_lognew r)
  have hl := a2.len
  have hl : D'.dir.length ≤ D.dir.length + 1 := hl
  exact ⟨a1, ⟨⟨a2.down.trans h.up.down, a2.armed.trans (count_minus h.up.armed)⟩, by omega, a2.quota.trans h.quota, (a2.others (Ne.symm newN_log)).trans h.bytes⟩⟩
set_option maxRecDepth 100000 in
set_option maxHeartbeats 4000000 in
theorem ReclogOpens_any (u : Value) (xs : List Int) (kd : Int) (th sp : Bool) (w : World) (hu : Bs w u xs) (hb : Bytes xs) (k0 : 0 ≤ kd) (k1 : kd < 256) :
    Calls Tryd.prog 3 #[.agg #[u, .int .u8 kd, .bool th, .bool sp]] w fun e w' => e = .returned (.bool true) ∧ Below w.heap.size w w' := by
  obtain ⟨A, n, cp, rfl, hn⟩ : ∃ A n c, u = .slice A n c ∧ n = xs.length := by obtain ⟨A, c, rfl, _⟩ := hu; exact ⟨A, _, c, rfl, rfl⟩
  have HU := Lib.hid hu
  have HB := Lib.hid hb
  have HN := Lib.hid hn
  clear hu hb hn
  go_enter Tryd.func3, Tryd.ntmps3
  go_upto_region 1 with (fail)
  obtain ⟨x, hx⟩ : ∃ x, w.heap.size = x := ⟨_, rfl⟩
  obtain ⟨W, hW⟩ : ∃ W, W = w.alloc (.cells #[.slice A n cp, .int .u8 kd, .bool th, .bool sp] 24) := ⟨_, rfl⟩
  have hX : W.heap[x]? = some (.cells #[.slice A n cp, .int .u8 kd, .bool th, .bool sp] 24 (0, 0)) := by rw [hW]; exact alloc_at w _ hx
  have hb0 : Below w.heap.size w W := by rw [hW]; exact below_alloc (Below.refl _ _) _
  rw [← hW]
  have z0 := blk_cell hX 0
  have z1 := blk_cell hX 1
  have z2 := blk_cell hX 2
  have z3 := blk_cell hX 3
  have HB0 := Lib.hid hb0
  clear hX hb0
  --S1
  go_region
  clear z0 z1 z2 z3 HB0
  obtain ⟨W2, hW2⟩ : ∃ W2, W2 = (w.alloc (.cells #[.slice A n cp, .int .u8 kd, .bool th, .bool sp] 24)).drew := ⟨_, rfl⟩
  have b2 : Below w.heap.size w W2 := by rw [hW2]; exact Below.drew (below_alloc (Below.refl _ _) _)
  rw [← hW2]
  have HB2 := Lib.hid b2
  clear hW hW2 b2 hx W
  by_cases l1 : 5000 < n
  · have d1 : decide ((5000 : Int) < (n : Int)) = true := decide_eq_true (by omega)
    have d2 : decide (5000 < n) = true := decide_eq_true l1
    clear l1
    go_wp2
    go_ret
    exact ⟨rfl, HB2.out⟩
  have d1 : decide ((5000 : Int) < (n : Int)) = false := decide_eq_false (by omega)
  have d2 : decide (5000 < n) = false := decide_eq_false l1
  have HXL : Hid (xs.length ≤ 5000) := by rw [← HN.out]; show _ ≤ _; omega
  have HU2 := Lib.hid (HU.out.below HB2.out)
  have HNW := Lib.hid (new_q (B := W2.heap.size) 16777216 (by omega) W2 (Nat.le_refl _))
  clear l1
  go_wp2_with fail
  refine HNW.out.mono ?_
  rintro e w3 ⟨g, rfl, q3, b3⟩
  have HD3 : Hid (DU W2 (fun _ => False) 1 w3 g (newV 16777216 fun _ => ⟨[], 0, 0⟩)) := DU.start q3 b3
  clear q3 b3 HNW
  go_upto_region 7 with fail
  go_cut [59] from 44 (fun s59 wx => s59 = .bool false ∧ ∃ D c1, c1 ≤ 7 ∧ Hid (DU W2 (fun _ => False) c1 wx g D) ∧ Hid (PreI xs th D))
  case first =>
    cases th
    · cases sp
      · go_wp2
        go_meet
        case rel => exact ⟨rfl, _, 1, by decide, HD3, Lib.hid (pre_new xs).1⟩
      · have HWR := Lib.hid (HD3.out.write newN _ xs (by decide) (BU.old HD3.out HU2.out) (by have := HXL.out; omega) (by decide))
        go_wp2_with fail
        refine HWR.out.mono ?_
        rintro e w4 ⟨D4, k4, rfl, h4, r4, t4⟩
        obtain ⟨rfl, p4⟩ := pre_new' HD3.out.ok (pre_new xs).1 (Nat.zero_le _) HXL.out r4
        have H4 := Lib.hid h4
        have P4 := Lib.hid p4
        clear h4 r4 t4 p4 HWR
        go_wp2
        go_meet
        case rel => exact ⟨rfl, D4, _, by decide, H4, P4⟩
    · have HWR := Lib.hid (HD3.out.write logN _ xs (by decide) (BU.old HD3.out HU2.out) (by have := HXL.out; omega) (by decide))
      go_wp2_with fail
      refine HWR.out.mono ?_
      rintro e w4 ⟨D4, k4, rfl, h4, r4, t4⟩
      obtain ⟨rfl, p4, l4⟩ := pre_log HD3.out.ok (pre_new xs).1 rfl HXL.out r4
      have H4 := Lib.hid h4
      have P4 := Lib.hid p4
      have L4 := Lib.hid l4
      clear h4 r4 t4 p4 l4 HWR
      cases sp
      · go_wp2
        go_meet
        case rel => exact ⟨rfl, D4, _, by decide, H4, P4⟩
      · have HWR := Lib.hid (H4.out.write newN _ xs (by decide) (BU.old H4.out HU2.out) (by have := HXL.out; omega) (by decide))
        go_wp2_with fail
        refine HWR.out.mono ?_
        rintro e w5 ⟨D5, k5, rfl, h5, r5, t5⟩
        obtain ⟨rfl, p5⟩ := pre_new' H4.out.ok P4.out L4.out HXL.out r5
        have H5 := Lib.hid h5
        have P5 := Lib.hid p5
        clear h5 r5 t5 p5 HWR
        go_wp2
        go_meet
        case rel => exact ⟨rfl, D5, _, by decide, H5, P5⟩
  case rest =>
    obtain ⟨rfl, D, c1, hc1, HD4, HP4⟩ := hcut
    obtain ⟨w4, hw4⟩ : ∃ w4, w4 = wc := ⟨_, rfl⟩
    rw [← hw4] at HD4 ⊢
    clear hw4
    go_upto_if 61 with fail
    go_cut [3] from 62 (fun s3 wx => w4 = wx ∧ ∃ A' n' c', s3 = .slice A' n' c' ∧ Hid (Bs W2 (.slice A' n' c') (if th then xs else [])))
    case first =>
      cases th
      · go_wp2
        go_meet
        case rel => exact ⟨rfl, none, 0, 0, rfl, Lib.hid (Bs.nil W2)⟩
      · go_wp2
        go_meet
        case rel => exact ⟨rfl, A, n, cp, rfl, HU2⟩
    case rest =>
      obtain ⟨rfl, A4, n4, c4, rfl, HV⟩ := hcut
      obtain ⟨ys, hys⟩ : ∃ ys, ys = if th then xs else [] := ⟨_, rfl⟩
      have HYB : Hid (Bytes ys) := by
        have h := HB.out
        rw [hys]
        cases th
        · exact fun q hq => by cases hq
        · exact h
      have HYL : Hid (ys.length ≤ 5000) := by
        have h := HXL.out
        rw [hys]
        cases th
        · exact Nat.zero_le _
        · exact h
      have HYD : Hid (bytesAt D logN = ys) := HP4.out.bytes.trans hys.symm
      rw [← hys] at HV
      clear hys
      have HOP := Lib.hid (open_any W2 _ c1 g D logN kd w4 HD4.out (by decide) k0 k1 (fun _ => by rw [HYD.out]; exact HYB.out) (by omega))
      go_wp2_with fail
      refine HOP.out.mono ?_
      rintro e w5 ⟨D5, k5, rs5, U, hU, h5, t5, r5, hk⟩
      obtain ⟨n5, up5, h6⟩ := open_told (Plain.of HD4.out.ok) HP4.out.up (by have := HP4.out.len; omega) (by rw [HP4.out.quota]; decide) right_log (by rw [newName_log]; exact right_lognew) logN_no r5
      rw [HYD.out] at h6
      rw [newName_log] at n5
      obtain ⟨rs, en, er, hsr⟩ : ∃ rs en er, scanRes kd ys = (rs, en, er) := ⟨_, _, _, rfl⟩
      have HEN : Hid (en ≤ ys.length) := by have h := scanRes_end kd ys; rw [hsr] at h; exact h
      have HER : Hid (er = 0 ∨ er = 9) := by have h := scanRes_err kd ys; rw [hsr] at h; exact h
      rw [hsr] at h6
      simp only at h6
      have hrf := refscan_any kd _ ys w5 (HV.out.below h5.wide) HYB.out (by have := HYL.out; omega)
      rw [hsr] at hrf
      have HRF := Lib.hid hrf
      obtain ⟨T, hT⟩ : ∃ T : Nat → Prop, T = fun q => False ∨ U q := ⟨_, rfl⟩
      rw [← hT] at h5
      have H5 := Lib.hid h5
      have H6 := Lib.hid h6
      have HN5 := Lib.hid n5
      have UP5 := Lib.hid up5
      have HNIL : Hid (er ≠ 0 → ∃ i, Dk.look D.dir logN = some i) := fun h => by
        cases hl : Dk.look D.dir logN with
        | some i => exact ⟨i, rfl⟩
        | none =>
          exfalso
          have h1 := HYD.out
          rw [bytesAt_none hl] at h1
          rw [← h1, scanRes_nil] at hsr
          exact h (congrArg (fun p => p.2.2) hsr).symm
      clear hsr hrf h5 h6 n5 up5 hT t5 r5 HOP
      rcases hk with ⟨hk0, rfl⟩ | ⟨rfl, l, v5, rfl, hl5, hu5⟩
      · obtain ⟨he, rfl, hl6, hb6⟩ := H6.out.resolve_right (fun h => hk0 h.2.1)
        obtain rfl : er = 9 := HER.out.resolve_left he
        obtain ⟨i, hi⟩ := HNIL.out he
        have HI : Hid (Dk.look D5.dir logN = some i) := hl6.trans hi
        have HBI : Hid ((D5.fs i).b = ys) := by
          show _ = _
          rw [← bytesAt_some HI.out, hb6]
        clear he hl6 hb6 hi hk0
        go_wp2_with fail
        refine HRF.out.mono ?_
        rintro e w6 ⟨vr, rfl, r6⟩
        obtain ⟨A6, n6, c6, rfl, hn6⟩ := r6.slice
        have HB6 := Lib.hid r6.below
        have HST := Lib.hid ((H5.out.below HB6.out).stat newN (by decide))
        clear r6 hn6 HRF
        go_wp2_with fail
        refine HST.out.mono ?_
        rintro e w7 hp
        obtain ⟨rfl, b7⟩ := stat_none hp UP5.out.down HN5.out
        have HB7 : Hid (Below w5.heap.size w5 (w7.alloc (.cells #[.int .i64 0, .int .i64 0] 37))) := below_alloc (HB6.out.trans (b7.mono HB6.out.size)) _
        have HRD := Lib.hid ((H5.out.below HB7.out).read logN (by decide))
        clear hp b7 HST
        go_wp2_with fail
        refine HRD.out.mono ?_
        rintro e w8 hp
        obtain ⟨v8, rfl, o8⟩ := read_some hp UP5.out.down HI.out
        rw [HBI.out] at o8
        obtain ⟨A8, n8, c8, rfl, hn8⟩ := o8.slice
        have HD8 := Lib.hid ((H5.out.below HB7.out).below o8.below)
        have s1 := str_of o8.bs
        have s2 := str_of (HV.out.below HD8.out.wide)
        have s3 : ((strOfNums ys).toList == (strOfNums ys).toList) = true := beq_self_eq_true _
        clear hp o8 hn8 HRD
        go_wp2_with fail
        refine (awake_any w8).mono ?_
        rintro e w9 ⟨rfl, b9⟩
        have HB9 : Hid (Below w.heap.size w w9) := HB2.out.trans ((HD8.out.wide.trans (b9.mono HD8.out.wide.size)).mono HB2.out.size)
        clear s1 s2 s3 b9
        go_wp2
        go_ret
        exact ⟨rfl, HB9.out⟩
      · obtain ⟨he, _, hrs, i, hi, hbi⟩ := H6.out.resolve_left (fun h => by have := h.2.1; omega)
        subst he
        subst hrs
        have HI := Lib.hid hi
        obtain ⟨zs, hzs⟩ : ∃ zs, zs = (if en = 0 then headBytes kd else ys.take en) := ⟨_, rfl⟩
        rw [← hzs] at hbi
        have HBI := Lib.hid hbi
        have HZS := Lib.hid hzs
        have HR5 := Lib.hid hu5.rs
        clear hi hbi hl5 hu5 hzs H6
        go_wp2_with fail
        refine HRF.out.mono ?_
        rintro e w6 ⟨vr, rfl, r6⟩
        have HR6 := Lib.hid r6.rs
        have HB6 := Lib.hid r6.below
        have HST := Lib.hid ((H5.out.below HB6.out).stat newN (by decide))
        clear r6 HRF
        go_wp2_with fail
        refine HST.out.mono ?_
        rintro e w7 hp
        obtain ⟨rfl, b7⟩ := stat_none hp UP5.out.down HN5.out
        have HB67 : Hid (Below w6.heap.size w6 (w7.alloc (.cells #[.int .i64 0, .int .i64 0] 37))) := below_alloc b7 _
        have HB7 : Hid (Below w5.heap.size w5 (w7.alloc (.cells #[.int .i64 0, .int .i64 0] 37))) := HB6.out.trans (HB67.out.mono HB6.out.size)
        have HRD := Lib.hid ((H5.out.below HB7.out).read logN (by decide))
        clear hp b7 HST
        go_wp2_with fail
        refine HRD.out.mono ?_
        rintro e w8 hp
        obtain ⟨v8, rfl, o8⟩ := read_some hp UP5.out.down HI.out
        rw [HBI.out] at o8
        have HO8 := Lib.hid o8
        have HHD := Lib.hid (refhead_any kd w8)
        clear hp o8 HRD
        go_wp2_with fail
        refine HHD.out.mono ?_
        rintro e w9 ⟨v9, rfl, o9⟩
        obtain ⟨A9, n9, c9, rfl, hn9⟩ := o9.slice
        have HO9 := Lib.hid o9
        have HB9 : Hid (Below w5.heap.size w5 w9) := HB7.out.trans ((HO8.out.below.trans (o9.below.mono HO8.out.below.size)).mono HB7.out.size)
        have HV9 := Lib.hid (HV.out.below (H5.out.below HB9.out).wide)
        clear o9 hn9 HHD
        go_upto_if 119 with fail
        go_cut [19] from 119 (fun s19 wx => w9 = wx ∧ ∃ A' n' c', s19 = .slice A' n' c' ∧ Hid (Bs w9 (.slice A' n' c') zs))
        case first =>
          by_cases g1 : en = 0
          · have d4 : decide (0 < en) = false := decide_eq_false (by omega)
            have HG := Lib.hid g1
            clear g1
            simp only [d4]
            go_wp2
            go_meet
            case rel => exact ⟨rfl, A9, n9, c9, rfl, Lib.hid (by rw [HZS.out, if_pos HG.out]; exact HO9.out.bs)⟩
          · obtain ⟨u, ku, hu⟩ := cut_to HV9.out en HEN.out
            obtain ⟨A10, n10, c10, rfl⟩ : ∃ A n c, u = .slice A n c := by obtain ⟨A, c, rfl, _⟩ := hu; exact ⟨A, _, c, rfl⟩
            have HU := Lib.hid hu
            have d3 : decide ((0 : Int) < (en : Int)) = true := decide_eq_true (by omega)
            have d4 : decide (0 < en) = true := decide_eq_true (by omega)
            have HG := Lib.hid g1
            clear hu g1
            simp only [d4]
            go_wp2
            go_meet
            case rel => exact ⟨rfl, A10, n10, c10, rfl, Lib.hid (by rw [HZS.out, if_neg HG.out]; exact HU.out)⟩
        case rest =>
          obtain ⟨rfl, A10, n10, c10, rfl, HW⟩ := hcut
          have HON := Lib.hid (open_nil logN kd w9 (by decide))
          go_wp2_with fail
          refine HON.out.mono ?_
          rintro e w10 ⟨rfl, b10⟩
          have HB10 : Hid (Below w6.heap.size w6 w10) := HB67.out.trans ((HO8.out.below.trans ((HO9.out.below.trans (b10.mono HO9.out.below.size)).mono HO8.out.below.size)).mono HB67.out.size)
          have HSM := Lib.hid (same_true _ _ _ w10 (HR5.out.below (HB6.out.trans (HB10.out.mono HB6.out.size))) (HR6.out.below HB10.out))
          have HS8 := Lib.hid (HO8.out.bs.below (HO9.out.below.trans (b10.mono HO9.out.below.size)))
          have HS9 := Lib.hid (HW.out.below b10)
          clear b10 HON
          go_wp2_with fail
          refine HSM.out.mono ?_
          rintro e w11 ⟨rfl, b11⟩
          have s1 := str_of (HS8.out.below b11)
          have s2 := str_of (HS9.out.below b11)
          have s3 : ((strOfNums zs).toList == (strOfNums zs).toList) = true := beq_self_eq_true _
          have HB11 : Hid (Below w.heap.size w w11) := by
            have h1 := HB6.out.trans ((HB10.out.trans (b11.mono HB10.out.size)).mono HB6.out.size)
            have h2 := (H5.out.below h1).wide
            exact HB2.out.trans (h2.mono HB2.out.size)
          clear b11 HSM
          go_wp2_with fail
          refine (awake_any w11).mono ?_
          rintro e w12 ⟨rfl, b12⟩
          have HB12 := Lib.hid (HB11.out.trans (b12.mono HB11.out.size))
          clear s1 s2 s3 b12
          go_wp2
          go_ret
          exact ⟨rfl, HB12.out⟩
end Go.Proofs.YtononoakdebjeaaDoor.Rec
