/- No two contents ever had one time (walk of the statement DiskTimes). -/
import Derived.Test.YtononoakdebjeaaGreatDoorDkTimes
import Derived.Test.YtononoakdebjeaaGreatDoorDiskSureW
import Derived.RegionTactic
import Derived.BigRegion
import Derived.BigQuiet
namespace Go.Proofs.YtononoakdebjeaaGreatDoor.Dk
open Go.RowKit Go.Proofs.YtononoakdebjeaaGreatDoorW.PrintWords Go.Proofs.YtononoakdebjeaaGreatDoorW.PrintLast Go.Proofs.YtononoakdebjeaaGreatDoor.Base Go.Proofs.YtononoakdebjeaaGreatDoor.Path Go.Proofs.YtononoakdebjeaaGreatDoor.Pack Go.Maps
set_option linter.unusedVariables false
set_option linter.unusedSimpArgs false
--BEGIN WALK
set_option maxRecDepth 100000 in
set_option maxHeartbeats 8000000 in
theorem DiskTimes_any (v : Value) (l : List ActV) (w : World) (hv : Az w v l) :
    Calls Tryz.prog 4 #[v] w fun e w' => e = .returned (.bool true) ∧ Below w.heap.size w w' := by
  have HLI := Lib.hid (light04_any v l w hv)
  obtain ⟨A1, c1, rfl, _, hm1, hC⟩ := hv
  obtain ⟨n1, hn1⟩ : ∃ n, n = l.length := ⟨_, rfl⟩
  rw [← hn1] at HLI hm1 ⊢
  have HC := Lib.hid hC
  have HN1 := Lib.hid hn1
  clear hC hn1
  go_enter Tryz.func4, Tryz.ntmps4
  go_wp2_with fail
  refine HLI.out.mono ?_
  rintro e w2 ⟨⟨bo, rfl, hbo⟩, b2⟩
  have HB2 := Lib.hid b2
  clear b2 HLI
  cases bo with
  | false =>
    go_wp2
    go_ret
    exact ⟨rfl, HB2.out⟩
  | true =>
    have HLA := Lib.hid (hbo rfl)
    clear hbo
    have HFR := Lib.hid (fresh04 (B := w2.heap.size) w2 (Nat.le_refl _))
    go_wp2_with fail
    refine HFR.out.mono ?_
    rintro e w3 ⟨g, rfl, q3, b3⟩
    obtain ⟨yc, hyc⟩ : ∃ y, w3.heap.size = y := ⟨_, rfl⟩
    obtain ⟨W4, hW4⟩ : ∃ W, W = w3.alloc (.cells (madeCells #[.string ByteArray.empty] 2000) 9) := ⟨_, rfl⟩
    obtain ⟨yh, hyh⟩ : ∃ y, W4.heap.size = y := ⟨_, rfl⟩
    obtain ⟨W5, hW5⟩ : ∃ W, W = W4.alloc (.cells (madeCells #[.bool false] 2000) 4) := ⟨_, rfl⟩
    have e1 : yh = yc + 1 := by rw [← hyh, hW4, ← hyc]; simp
    have e2 : W5.heap.size = yc + 2 := by rw [hW5]; simp [hyh, e1]
    have b4 : Below w3.heap.size w3 W5 := by rw [hW5, hW4]; exact below_alloc (below_alloc (Below.refl _ _) _) _
    have HT0 : Hid (TimW w2 g yc yh 0 W5 1 (newV 16777216 fun _ => ⟨[], 0, 0⟩) (fun _ => none)) :=
      ⟨((DU.start q3 b3).add (U := fun q => q = yc ∨ q = yh) b4 (fun q hq => by omega)).sub (fun q hq => .inr hq), times_new _ _, by rw [hW5]; exact had_new w3 W4 hyc (by rw [hW4]) hyh, Nat.le_refl _, by decide⟩
    have HNE : Hid (yc ≠ yh) := by show yc ≠ yh; omega
    have kms := mk_strs w3
    have kmb := mk_boolsT W4
    rw [hyc, ← hW4] at kms
    rw [hyh, ← hW5] at kmb
    clear e1 e2 b4 hW5 hW4 hyh hyc q3 b3 HFR
    go_upto_region 8 with (fail)
    clear kms kmb
    go_wp2
    go_loopw [7] (fun i wr => ∃ (j c : Nat) (D : DiskV) (H : Nat → Option (List Int)), j ≤ n1 ∧ i = .int .i64 j ∧ Hid (TimW w2 g yc yh j wr c D H)) (fun i _ => n1 - (intOf i).toNat)
    case atStart => exact ⟨0, 1, _, _, Nat.zero_le _, rfl, HT0⟩
    case round =>
      obtain ⟨j, c, D, H, hj, rfl, HI⟩ := hrel
      by_cases l1 : j < n1
      · have hkl : j < l.length := by rw [← HN1.out]; exact l1
        obtain ⟨a, ha⟩ : ∃ a, l[j]? = some a := ⟨_, List.getElem?_eq_getElem hkl⟩
        obtain ⟨hf, ad, vb, vt, rfl, hq, hb, ht⟩ := HC.out j a ha
        have HWR : Hid (Below w.heap.size w wr) := HB2.out.trans (HI.out.du.wide.mono HB2.out.size)
        have HAB := Lib.hid (hb.below HB2.out)
        have HAT := Lib.hid (ti_blw ht HB2.out)
        have HLE := Lib.hid (HLA.out.each a (List.mem_of_getElem? ha))
        have HF := Lib.hid hf
        obtain ⟨A5, c5, rfl, _, _⟩ := hb.len
        obtain ⟨A6, c6, rfl, _⟩ := ht
        have hq := hq.below HWR.out
        obtain ⟨q0, q1, q2, q3, q4, q5⟩ := hq
        obtain ⟨nb, hnb⟩ : ∃ nb, nb = a.b.length := ⟨_, rfl⟩
        obtain ⟨nt, hnt⟩ : ∃ nt, nt = a.tails.length := ⟨_, rfl⟩
        rw [← hnb] at q4 HAB
        rw [← hnt] at q5 HAT
        have HNB2 := Lib.hid hnb
        have HNT2 := Lib.hid hnt
        have HC2 : Hid (c ≤ 16200) := by
          have h1 := HI.out.c
          have h2 := HLA.out.len
          have h3 := HN1.out
          show _ ≤ _
          omega
        have HSP : Hid (spN D ≤ 82) := by
          have h1 := HI.out.sp
          have h2 := HLA.out.len
          have h3 := HN1.out
          show _ ≤ _
          omega
        clear hf hb ha hkl hnb hnt
        go_upto_region 12 with (fail)
        obtain ⟨k, hk, hke⟩ := what_k a.wh
        rw [hke]
        have HKE := Lib.hid hke
        clear hke
        by_cases g3 : k = 7
        · have e3 : ((k : Int) == 7) = true := by rw [g3]; rfl
          have HAR := Lib.hid (HI.out.du.arm a.n HF.out.n.2)
          clear g3
          go_wp2_with fail
          refine HAR.out.mono ?_
          rintro e w9 ⟨rfl, h9, t9⟩
          obtain ⟨c9, D9, HN⟩ : ∃ c9 D9, Hid (TimW w2 g yc yh (j + 1) w9 c9 D9 H) := ⟨_, _, HI.out.next h9 (HI.out.times.arm a.n) t9 (Nat.le_succ _) (Nat.le_add_right _ _)⟩
          clear h9 t9 HAR
          have HNM := Lib.hid (HN.out.du.names (by have := HN.out.c; have := HLA.out.len; have := HN1.out; omega))
          clear q0 q1 q2 q3 q4 q5
          go_wp2_with fail
          refine HNM.out.mono ?_
          rintro e w10 hp
          obtain ⟨AN, m, cpN, rfl, b10, hmm, hnm, hbl⟩ := names_told HN.out.du.ok hp
          have HI0 : Hid (InW w2 g yc yh w10 c9 D9 H AN m) := InW.start HN.out b10 hnm hbl
          clear b10 hnm hbl hp HNM
          go_upto_region 19 with (fail)
          go_wp2
          go_loopw [10] (fun i wx => ∃ (q : Nat) (H' : Nat → Option (List Int)), q ≤ m ∧ i = .int .i64 q ∧ Hid (InW w2 g yc yh wx c9 D9 H' AN m)) (fun i _ => m - (intOf i).toNat)
          case atStart => exact ⟨0, H, Nat.zero_le _, rfl, HI0⟩
          case round =>
            obtain ⟨q, H', hq, rfl, HX⟩ := hrel
            by_cases l2 : q < m
            · obtain ⟨ad2, s, hA, kc, hdn, hsz, iN, hi⟩ := HX.out.nm.at_ q l2
              subst hA
              have HDN := Lib.hid hdn
              have HSZ := Lib.hid hsz
              have HIL := Lib.hid hi
              have HRD := Lib.hid (HX.out.du.read s hsz)
              clear hdn hsz hi
              go_wp2_with fail
              refine HRD.out.mono ?_
              rintro e w11 hp
              obtain ⟨v11, rfl, o11⟩ := read_some hp HDN.out HIL.out
              obtain ⟨A11, n11, c11, rfl, hn11⟩ := o11.slice
              have HO11 := Lib.hid o11
              have kc2 := pw_cell_below o11.below kc
              have HST := Lib.hid ((HX.out.du.below o11.below).stat s HSZ.out)
              clear hp o11 hn11 HRD kc
              go_wp2_with fail
              refine HST.out.mono ?_
              rintro e w12 hp
              obtain ⟨rfl, b12⟩ := stat_some hp HDN.out HIL.out
              have HF9 := Lib.hid (HX.out.du.ok.file iN (has_dir HIL.out))
              have HHS := Lib.hid (has_dir (D := D9) HIL.out)
              obtain ⟨bb, hbb⟩ : ∃ bb, bb = (D9.fs iN).b := ⟨_, rfl⟩
              obtain ⟨tm, htm⟩ : ∃ tm, tm = (D9.fs iN).time := ⟨_, rfl⟩
              rw [← hbb, ← htm]
              obtain ⟨nl, hnl⟩ : ∃ nl, nl = bb.length := ⟨_, rfl⟩
              rw [← hnl]
              have HBB := Lib.hid hbb
              have HTM := Lib.hid htm
              obtain ⟨z, hz⟩ : ∃ z, w12.heap.size = z := ⟨_, rfl⟩
              obtain ⟨W13, hW13⟩ : ∃ W, W = w12.alloc (.cells #[.int .i64 (nl : Int), .int .i64 (tm : Int)] 36) := ⟨_, rfl⟩
              have hs13 : W13.heap[z]? = some (.cells #[.int .i64 (nl : Int), .int .i64 (tm : Int)] 36 (0, 0)) := by rw [hW13]; exact alloc_at w12 _ hz
              have hb13 : Below w11.heap.size w11 W13 := by rw [hW13]; exact below_alloc b12 _
              have HX13 := Lib.hid (HX.out.below (HO11.out.below.trans (hb13.mono HO11.out.below.size)))
              have HBS : Hid (Bs W13 (.slice A11 n11 c11) bb) := by
                have h := HO11.out.bs.below hb13
                rw [← hbb] at h
                exact h
              have kz := blk_cell hs13 1
              have kz : W13.cell? ⟨z, 1, none⟩ = some (.int .i64 (tm : Int)) := kz
              have ht1 : 1 ≤ tm := by rw [htm]; exact HF9.out.2.2.1
              have d1 : decide ((tm : Int) < 1) = false := decide_eq_false (by omega)
              have d2 : decide (tm < 1) = false := decide_eq_false (by omega)
              have d2' : (tm == 0) = false := by rw [beq_eq_false_iff_ne]; omega
              have HW13 := Lib.hid hW13
              have HS13 := Lib.hid hs13
              have HZ : Hid (z ≠ yc ∧ z ≠ yh) := by
                have h1 := HX.out.du.lt (k := yc) (.inl rfl)
                have h2 := HX.out.du.lt (k := yh) (.inr rfl)
                have h3 := HO11.out.below.size
                have h4 := b12.size
                show _ ∧ _
                omega
              clear hbb htm hnl hW13 hs13 hb13 hp b12 HST kc2
              go_upto_region 24 with (fail)
              rw [← HW13.out]
              clear hz
              by_cases l3 : 2000 ≤ tm
              · have d3 : decide ((2000 : Int) ≤ (tm : Int)) = true := decide_eq_true (by omega)
                have d4 : decide (2000 ≤ tm) = true := decide_eq_true l3
                have HB13 : Hid (Below w.heap.size w W13) := HB2.out.trans (HX13.out.du.wide.mono HB2.out.size)
                clear l3
                go_wp2
                go_ret
                exact ⟨rfl, HB13.out⟩
              have d3 : decide ((2000 : Int) ≤ (tm : Int)) = false := decide_eq_false (by omega)
              have d4 : decide (2000 ≤ tm) = false := decide_eq_false l3
              have l4 : tm < 2000 := by omega
              have l5 : (tm : Int) < 2000 := by omega
              clear l3
              have S1 := Lib.hid (fun m => str_of (HBS.out.drewN m))
              have kh : W13.cell? ⟨yh, tm, none⟩ = some (.bool (H' tm).isSome) := (HX13.out.had.h).cell l4
              have kx : W13.cell? ⟨yc, tm, none⟩ = some (.string (txtH H' tm)) := (HX13.out.had.c).cell l4
              have fh := (HX13.out.had.h).frozen tm
              have fx := (HX13.out.had.c).frozen tm
              have kx2 := ((HX13.out.had.c).setOther (a := ⟨yh, tm, none⟩) HNE.out (.bool true)).cell l4
              have fx2 := ((HX13.out.had.c).setOther (a := ⟨yh, tm, none⟩) HNE.out (.bool true)).frozen tm
              have HSEE := Lib.hid (fun c => HX13.out.times.seen iN c HHS.out)
              have HKF : Hid (∀ W, Kw W13 yh W → W.cell? ⟨z, 1, none⟩ = some (.int .i64 (tm : Int)) ∧ (convert 23 9 (.slice A11 n11 c11)).run Tryz.prog W = .ok (.string (strOfNums bb)) W) := fun W hk =>
                ⟨(World.cell?_of_block (hk z HZ.out.2)).trans kz, str_of (bs_blk HBS.out (fun q hq hl => hk q (fun e => by
                  have h1 := HX.out.du.lt (k := yh) (.inr rfl)
                  have h2 := own_base HO11.out.own q hq
                  omega)))⟩
              have HIX : Hid (InW w2 g yc yh (((W13.drew.drew).setCell ⟨yh, tm, none⟩ (.bool true)).setCell ⟨yc, tm, none⟩ (.string (strOfNums bb))) c9 D9 (fun s => if s = tm then some bb else H' s) (some ad2) m) :=
                (HX13.out.below (Below.drew (Below.drew (Below.refl _ _)))).see HNE.out HHS.out tm bb HTM.out HBB.out
              go_upto_region 28 with (fail)
              cases hH : H' tm with
              | none =>
                replace kh : W13.cell? ⟨yh, tm, none⟩ = some (.bool false) := by rw [kh, hH]; rfl
                clear hH
                go_region
                go_upto_region 30 with (fail)
                refine start_ (n := 12) (S := fun w' => Kw W13 yh w' ∧ w'.cell? ⟨z, 1, none⟩ = some (.int .i64 (tm : Int)) ∧ (convert 23 9 (.slice A11 n11 c11)).run Tryz.prog w' = .ok (.string (strOfNums bb)) w') (ds := [11]) #[false, false, false, false, false, false, false, false, false, false, false, false] (by kernel_rfl) rfl rfl ⟨fun _ _ => rfl, (HKF.out W13.drew.drew (fun _ _ => rfl)).1, (HKF.out W13.drew.drew (fun _ _ => rfl)).2⟩ (fun hHeld => ?_)
                refine pure_ (i := 0) (N := some 129) (v := ?_) (a' := ?_) #[true, false, false, false, false, false, false, false, false, false, false, false] rfl rfl (by kernel_rfl) (fun _ _ _ h => h) (Or.inl ⟨by rfl, ?_⟩) ?_ ?_
                rotate_left
                · intro w'
                  go_simp
                  with_reducible rfl
                rotate_left
                · simp only [Act.put, List.setIfInBounds_toArray, List.set_cons_zero, List.set_cons_succ, i64_w, i32_w]
                  rfl
                refine pure_ (i := 1) (N := some 130) (v := ?_) (a' := ?_) #[true, true, false, false, false, false, false, false, false, false, false, false] rfl rfl (by kernel_rfl) (fun _ _ _ h => h) (Or.inl ⟨by rfl, ?_⟩) ?_ ?_
                rotate_left
                · intro w'
                  go_simp
                  with_reducible rfl
                rotate_left
                · simp only [Act.put, List.setIfInBounds_toArray, List.set_cons_zero, List.set_cons_succ, i64_w, i32_w]
                  rfl
                refine pure_ (i := 3) (N := some 132) (v := ?_) (a' := ?_) #[true, true, false, true, false, false, false, false, false, false, false, false] rfl rfl (by kernel_rfl) (fun _ _ _ h => h) (Or.inl ⟨by rfl, ?_⟩) ?_ ?_
                rotate_left
                · intro w'
                  go_simp
                  with_reducible rfl
                rotate_left
                · simp only [Act.put, List.setIfInBounds_toArray, List.set_cons_zero, List.set_cons_succ, i64_w, i32_w]
                  rfl
                refine pure_ (i := 4) (N := some 133) (v := ?_) (a' := ?_) #[true, true, false, true, true, false, false, false, false, false, false, false] rfl rfl (by kernel_rfl) (fun _ _ _ h => h) (Or.inl ⟨by rfl, ?_⟩) ?_ ?_
                rotate_left
                · intro w'
                  go_simp
                  with_reducible rfl
                rotate_left
                · simp only [Act.put, List.setIfInBounds_toArray, List.set_cons_zero, List.set_cons_succ, i64_w, i32_w]
                  rfl
                refine pure_ (i := 6) (N := some 135) (v := ?_) (a' := ?_) #[true, true, false, true, true, false, true, false, false, false, false, false] rfl rfl (by kernel_rfl) (fun _ _ _ h => h) (Or.inl ⟨by rfl, ?_⟩) ?_ ?_
                rotate_left
                · intro w'
                  go_simp
                  with_reducible rfl
                rotate_left
                · simp only [Act.put, List.setIfInBounds_toArray, List.set_cons_zero, List.set_cons_succ, i64_w, i32_w]
                  rfl
                refine take_ (i := 2) (N := some 131) (v := ?_) (a' := ?_) #[true, true, true, true, true, false, true, false, false, false, false, false] rfl rfl (by kernel_rfl) (fun _ _ _ h => h) (Or.inl ⟨by rfl, ?_⟩) hHeld ?_ ?_
                rotate_left
                · rintro w' ⟨s0, s1, s2⟩
                  go_simp
                  with_reducible rfl
                rotate_left
                · simp only [Act.put, List.setIfInBounds_toArray, List.set_cons_zero, List.set_cons_succ, i64_w, i32_w]
                  rfl
                refine take_ (i := 5) (N := some 134) (v := ?_) (a' := ?_) #[true, true, true, true, true, true, true, false, false, false, false, false] rfl rfl (by kernel_rfl) (fun _ _ _ h => h) (Or.inl ⟨by rfl, ?_⟩) hHeld ?_ ?_
                rotate_left
                · rintro w' ⟨s0, s1, s2⟩
                  go_simp
                  with_reducible rfl
                rotate_left
                · simp only [Act.put, List.setIfInBounds_toArray, List.set_cons_zero, List.set_cons_succ, i64_w, i32_w]
                  rfl
                refine take_ (i := 7) (N := some 136) (v := ?_) (a' := ?_) #[true, true, true, true, true, true, true, true, false, false, false, false] rfl rfl (by kernel_rfl) (fun _ _ _ h => h) (Or.inl ⟨by rfl, ?_⟩) hHeld ?_ ?_
                rotate_left
                · rintro w' ⟨s0, s1, s2⟩
                  go_simp
                  with_reducible rfl
                rotate_left
                · simp only [Act.put, List.setIfInBounds_toArray, List.set_cons_zero, List.set_cons_succ, i64_w, i32_w]
                  rfl
                refine pure_ (i := 8) (N := some 137) (v := ?_) (a' := ?_) #[true, true, true, true, true, true, true, true, true, false, false, false] rfl rfl (by kernel_rfl) (fun _ _ _ h => h) (Or.inl ⟨by rfl, ?_⟩) ?_ ?_
                rotate_left
                · intro w'
                  go_simp
                  with_reducible rfl
                rotate_left
                · simp only [Act.put, List.setIfInBounds_toArray, List.set_cons_zero, List.set_cons_succ, i64_w, i32_w]
                  rfl
                refine one_ (i := 9) (N := none) #[true, true, true, true, true, true, true, true, true, true, false, false] rfl rfl (by kernel_rfl) (by decide) (fun K hK => ?_)
                refine skip_ (w1 := ?_) (by rfl) rfl ?_ ?_
                rotate_left
                · go_simp
                  rfl
                refine hK.out _ _ ⟨Kw.set hHeld.1 tm (.bool true), (HKF.out (W13.drew.drew.setCell ⟨yh, tm, none⟩ (.bool true)) (Kw.set hHeld.1 tm (.bool true))).1, (HKF.out (W13.drew.drew.setCell ⟨yh, tm, none⟩ (.bool true)) (Kw.set hHeld.1 tm (.bool true))).2⟩ (fun hHeld => ?_)
                clear hK K
                refine pure_ (i := 10) (N := some 138) (v := ?_) (a' := ?_) #[true, true, true, true, true, true, true, true, true, true, true, false] rfl rfl (by kernel_rfl) (fun _ _ _ h => h) (Or.inl ⟨by rfl, ?_⟩) ?_ ?_
                rotate_left
                · intro w'
                  go_simp
                  with_reducible rfl
                rotate_left
                · simp only [Act.put, List.setIfInBounds_toArray, List.set_cons_zero, List.set_cons_succ, i64_w, i32_w]
                  rfl
                refine last_ (i := 11) (N := none) #[true, true, true, true, true, true, true, true, true, true, true, true] rfl rfl (by kernel_rfl) (by decide) (fun K hK => ?_)
                refine skip_ (w1 := ?_) (by rfl) rfl ?_ ?_
                rotate_left
                · go_simp
                  rfl
                refine hK.out _ _ ?_
                clear hK K
                refine done_ (by kernel_rfl) ?_
                go_wp2
                go_roundw
                case rel => exact ⟨q + 1, _, by omega, by go_num, HIX⟩
                case measure => simp [intOf]; omega
              | some cc =>
                obtain rfl : cc = bb := by rw [HBB.out]; exact HSEE.out cc (by rw [← HTM.out]; exact hH)
                replace kh : W13.cell? ⟨yh, tm, none⟩ = some (.bool true) := by rw [kh, hH]; rfl
                replace kx : W13.cell? ⟨yc, tm, none⟩ = some (.string (strOfNums cc)) := by rw [kx]; unfold txtH; rw [hH]
                have S1b := (HKF.out W13.drew (fun _ _ => rfl)).2
                have s3 : ((strOfNums cc).toList != (strOfNums cc).toList) = false := by simp
                clear hH
                go_region
                clear S1b
                go_upto_region 30 with (fail)
                refine start_ (n := 12) (S := fun w' => Kw W13 yh w' ∧ w'.cell? ⟨z, 1, none⟩ = some (.int .i64 (tm : Int)) ∧ (convert 23 9 (.slice A11 n11 c11)).run Tryz.prog w' = .ok (.string (strOfNums cc)) w') (ds := [11]) #[false, false, false, false, false, false, false, false, false, false, false, false] (by kernel_rfl) rfl rfl ⟨fun _ _ => rfl, (HKF.out W13.drew.drew (fun _ _ => rfl)).1, (HKF.out W13.drew.drew (fun _ _ => rfl)).2⟩ (fun hHeld => ?_)
                refine pure_ (i := 0) (N := some 129) (v := ?_) (a' := ?_) #[true, false, false, false, false, false, false, false, false, false, false, false] rfl rfl (by kernel_rfl) (fun _ _ _ h => h) (Or.inl ⟨by rfl, ?_⟩) ?_ ?_
                rotate_left
                · intro w'
                  go_simp
                  with_reducible rfl
                rotate_left
                · simp only [Act.put, List.setIfInBounds_toArray, List.set_cons_zero, List.set_cons_succ, i64_w, i32_w]
                  rfl
                refine pure_ (i := 1) (N := some 130) (v := ?_) (a' := ?_) #[true, true, false, false, false, false, false, false, false, false, false, false] rfl rfl (by kernel_rfl) (fun _ _ _ h => h) (Or.inl ⟨by rfl, ?_⟩) ?_ ?_
                rotate_left
                · intro w'
                  go_simp
                  with_reducible rfl
                rotate_left
                · simp only [Act.put, List.setIfInBounds_toArray, List.set_cons_zero, List.set_cons_succ, i64_w, i32_w]
                  rfl
                refine pure_ (i := 3) (N := some 132) (v := ?_) (a' := ?_) #[true, true, false, true, false, false, false, false, false, false, false, false] rfl rfl (by kernel_rfl) (fun _ _ _ h => h) (Or.inl ⟨by rfl, ?_⟩) ?_ ?_
                rotate_left
                · intro w'
                  go_simp
                  with_reducible rfl
                rotate_left
                · simp only [Act.put, List.setIfInBounds_toArray, List.set_cons_zero, List.set_cons_succ, i64_w, i32_w]
                  rfl
                refine pure_ (i := 4) (N := some 133) (v := ?_) (a' := ?_) #[true, true, false, true, true, false, false, false, false, false, false, false] rfl rfl (by kernel_rfl) (fun _ _ _ h => h) (Or.inl ⟨by rfl, ?_⟩) ?_ ?_
                rotate_left
                · intro w'
                  go_simp
                  with_reducible rfl
                rotate_left
                · simp only [Act.put, List.setIfInBounds_toArray, List.set_cons_zero, List.set_cons_succ, i64_w, i32_w]
                  rfl
                refine pure_ (i := 6) (N := some 135) (v := ?_) (a' := ?_) #[true, true, false, true, true, false, true, false, false, false, false, false] rfl rfl (by kernel_rfl) (fun _ _ _ h => h) (Or.inl ⟨by rfl, ?_⟩) ?_ ?_
                rotate_left
                · intro w'
                  go_simp
                  with_reducible rfl
                rotate_left
                · simp only [Act.put, List.setIfInBounds_toArray, List.set_cons_zero, List.set_cons_succ, i64_w, i32_w]
                  rfl
                refine take_ (i := 2) (N := some 131) (v := ?_) (a' := ?_) #[true, true, true, true, true, false, true, false, false, false, false, false] rfl rfl (by kernel_rfl) (fun _ _ _ h => h) (Or.inl ⟨by rfl, ?_⟩) hHeld ?_ ?_
                rotate_left
                · rintro w' ⟨s0, s1, s2⟩
                  go_simp
                  with_reducible rfl
                rotate_left
                · simp only [Act.put, List.setIfInBounds_toArray, List.set_cons_zero, List.set_cons_succ, i64_w, i32_w]
                  rfl
                refine take_ (i := 5) (N := some 134) (v := ?_) (a' := ?_) #[true, true, true, true, true, true, true, false, false, false, false, false] rfl rfl (by kernel_rfl) (fun _ _ _ h => h) (Or.inl ⟨by rfl, ?_⟩) hHeld ?_ ?_
                rotate_left
                · rintro w' ⟨s0, s1, s2⟩
                  go_simp
                  with_reducible rfl
                rotate_left
                · simp only [Act.put, List.setIfInBounds_toArray, List.set_cons_zero, List.set_cons_succ, i64_w, i32_w]
                  rfl
                refine take_ (i := 7) (N := some 136) (v := ?_) (a' := ?_) #[true, true, true, true, true, true, true, true, false, false, false, false] rfl rfl (by kernel_rfl) (fun _ _ _ h => h) (Or.inl ⟨by rfl, ?_⟩) hHeld ?_ ?_
                rotate_left
                · rintro w' ⟨s0, s1, s2⟩
                  go_simp
                  with_reducible rfl
                rotate_left
                · simp only [Act.put, List.setIfInBounds_toArray, List.set_cons_zero, List.set_cons_succ, i64_w, i32_w]
                  rfl
                refine pure_ (i := 8) (N := some 137) (v := ?_) (a' := ?_) #[true, true, true, true, true, true, true, true, true, false, false, false] rfl rfl (by kernel_rfl) (fun _ _ _ h => h) (Or.inl ⟨by rfl, ?_⟩) ?_ ?_
                rotate_left
                · intro w'
                  go_simp
                  with_reducible rfl
                rotate_left
                · simp only [Act.put, List.setIfInBounds_toArray, List.set_cons_zero, List.set_cons_succ, i64_w, i32_w]
                  rfl
                refine one_ (i := 9) (N := none) #[true, true, true, true, true, true, true, true, true, true, false, false] rfl rfl (by kernel_rfl) (by decide) (fun K hK => ?_)
                refine skip_ (w1 := ?_) (by rfl) rfl ?_ ?_
                rotate_left
                · go_simp
                  rfl
                refine hK.out _ _ ⟨Kw.set hHeld.1 tm (.bool true), (HKF.out (W13.drew.drew.setCell ⟨yh, tm, none⟩ (.bool true)) (Kw.set hHeld.1 tm (.bool true))).1, (HKF.out (W13.drew.drew.setCell ⟨yh, tm, none⟩ (.bool true)) (Kw.set hHeld.1 tm (.bool true))).2⟩ (fun hHeld => ?_)
                clear hK K
                refine pure_ (i := 10) (N := some 138) (v := ?_) (a' := ?_) #[true, true, true, true, true, true, true, true, true, true, true, false] rfl rfl (by kernel_rfl) (fun _ _ _ h => h) (Or.inl ⟨by rfl, ?_⟩) ?_ ?_
                rotate_left
                · intro w'
                  go_simp
                  with_reducible rfl
                rotate_left
                · simp only [Act.put, List.setIfInBounds_toArray, List.set_cons_zero, List.set_cons_succ, i64_w, i32_w]
                  rfl
                refine last_ (i := 11) (N := none) #[true, true, true, true, true, true, true, true, true, true, true, true] rfl rfl (by kernel_rfl) (by decide) (fun K hK => ?_)
                refine skip_ (w1 := ?_) (by rfl) rfl ?_ ?_
                rotate_left
                · go_simp
                  rfl
                refine hK.out _ _ ?_
                clear hK K
                refine done_ (by kernel_rfl) ?_
                go_wp2
                go_roundw
                case rel => exact ⟨q + 1, _, by omega, by go_num, HIX⟩
                case measure => simp [intOf]; omega
            · --S2
              obtain rfl : q = m := by omega
              have HN10 := Lib.hid (HX.out.back HN.out)
              go_wp2
              go_roundw
              case rel => exact ⟨j + 1, c9, D9, H', by omega, by go_num, HN10⟩
              case measure => simp [intOf]; omega
        have e3 : ((k : Int) == 7) = false := by rw [beq_eq_false_iff_ne]; omega
        by_cases g4 : k = 8
        · have e4 : ((k : Int) == 8) = true := by rw [g4]; rfl
          have HRS : Hid (∀ W, Below wr.heap.size wr W → Calls Tryz.prog 16 #[.pointer (some ⟨g, 0, none⟩), .agg #[.int .i64 a.n, .slice A6 nt c6]] W fun e w' => e = .returned (.tuple #[]) ∧ DU w2 (fun q => q = yc ∨ q = yh) (c + 82 + 1) w' g (restartV D a.n a.tails) ∧ Kpt (fun q => q = yc ∨ q = yh) wr w') := fun W hb => by
            have h := HI.out.du.below hb
            have h1 := HNT2.out
            have h2 := HLE.out
            have h3 := HC2.out
            exact (h.restart 82 a.n _ a.tails HSP.out (ti_blw HAT.out h.wide) (fun hl q hq => .inl (ti_old HAT.out hl hq)) HF.out.n (by omega) (by omega)).mono fun e w' ⟨a1, a2, a3⟩ => ⟨a1, a2, (HI.out.du.kpt hb).trans a3⟩
          clear g3 g4
          go_upto_region 17 with (fail)
          refine start_ (n := 13) (S := fun w' => Below wr.heap.size wr w' ∧ w'.cell? ⟨(ad.add (j * 6)).block, (ad.add (j * 6)).off + 1, none⟩ = some (.int .i64 a.n) ∧ w'.cell? ⟨(ad.add (j * 6)).block, (ad.add (j * 6)).off + 5, none⟩ = some (.slice A6 nt c6)) (ds := [12]) #[false, false, false, false, false, false, false, false, false, false, false, false, false] (by kernel_rfl) rfl rfl ⟨Below.drew (Below.refl _ _), q1, q5⟩ (fun hHeld => ?_)
          refine pure_ (i := 0) (N := some 59) (v := ?_) (a' := ?_) #[true, false, false, false, false, false, false, false, false, false, false, false, false] rfl rfl (by kernel_rfl) (fun _ _ _ h => h) (Or.inl ⟨by rfl, ?_⟩) ?_ ?_
          rotate_left
          · intro w'
            go_simp
            with_reducible rfl
          rotate_left
          · simp only [Act.put, List.setIfInBounds_toArray, List.set_cons_zero, List.set_cons_succ, i64_w, i32_w]
            rfl
          refine pure_ (i := 1) (N := some 60) (v := ?_) (a' := ?_) #[true, true, false, false, false, false, false, false, false, false, false, false, false] rfl rfl (by kernel_rfl) (fun _ _ _ h => h) (Or.inl ⟨by rfl, ?_⟩) ?_ ?_
          rotate_left
          · intro w'
            go_simp
            with_reducible rfl
          rotate_left
          · simp only [Act.put, List.setIfInBounds_toArray, List.set_cons_zero, List.set_cons_succ, i64_w, i32_w]
            rfl
          refine pure_ (i := 2) (N := some 61) (v := ?_) (a' := ?_) #[true, true, true, false, false, false, false, false, false, false, false, false, false] rfl rfl (by kernel_rfl) (fun _ _ _ h => h) (Or.inl ⟨by rfl, ?_⟩) ?_ ?_
          rotate_left
          · intro w'
            go_simp
            with_reducible rfl
          rotate_left
          · simp only [Act.put, List.setIfInBounds_toArray, List.set_cons_zero, List.set_cons_succ, i64_w, i32_w]
            rfl
          refine pure_ (i := 3) (N := some 62) (v := ?_) (a' := ?_) #[true, true, true, true, false, false, false, false, false, false, false, false, false] rfl rfl (by kernel_rfl) (fun _ _ _ h => h) (Or.inl ⟨by rfl, ?_⟩) ?_ ?_
          rotate_left
          · intro w'
            go_simp
            with_reducible rfl
          rotate_left
          · simp only [Act.put, List.setIfInBounds_toArray, List.set_cons_zero, List.set_cons_succ, i64_w, i32_w]
            rfl
          refine pure_ (i := 4) (N := some 63) (v := ?_) (a' := ?_) #[true, true, true, true, true, false, false, false, false, false, false, false, false] rfl rfl (by kernel_rfl) (fun _ _ _ h => h) (Or.inl ⟨by rfl, ?_⟩) ?_ ?_
          rotate_left
          · intro w'
            go_simp
            with_reducible rfl
          rotate_left
          · simp only [Act.put, List.setIfInBounds_toArray, List.set_cons_zero, List.set_cons_succ, i64_w, i32_w]
            rfl
          refine pure_ (i := 6) (N := some 65) (v := ?_) (a' := ?_) #[true, true, true, true, true, false, true, false, false, false, false, false, false] rfl rfl (by kernel_rfl) (fun _ _ _ h => h) (Or.inl ⟨by rfl, ?_⟩) ?_ ?_
          rotate_left
          · intro w'
            go_simp
            with_reducible rfl
          rotate_left
          · simp only [Act.put, List.setIfInBounds_toArray, List.set_cons_zero, List.set_cons_succ, i64_w, i32_w]
            rfl
          refine pure_ (i := 7) (N := some 66) (v := ?_) (a' := ?_) #[true, true, true, true, true, false, true, true, false, false, false, false, false] rfl rfl (by kernel_rfl) (fun _ _ _ h => h) (Or.inl ⟨by rfl, ?_⟩) ?_ ?_
          rotate_left
          · intro w'
            go_simp
            with_reducible rfl
          rotate_left
          · simp only [Act.put, List.setIfInBounds_toArray, List.set_cons_zero, List.set_cons_succ, i64_w, i32_w]
            rfl
          refine pure_ (i := 8) (N := some 67) (v := ?_) (a' := ?_) #[true, true, true, true, true, false, true, true, true, false, false, false, false] rfl rfl (by kernel_rfl) (fun _ _ _ h => h) (Or.inl ⟨by rfl, ?_⟩) ?_ ?_
          rotate_left
          · intro w'
            go_simp
            with_reducible rfl
          rotate_left
          · simp only [Act.put, List.setIfInBounds_toArray, List.set_cons_zero, List.set_cons_succ, i64_w, i32_w]
            rfl
          refine pure_ (i := 9) (N := some 68) (v := ?_) (a' := ?_) #[true, true, true, true, true, false, true, true, true, true, false, false, false] rfl rfl (by kernel_rfl) (fun _ _ _ h => h) (Or.inl ⟨by rfl, ?_⟩) ?_ ?_
          rotate_left
          · intro w'
            go_simp
            with_reducible rfl
          rotate_left
          · simp only [Act.put, List.setIfInBounds_toArray, List.set_cons_zero, List.set_cons_succ, i64_w, i32_w]
            rfl
          refine take_ (i := 5) (N := some 64) (v := ?_) (a' := ?_) #[true, true, true, true, true, true, true, true, true, true, false, false, false] rfl rfl (by kernel_rfl) (fun _ _ _ h => h) (Or.inl ⟨by rfl, ?_⟩) hHeld ?_ ?_
          rotate_left
          · rintro w' ⟨s0, s1, s2⟩
            go_simp
            with_reducible rfl
          rotate_left
          · simp only [Act.put, List.setIfInBounds_toArray, List.set_cons_zero, List.set_cons_succ, i64_w, i32_w]
            rfl
          refine take_ (i := 10) (N := some 69) (v := ?_) (a' := ?_) #[true, true, true, true, true, true, true, true, true, true, true, false, false] rfl rfl (by kernel_rfl) (fun _ _ _ h => h) (Or.inl ⟨by rfl, ?_⟩) hHeld ?_ ?_
          rotate_left
          · rintro w' ⟨s0, s1, s2⟩
            go_simp
            with_reducible rfl
          rotate_left
          · simp only [Act.put, List.setIfInBounds_toArray, List.set_cons_zero, List.set_cons_succ, i64_w, i32_w]
            rfl
          refine pure_ (i := 11) (N := some 70) (v := ?_) (a' := ?_) #[true, true, true, true, true, true, true, true, true, true, true, true, false] rfl rfl (by kernel_rfl) (fun _ _ _ h => h) (Or.inl ⟨by rfl, ?_⟩) ?_ ?_
          rotate_left
          · intro w'
            go_simp
            with_reducible rfl
          rotate_left
          · simp only [Act.put, List.setIfInBounds_toArray, List.set_cons_zero, List.set_cons_succ, i64_w, i32_w]
            rfl
          refine last_ (i := 12) (N := some 71) #[true, true, true, true, true, true, true, true, true, true, true, true, true] rfl rfl (by kernel_rfl) (by decide) (fun K hK => ?_)
          refine goes_ Tryz.func16 (by kernel_rfl) rfl #[.pointer (some ⟨g, 0, none⟩), .agg #[.int .i64 a.n, .slice A6 nt c6]] (by rfl) rfl rfl (by first | (simp only [List.map_toArray, List.map_cons, List.map_nil]; done) | (simp only [List.map_toArray, List.map_cons, List.map_nil]; rfl) | rfl) ?_
          with_reducible refine (HRS.out _ hHeld.1).mono ?_
          rintro e w9 ⟨rfl, h9, t9⟩
          have H9 := Lib.hid h9
          have HT9 := Lib.hid t9
          clear h9 t9
          refine ⟨_, rfl, ?_⟩
          refine hK.out _ _ ?_
          clear hK K
          refine norm_ (a' := ?_) ?_ ?_
          rotate_left
          · show Act.put _ (some 71) _ = _
            simp only [Act.put, List.setIfInBounds_toArray, List.set_cons_zero, List.set_cons_succ, i64_w, i32_w]
            rfl
          refine done_ (by kernel_rfl) ?_
          obtain ⟨c9, D9, HN⟩ : ∃ c9 D9, Hid (TimW w2 g yc yh (j + 1) w9 c9 D9 H) := ⟨_, _, HI.out.next H9.out (HI.out.times.restart a.n a.tails) HT9.out (by have := sp_restart HI.out.du.ok a.n a.tails; omega) (by omega)⟩
          clear H9 HT9 HRS
          have HNM := Lib.hid (HN.out.du.names (by have := HN.out.c; have := HLA.out.len; have := HN1.out; omega))
          clear q0 q1 q2 q3 q4 q5
          go_wp2_with fail
          refine HNM.out.mono ?_
          rintro e w10 hp
          obtain ⟨AN, m, cpN, rfl, b10, hmm, hnm, hbl⟩ := names_told HN.out.du.ok hp
          have HI0 : Hid (InW w2 g yc yh w10 c9 D9 H AN m) := InW.start HN.out b10 hnm hbl
          clear b10 hnm hbl hp HNM
          go_upto_region 19 with (fail)
          go_wp2
          go_loopw [10] (fun i wx => ∃ (q : Nat) (H' : Nat → Option (List Int)), q ≤ m ∧ i = .int .i64 q ∧ Hid (InW w2 g yc yh wx c9 D9 H' AN m)) (fun i _ => m - (intOf i).toNat)
          case atStart => exact ⟨0, H, Nat.zero_le _, rfl, HI0⟩
          case round =>
            obtain ⟨q, H', hq, rfl, HX⟩ := hrel
            by_cases l2 : q < m
            · obtain ⟨ad2, s, hA, kc, hdn, hsz, iN, hi⟩ := HX.out.nm.at_ q l2
              subst hA
              have HDN := Lib.hid hdn
              have HSZ := Lib.hid hsz
              have HIL := Lib.hid hi
              have HRD := Lib.hid (HX.out.du.read s hsz)
              clear hdn hsz hi
              go_wp2_with fail
              refine HRD.out.mono ?_
              rintro e w11 hp
              obtain ⟨v11, rfl, o11⟩ := read_some hp HDN.out HIL.out
              obtain ⟨A11, n11, c11, rfl, hn11⟩ := o11.slice
              have HO11 := Lib.hid o11
              have kc2 := pw_cell_below o11.below kc
              have HST := Lib.hid ((HX.out.du.below o11.below).stat s HSZ.out)
              clear hp o11 hn11 HRD kc
              go_wp2_with fail
              refine HST.out.mono ?_
              rintro e w12 hp
              obtain ⟨rfl, b12⟩ := stat_some hp HDN.out HIL.out
              have HF9 := Lib.hid (HX.out.du.ok.file iN (has_dir HIL.out))
              have HHS := Lib.hid (has_dir (D := D9) HIL.out)
              obtain ⟨bb, hbb⟩ : ∃ bb, bb = (D9.fs iN).b := ⟨_, rfl⟩
              obtain ⟨tm, htm⟩ : ∃ tm, tm = (D9.fs iN).time := ⟨_, rfl⟩
              rw [← hbb, ← htm]
              obtain ⟨nl, hnl⟩ : ∃ nl, nl = bb.length := ⟨_, rfl⟩
              rw [← hnl]
              have HBB := Lib.hid hbb
              have HTM := Lib.hid htm
              obtain ⟨z, hz⟩ : ∃ z, w12.heap.size = z := ⟨_, rfl⟩
              obtain ⟨W13, hW13⟩ : ∃ W, W = w12.alloc (.cells #[.int .i64 (nl : Int), .int .i64 (tm : Int)] 36) := ⟨_, rfl⟩
              have hs13 : W13.heap[z]? = some (.cells #[.int .i64 (nl : Int), .int .i64 (tm : Int)] 36 (0, 0)) := by rw [hW13]; exact alloc_at w12 _ hz
              have hb13 : Below w11.heap.size w11 W13 := by rw [hW13]; exact below_alloc b12 _
              have HX13 := Lib.hid (HX.out.below (HO11.out.below.trans (hb13.mono HO11.out.below.size)))
              have HBS : Hid (Bs W13 (.slice A11 n11 c11) bb) := by
                have h := HO11.out.bs.below hb13
                rw [← hbb] at h
                exact h
              have kz := blk_cell hs13 1
              have kz : W13.cell? ⟨z, 1, none⟩ = some (.int .i64 (tm : Int)) := kz
              have ht1 : 1 ≤ tm := by rw [htm]; exact HF9.out.2.2.1
              have d1 : decide ((tm : Int) < 1) = false := decide_eq_false (by omega)
              have d2 : decide (tm < 1) = false := decide_eq_false (by omega)
              have d2' : (tm == 0) = false := by rw [beq_eq_false_iff_ne]; omega
              have HW13 := Lib.hid hW13
              have HS13 := Lib.hid hs13
              have HZ : Hid (z ≠ yc ∧ z ≠ yh) := by
                have h1 := HX.out.du.lt (k := yc) (.inl rfl)
                have h2 := HX.out.du.lt (k := yh) (.inr rfl)
                have h3 := HO11.out.below.size
                have h4 := b12.size
                show _ ∧ _
                omega
              clear hbb htm hnl hW13 hs13 hb13 hp b12 HST kc2
              go_upto_region 24 with (fail)
              rw [← HW13.out]
              clear hz
              by_cases l3 : 2000 ≤ tm
              · have d3 : decide ((2000 : Int) ≤ (tm : Int)) = true := decide_eq_true (by omega)
                have d4 : decide (2000 ≤ tm) = true := decide_eq_true l3
                have HB13 : Hid (Below w.heap.size w W13) := HB2.out.trans (HX13.out.du.wide.mono HB2.out.size)
                clear l3
                go_wp2
                go_ret
                exact ⟨rfl, HB13.out⟩
              have d3 : decide ((2000 : Int) ≤ (tm : Int)) = false := decide_eq_false (by omega)
              have d4 : decide (2000 ≤ tm) = false := decide_eq_false l3
              have l4 : tm < 2000 := by omega
              have l5 : (tm : Int) < 2000 := by omega
              clear l3
              have S1 := Lib.hid (fun m => str_of (HBS.out.drewN m))
              have kh : W13.cell? ⟨yh, tm, none⟩ = some (.bool (H' tm).isSome) := (HX13.out.had.h).cell l4
              have kx : W13.cell? ⟨yc, tm, none⟩ = some (.string (txtH H' tm)) := (HX13.out.had.c).cell l4
              have fh := (HX13.out.had.h).frozen tm
              have fx := (HX13.out.had.c).frozen tm
              have kx2 := ((HX13.out.had.c).setOther (a := ⟨yh, tm, none⟩) HNE.out (.bool true)).cell l4
              have fx2 := ((HX13.out.had.c).setOther (a := ⟨yh, tm, none⟩) HNE.out (.bool true)).frozen tm
              have HSEE := Lib.hid (fun c => HX13.out.times.seen iN c HHS.out)
              have HKF : Hid (∀ W, Kw W13 yh W → W.cell? ⟨z, 1, none⟩ = some (.int .i64 (tm : Int)) ∧ (convert 23 9 (.slice A11 n11 c11)).run Tryz.prog W = .ok (.string (strOfNums bb)) W) := fun W hk =>
                ⟨(World.cell?_of_block (hk z HZ.out.2)).trans kz, str_of (bs_blk HBS.out (fun q hq hl => hk q (fun e => by
                  have h1 := HX.out.du.lt (k := yh) (.inr rfl)
                  have h2 := own_base HO11.out.own q hq
                  omega)))⟩
              have HIX : Hid (InW w2 g yc yh (((W13.drew.drew).setCell ⟨yh, tm, none⟩ (.bool true)).setCell ⟨yc, tm, none⟩ (.string (strOfNums bb))) c9 D9 (fun s => if s = tm then some bb else H' s) (some ad2) m) :=
                (HX13.out.below (Below.drew (Below.drew (Below.refl _ _)))).see HNE.out HHS.out tm bb HTM.out HBB.out
              go_upto_region 28 with (fail)
              cases hH : H' tm with
              | none =>
                replace kh : W13.cell? ⟨yh, tm, none⟩ = some (.bool false) := by rw [kh, hH]; rfl
                clear hH
                go_region
                go_upto_region 30 with (fail)
                refine start_ (n := 12) (S := fun w' => Kw W13 yh w' ∧ w'.cell? ⟨z, 1, none⟩ = some (.int .i64 (tm : Int)) ∧ (convert 23 9 (.slice A11 n11 c11)).run Tryz.prog w' = .ok (.string (strOfNums bb)) w') (ds := [11]) #[false, false, false, false, false, false, false, false, false, false, false, false] (by kernel_rfl) rfl rfl ⟨fun _ _ => rfl, (HKF.out W13.drew.drew (fun _ _ => rfl)).1, (HKF.out W13.drew.drew (fun _ _ => rfl)).2⟩ (fun hHeld => ?_)
                refine pure_ (i := 0) (N := some 129) (v := ?_) (a' := ?_) #[true, false, false, false, false, false, false, false, false, false, false, false] rfl rfl (by kernel_rfl) (fun _ _ _ h => h) (Or.inl ⟨by rfl, ?_⟩) ?_ ?_
                rotate_left
                · intro w'
                  go_simp
                  with_reducible rfl
                rotate_left
                · simp only [Act.put, List.setIfInBounds_toArray, List.set_cons_zero, List.set_cons_succ, i64_w, i32_w]
                  rfl
                refine pure_ (i := 1) (N := some 130) (v := ?_) (a' := ?_) #[true, true, false, false, false, false, false, false, false, false, false, false] rfl rfl (by kernel_rfl) (fun _ _ _ h => h) (Or.inl ⟨by rfl, ?_⟩) ?_ ?_
                rotate_left
                · intro w'
                  go_simp
                  with_reducible rfl
                rotate_left
                · simp only [Act.put, List.setIfInBounds_toArray, List.set_cons_zero, List.set_cons_succ, i64_w, i32_w]
                  rfl
                refine pure_ (i := 3) (N := some 132) (v := ?_) (a' := ?_) #[true, true, false, true, false, false, false, false, false, false, false, false] rfl rfl (by kernel_rfl) (fun _ _ _ h => h) (Or.inl ⟨by rfl, ?_⟩) ?_ ?_
                rotate_left
                · intro w'
                  go_simp
                  with_reducible rfl
                rotate_left
                · simp only [Act.put, List.setIfInBounds_toArray, List.set_cons_zero, List.set_cons_succ, i64_w, i32_w]
                  rfl
                refine pure_ (i := 4) (N := some 133) (v := ?_) (a' := ?_) #[true, true, false, true, true, false, false, false, false, false, false, false] rfl rfl (by kernel_rfl) (fun _ _ _ h => h) (Or.inl ⟨by rfl, ?_⟩) ?_ ?_
                rotate_left
                · intro w'
                  go_simp
                  with_reducible rfl
                rotate_left
                · simp only [Act.put, List.setIfInBounds_toArray, List.set_cons_zero, List.set_cons_succ, i64_w, i32_w]
                  rfl
                refine pure_ (i := 6) (N := some 135) (v := ?_) (a' := ?_) #[true, true, false, true, true, false, true, false, false, false, false, false] rfl rfl (by kernel_rfl) (fun _ _ _ h => h) (Or.inl ⟨by rfl, ?_⟩) ?_ ?_
                rotate_left
                · intro w'
                  go_simp
                  with_reducible rfl
                rotate_left
                · simp only [Act.put, List.setIfInBounds_toArray, List.set_cons_zero, List.set_cons_succ, i64_w, i32_w]
                  rfl
                refine take_ (i := 2) (N := some 131) (v := ?_) (a' := ?_) #[true, true, true, true, true, false, true, false, false, false, false, false] rfl rfl (by kernel_rfl) (fun _ _ _ h => h) (Or.inl ⟨by rfl, ?_⟩) hHeld ?_ ?_
                rotate_left
                · rintro w' ⟨s0, s1, s2⟩
                  go_simp
                  with_reducible rfl
                rotate_left
                · simp only [Act.put, List.setIfInBounds_toArray, List.set_cons_zero, List.set_cons_succ, i64_w, i32_w]
                  rfl
                refine take_ (i := 5) (N := some 134) (v := ?_) (a' := ?_) #[true, true, true, true, true, true, true, false, false, false, false, false] rfl rfl (by kernel_rfl) (fun _ _ _ h => h) (Or.inl ⟨by rfl, ?_⟩) hHeld ?_ ?_
                rotate_left
                · rintro w' ⟨s0, s1, s2⟩
                  go_simp
                  with_reducible rfl
                rotate_left
                · simp only [Act.put, List.setIfInBounds_toArray, List.set_cons_zero, List.set_cons_succ, i64_w, i32_w]
                  rfl
                refine take_ (i := 7) (N := some 136) (v := ?_) (a' := ?_) #[true, true, true, true, true, true, true, true, false, false, false, false] rfl rfl (by kernel_rfl) (fun _ _ _ h => h) (Or.inl ⟨by rfl, ?_⟩) hHeld ?_ ?_
                rotate_left
                · rintro w' ⟨s0, s1, s2⟩
                  go_simp
                  with_reducible rfl
                rotate_left
                · simp only [Act.put, List.setIfInBounds_toArray, List.set_cons_zero, List.set_cons_succ, i64_w, i32_w]
                  rfl
                refine pure_ (i := 8) (N := some 137) (v := ?_) (a' := ?_) #[true, true, true, true, true, true, true, true, true, false, false, false] rfl rfl (by kernel_rfl) (fun _ _ _ h => h) (Or.inl ⟨by rfl, ?_⟩) ?_ ?_
                rotate_left
                · intro w'
                  go_simp
                  with_reducible rfl
                rotate_left
                · simp only [Act.put, List.setIfInBounds_toArray, List.set_cons_zero, List.set_cons_succ, i64_w, i32_w]
                  rfl
                refine one_ (i := 9) (N := none) #[true, true, true, true, true, true, true, true, true, true, false, false] rfl rfl (by kernel_rfl) (by decide) (fun K hK => ?_)
                refine skip_ (w1 := ?_) (by rfl) rfl ?_ ?_
                rotate_left
                · go_simp
                  rfl
                refine hK.out _ _ ⟨Kw.set hHeld.1 tm (.bool true), (HKF.out (W13.drew.drew.setCell ⟨yh, tm, none⟩ (.bool true)) (Kw.set hHeld.1 tm (.bool true))).1, (HKF.out (W13.drew.drew.setCell ⟨yh, tm, none⟩ (.bool true)) (Kw.set hHeld.1 tm (.bool true))).2⟩ (fun hHeld => ?_)
                clear hK K
                refine pure_ (i := 10) (N := some 138) (v := ?_) (a' := ?_) #[true, true, true, true, true, true, true, true, true, true, true, false] rfl rfl (by kernel_rfl) (fun _ _ _ h => h) (Or.inl ⟨by rfl, ?_⟩) ?_ ?_
                rotate_left
                · intro w'
                  go_simp
                  with_reducible rfl
                rotate_left
                · simp only [Act.put, List.setIfInBounds_toArray, List.set_cons_zero, List.set_cons_succ, i64_w, i32_w]
                  rfl
                refine last_ (i := 11) (N := none) #[true, true, true, true, true, true, true, true, true, true, true, true] rfl rfl (by kernel_rfl) (by decide) (fun K hK => ?_)
                refine skip_ (w1 := ?_) (by rfl) rfl ?_ ?_
                rotate_left
                · go_simp
                  rfl
                refine hK.out _ _ ?_
                clear hK K
                refine done_ (by kernel_rfl) ?_
                go_wp2
                go_roundw
                case rel => exact ⟨q + 1, _, by omega, by go_num, HIX⟩
                case measure => simp [intOf]; omega
              | some cc =>
                obtain rfl : cc = bb := by rw [HBB.out]; exact HSEE.out cc (by rw [← HTM.out]; exact hH)
                replace kh : W13.cell? ⟨yh, tm, none⟩ = some (.bool true) := by rw [kh, hH]; rfl
                replace kx : W13.cell? ⟨yc, tm, none⟩ = some (.string (strOfNums cc)) := by rw [kx]; unfold txtH; rw [hH]
                have S1b := (HKF.out W13.drew (fun _ _ => rfl)).2
                have s3 : ((strOfNums cc).toList != (strOfNums cc).toList) = false := by simp
                clear hH
                go_region
                clear S1b
                go_upto_region 30 with (fail)
                refine start_ (n := 12) (S := fun w' => Kw W13 yh w' ∧ w'.cell? ⟨z, 1, none⟩ = some (.int .i64 (tm : Int)) ∧ (convert 23 9 (.slice A11 n11 c11)).run Tryz.prog w' = .ok (.string (strOfNums cc)) w') (ds := [11]) #[false, false, false, false, false, false, false, false, false, false, false, false] (by kernel_rfl) rfl rfl ⟨fun _ _ => rfl, (HKF.out W13.drew.drew (fun _ _ => rfl)).1, (HKF.out W13.drew.drew (fun _ _ => rfl)).2⟩ (fun hHeld => ?_)
                refine pure_ (i := 0) (N := some 129) (v := ?_) (a' := ?_) #[true, false, false, false, false, false, false, false, false, false, false, false] rfl rfl (by kernel_rfl) (fun _ _ _ h => h) (Or.inl ⟨by rfl, ?_⟩) ?_ ?_
                rotate_left
                · intro w'
                  go_simp
                  with_reducible rfl
                rotate_left
                · simp only [Act.put, List.setIfInBounds_toArray, List.set_cons_zero, List.set_cons_succ, i64_w, i32_w]
                  rfl
                refine pure_ (i := 1) (N := some 130) (v := ?_) (a' := ?_) #[true, true, false, false, false, false, false, false, false, false, false, false] rfl rfl (by kernel_rfl) (fun _ _ _ h => h) (Or.inl ⟨by rfl, ?_⟩) ?_ ?_
                rotate_left
                · intro w'
                  go_simp
                  with_reducible rfl
                rotate_left
                · simp only [Act.put, List.setIfInBounds_toArray, List.set_cons_zero, List.set_cons_succ, i64_w, i32_w]
                  rfl
                refine pure_ (i := 3) (N := some 132) (v := ?_) (a' := ?_) #[true, true, false, true, false, false, false, false, false, false, false, false] rfl rfl (by kernel_rfl) (fun _ _ _ h => h) (Or.inl ⟨by rfl, ?_⟩) ?_ ?_
                rotate_left
                · intro w'
                  go_simp
                  with_reducible rfl
                rotate_left
                · simp only [Act.put, List.setIfInBounds_toArray, List.set_cons_zero, List.set_cons_succ, i64_w, i32_w]
                  rfl
                refine pure_ (i := 4) (N := some 133) (v := ?_) (a' := ?_) #[true, true, false, true, true, false, false, false, false, false, false, false] rfl rfl (by kernel_rfl) (fun _ _ _ h => h) (Or.inl ⟨by rfl, ?_⟩) ?_ ?_
                rotate_left
                · intro w'
                  go_simp
                  with_reducible rfl
                rotate_left
                · simp only [Act.put, List.setIfInBounds_toArray, List.set_cons_zero, List.set_cons_succ, i64_w, i32_w]
                  rfl
                refine pure_ (i := 6) (N := some 135) (v := ?_) (a' := ?_) #[true, true, false, true, true, false, true, false, false, false, false, false] rfl rfl (by kernel_rfl) (fun _ _ _ h => h) (Or.inl ⟨by rfl, ?_⟩) ?_ ?_
                rotate_left
                · intro w'
                  go_simp
                  with_reducible rfl
                rotate_left
                · simp only [Act.put, List.setIfInBounds_toArray, List.set_cons_zero, List.set_cons_succ, i64_w, i32_w]
                  rfl
                refine take_ (i := 2) (N := some 131) (v := ?_) (a' := ?_) #[true, true, true, true, true, false, true, false, false, false, false, false] rfl rfl (by kernel_rfl) (fun _ _ _ h => h) (Or.inl ⟨by rfl, ?_⟩) hHeld ?_ ?_
                rotate_left
                · rintro w' ⟨s0, s1, s2⟩
                  go_simp
                  with_reducible rfl
                rotate_left
                · simp only [Act.put, List.setIfInBounds_toArray, List.set_cons_zero, List.set_cons_succ, i64_w, i32_w]
                  rfl
                refine take_ (i := 5) (N := some 134) (v := ?_) (a' := ?_) #[true, true, true, true, true, true, true, false, false, false, false, false] rfl rfl (by kernel_rfl) (fun _ _ _ h => h) (Or.inl ⟨by rfl, ?_⟩) hHeld ?_ ?_
                rotate_left
                · rintro w' ⟨s0, s1, s2⟩
                  go_simp
                  with_reducible rfl
                rotate_left
                · simp only [Act.put, List.setIfInBounds_toArray, List.set_cons_zero, List.set_cons_succ, i64_w, i32_w]
                  rfl
                refine take_ (i := 7) (N := some 136) (v := ?_) (a' := ?_) #[true, true, true, true, true, true, true, true, false, false, false, false] rfl rfl (by kernel_rfl) (fun _ _ _ h => h) (Or.inl ⟨by rfl, ?_⟩) hHeld ?_ ?_
                rotate_left
                · rintro w' ⟨s0, s1, s2⟩
                  go_simp
                  with_reducible rfl
                rotate_left
                · simp only [Act.put, List.setIfInBounds_toArray, List.set_cons_zero, List.set_cons_succ, i64_w, i32_w]
                  rfl
                refine pure_ (i := 8) (N := some 137) (v := ?_) (a' := ?_) #[true, true, true, true, true, true, true, true, true, false, false, false] rfl rfl (by kernel_rfl) (fun _ _ _ h => h) (Or.inl ⟨by rfl, ?_⟩) ?_ ?_
                rotate_left
                · intro w'
                  go_simp
                  with_reducible rfl
                rotate_left
                · simp only [Act.put, List.setIfInBounds_toArray, List.set_cons_zero, List.set_cons_succ, i64_w, i32_w]
                  rfl
                refine one_ (i := 9) (N := none) #[true, true, true, true, true, true, true, true, true, true, false, false] rfl rfl (by kernel_rfl) (by decide) (fun K hK => ?_)
                refine skip_ (w1 := ?_) (by rfl) rfl ?_ ?_
                rotate_left
                · go_simp
                  rfl
                refine hK.out _ _ ⟨Kw.set hHeld.1 tm (.bool true), (HKF.out (W13.drew.drew.setCell ⟨yh, tm, none⟩ (.bool true)) (Kw.set hHeld.1 tm (.bool true))).1, (HKF.out (W13.drew.drew.setCell ⟨yh, tm, none⟩ (.bool true)) (Kw.set hHeld.1 tm (.bool true))).2⟩ (fun hHeld => ?_)
                clear hK K
                refine pure_ (i := 10) (N := some 138) (v := ?_) (a' := ?_) #[true, true, true, true, true, true, true, true, true, true, true, false] rfl rfl (by kernel_rfl) (fun _ _ _ h => h) (Or.inl ⟨by rfl, ?_⟩) ?_ ?_
                rotate_left
                · intro w'
                  go_simp
                  with_reducible rfl
                rotate_left
                · simp only [Act.put, List.setIfInBounds_toArray, List.set_cons_zero, List.set_cons_succ, i64_w, i32_w]
                  rfl
                refine last_ (i := 11) (N := none) #[true, true, true, true, true, true, true, true, true, true, true, true] rfl rfl (by kernel_rfl) (by decide) (fun K hK => ?_)
                refine skip_ (w1 := ?_) (by rfl) rfl ?_ ?_
                rotate_left
                · go_simp
                  rfl
                refine hK.out _ _ ?_
                clear hK K
                refine done_ (by kernel_rfl) ?_
                go_wp2
                go_roundw
                case rel => exact ⟨q + 1, _, by omega, by go_num, HIX⟩
                case measure => simp [intOf]; omega
            · --S2
              obtain rfl : q = m := by omega
              have HN10 := Lib.hid (HX.out.back HN.out)
              go_wp2
              go_roundw
              case rel => exact ⟨j + 1, c9, D9, H', by omega, by go_num, HN10⟩
              case measure => simp [intOf]; omega
        have e4 : ((k : Int) == 8) = false := by rw [beq_eq_false_iff_ne]; omega
        have HDD := Lib.hid (deed04_u w2 _ c g D k (by omega) a _ _ wr HI.out.du HF.out HAB.out HAT.out HLE.out.2.2.1 (by have := HC2.out; omega))
        clear g3 g4
        go_wp2_with fail
        refine HDD.out.mono ?_
        rintro e w9 ⟨D9', q9, rfl, h9, r9, t9⟩
        obtain ⟨c9, D9, HN⟩ : ∃ c9 D9, Hid (TimW w2 g yc yh (j + 1) w9 c9 D9 H) := ⟨_, _, HI.out.next h9 (HI.out.times.act r9) t9 (sp_act HI.out.du.ok r9) (by omega)⟩
        clear h9 r9 t9 HDD
        have HNM := Lib.hid (HN.out.du.names (by have := HN.out.c; have := HLA.out.len; have := HN1.out; omega))
        clear q0 q1 q2 q3 q4 q5
        go_wp2_with fail
        refine HNM.out.mono ?_
        rintro e w10 hp
        obtain ⟨AN, m, cpN, rfl, b10, hmm, hnm, hbl⟩ := names_told HN.out.du.ok hp
        have HI0 : Hid (InW w2 g yc yh w10 c9 D9 H AN m) := InW.start HN.out b10 hnm hbl
        clear b10 hnm hbl hp HNM
        go_upto_region 19 with (fail)
        go_wp2
        go_loopw [10] (fun i wx => ∃ (q : Nat) (H' : Nat → Option (List Int)), q ≤ m ∧ i = .int .i64 q ∧ Hid (InW w2 g yc yh wx c9 D9 H' AN m)) (fun i _ => m - (intOf i).toNat)
        case atStart => exact ⟨0, H, Nat.zero_le _, rfl, HI0⟩
        case round =>
          obtain ⟨q, H', hq, rfl, HX⟩ := hrel
          by_cases l2 : q < m
          · obtain ⟨ad2, s, hA, kc, hdn, hsz, iN, hi⟩ := HX.out.nm.at_ q l2
            subst hA
            have HDN := Lib.hid hdn
            have HSZ := Lib.hid hsz
            have HIL := Lib.hid hi
            have HRD := Lib.hid (HX.out.du.read s hsz)
            clear hdn hsz hi
            go_wp2_with fail
            refine HRD.out.mono ?_
            rintro e w11 hp
            obtain ⟨v11, rfl, o11⟩ := read_some hp HDN.out HIL.out
            obtain ⟨A11, n11, c11, rfl, hn11⟩ := o11.slice
            have HO11 := Lib.hid o11
            have kc2 := pw_cell_below o11.below kc
            have HST := Lib.hid ((HX.out.du.below o11.below).stat s HSZ.out)
            clear hp o11 hn11 HRD kc
            go_wp2_with fail
            refine HST.out.mono ?_
            rintro e w12 hp
            obtain ⟨rfl, b12⟩ := stat_some hp HDN.out HIL.out
            have HF9 := Lib.hid (HX.out.du.ok.file iN (has_dir HIL.out))
            have HHS := Lib.hid (has_dir (D := D9) HIL.out)
            obtain ⟨bb, hbb⟩ : ∃ bb, bb = (D9.fs iN).b := ⟨_, rfl⟩
            obtain ⟨tm, htm⟩ : ∃ tm, tm = (D9.fs iN).time := ⟨_, rfl⟩
            rw [← hbb, ← htm]
            obtain ⟨nl, hnl⟩ : ∃ nl, nl = bb.length := ⟨_, rfl⟩
            rw [← hnl]
            have HBB := Lib.hid hbb
            have HTM := Lib.hid htm
            obtain ⟨z, hz⟩ : ∃ z, w12.heap.size = z := ⟨_, rfl⟩
            obtain ⟨W13, hW13⟩ : ∃ W, W = w12.alloc (.cells #[.int .i64 (nl : Int), .int .i64 (tm : Int)] 36) := ⟨_, rfl⟩
            have hs13 : W13.heap[z]? = some (.cells #[.int .i64 (nl : Int), .int .i64 (tm : Int)] 36 (0, 0)) := by rw [hW13]; exact alloc_at w12 _ hz
            have hb13 : Below w11.heap.size w11 W13 := by rw [hW13]; exact below_alloc b12 _
            have HX13 := Lib.hid (HX.out.below (HO11.out.below.trans (hb13.mono HO11.out.below.size)))
            have HBS : Hid (Bs W13 (.slice A11 n11 c11) bb) := by
              have h := HO11.out.bs.below hb13
              rw [← hbb] at h
              exact h
            have kz := blk_cell hs13 1
            have kz : W13.cell? ⟨z, 1, none⟩ = some (.int .i64 (tm : Int)) := kz
            have ht1 : 1 ≤ tm := by rw [htm]; exact HF9.out.2.2.1
            have d1 : decide ((tm : Int) < 1) = false := decide_eq_false (by omega)
            have d2 : decide (tm < 1) = false := decide_eq_false (by omega)
            have d2' : (tm == 0) = false := by rw [beq_eq_false_iff_ne]; omega
            have HW13 := Lib.hid hW13
            have HS13 := Lib.hid hs13
            have HZ : Hid (z ≠ yc ∧ z ≠ yh) := by
              have h1 := HX.out.du.lt (k := yc) (.inl rfl)
              have h2 := HX.out.du.lt (k := yh) (.inr rfl)
              have h3 := HO11.out.below.size
              have h4 := b12.size
              show _ ∧ _
              omega
            clear hbb htm hnl hW13 hs13 hb13 hp b12 HST kc2
            go_upto_region 24 with (fail)
            rw [← HW13.out]
            clear hz
            by_cases l3 : 2000 ≤ tm
            · have d3 : decide ((2000 : Int) ≤ (tm : Int)) = true := decide_eq_true (by omega)
              have d4 : decide (2000 ≤ tm) = true := decide_eq_true l3
              have HB13 : Hid (Below w.heap.size w W13) := HB2.out.trans (HX13.out.du.wide.mono HB2.out.size)
              clear l3
              go_wp2
              go_ret
              exact ⟨rfl, HB13.out⟩
            have d3 : decide ((2000 : Int) ≤ (tm : Int)) = false := decide_eq_false (by omega)
            have d4 : decide (2000 ≤ tm) = false := decide_eq_false l3
            have l4 : tm < 2000 := by omega
            have l5 : (tm : Int) < 2000 := by omega
            clear l3
            have S1 := Lib.hid (fun m => str_of (HBS.out.drewN m))
            have kh : W13.cell? ⟨yh, tm, none⟩ = some (.bool (H' tm).isSome) := (HX13.out.had.h).cell l4
            have kx : W13.cell? ⟨yc, tm, none⟩ = some (.string (txtH H' tm)) := (HX13.out.had.c).cell l4
            have fh := (HX13.out.had.h).frozen tm
            have fx := (HX13.out.had.c).frozen tm
            have kx2 := ((HX13.out.had.c).setOther (a := ⟨yh, tm, none⟩) HNE.out (.bool true)).cell l4
            have fx2 := ((HX13.out.had.c).setOther (a := ⟨yh, tm, none⟩) HNE.out (.bool true)).frozen tm
            have HSEE := Lib.hid (fun c => HX13.out.times.seen iN c HHS.out)
            have HKF : Hid (∀ W, Kw W13 yh W → W.cell? ⟨z, 1, none⟩ = some (.int .i64 (tm : Int)) ∧ (convert 23 9 (.slice A11 n11 c11)).run Tryz.prog W = .ok (.string (strOfNums bb)) W) := fun W hk =>
              ⟨(World.cell?_of_block (hk z HZ.out.2)).trans kz, str_of (bs_blk HBS.out (fun q hq hl => hk q (fun e => by
                have h1 := HX.out.du.lt (k := yh) (.inr rfl)
                have h2 := own_base HO11.out.own q hq
                omega)))⟩
            have HIX : Hid (InW w2 g yc yh (((W13.drew.drew).setCell ⟨yh, tm, none⟩ (.bool true)).setCell ⟨yc, tm, none⟩ (.string (strOfNums bb))) c9 D9 (fun s => if s = tm then some bb else H' s) (some ad2) m) :=
              (HX13.out.below (Below.drew (Below.drew (Below.refl _ _)))).see HNE.out HHS.out tm bb HTM.out HBB.out
            go_upto_region 28 with (fail)
            cases hH : H' tm with
            | none =>
              replace kh : W13.cell? ⟨yh, tm, none⟩ = some (.bool false) := by rw [kh, hH]; rfl
              clear hH
              go_region
              go_upto_region 30 with (fail)
              refine start_ (n := 12) (S := fun w' => Kw W13 yh w' ∧ w'.cell? ⟨z, 1, none⟩ = some (.int .i64 (tm : Int)) ∧ (convert 23 9 (.slice A11 n11 c11)).run Tryz.prog w' = .ok (.string (strOfNums bb)) w') (ds := [11]) #[false, false, false, false, false, false, false, false, false, false, false, false] (by kernel_rfl) rfl rfl ⟨fun _ _ => rfl, (HKF.out W13.drew.drew (fun _ _ => rfl)).1, (HKF.out W13.drew.drew (fun _ _ => rfl)).2⟩ (fun hHeld => ?_)
              refine pure_ (i := 0) (N := some 129) (v := ?_) (a' := ?_) #[true, false, false, false, false, false, false, false, false, false, false, false] rfl rfl (by kernel_rfl) (fun _ _ _ h => h) (Or.inl ⟨by rfl, ?_⟩) ?_ ?_
              rotate_left
              · intro w'
                go_simp
                with_reducible rfl
              rotate_left
              · simp only [Act.put, List.setIfInBounds_toArray, List.set_cons_zero, List.set_cons_succ, i64_w, i32_w]
                rfl
              refine pure_ (i := 1) (N := some 130) (v := ?_) (a' := ?_) #[true, true, false, false, false, false, false, false, false, false, false, false] rfl rfl (by kernel_rfl) (fun _ _ _ h => h) (Or.inl ⟨by rfl, ?_⟩) ?_ ?_
              rotate_left
              · intro w'
                go_simp
                with_reducible rfl
              rotate_left
              · simp only [Act.put, List.setIfInBounds_toArray, List.set_cons_zero, List.set_cons_succ, i64_w, i32_w]
                rfl
              refine pure_ (i := 3) (N := some 132) (v := ?_) (a' := ?_) #[true, true, false, true, false, false, false, false, false, false, false, false] rfl rfl (by kernel_rfl) (fun _ _ _ h => h) (Or.inl ⟨by rfl, ?_⟩) ?_ ?_
              rotate_left
              · intro w'
                go_simp
                with_reducible rfl
              rotate_left
              · simp only [Act.put, List.setIfInBounds_toArray, List.set_cons_zero, List.set_cons_succ, i64_w, i32_w]
                rfl
              refine pure_ (i := 4) (N := some 133) (v := ?_) (a' := ?_) #[true, true, false, true, true, false, false, false, false, false, false, false] rfl rfl (by kernel_rfl) (fun _ _ _ h => h) (Or.inl ⟨by rfl, ?_⟩) ?_ ?_
              rotate_left
              · intro w'
                go_simp
                with_reducible rfl
              rotate_left
              · simp only [Act.put, List.setIfInBounds_toArray, List.set_cons_zero, List.set_cons_succ, i64_w, i32_w]
                rfl
              refine pure_ (i := 6) (N := some 135) (v := ?_) (a' := ?_) #[true, true, false, true, true, false, true, false, false, false, false, false] rfl rfl (by kernel_rfl) (fun _ _ _ h => h) (Or.inl ⟨by rfl, ?_⟩) ?_ ?_
              rotate_left
              · intro w'
                go_simp
                with_reducible rfl
              rotate_left
              · simp only [Act.put, List.setIfInBounds_toArray, List.set_cons_zero, List.set_cons_succ, i64_w, i32_w]
                rfl
              refine take_ (i := 2) (N := some 131) (v := ?_) (a' := ?_) #[true, true, true, true, true, false, true, false, false, false, false, false] rfl rfl (by kernel_rfl) (fun _ _ _ h => h) (Or.inl ⟨by rfl, ?_⟩) hHeld ?_ ?_
              rotate_left
              · rintro w' ⟨s0, s1, s2⟩
                go_simp
                with_reducible rfl
              rotate_left
              · simp only [Act.put, List.setIfInBounds_toArray, List.set_cons_zero, List.set_cons_succ, i64_w, i32_w]
                rfl
              refine take_ (i := 5) (N := some 134) (v := ?_) (a' := ?_) #[true, true, true, true, true, true, true, false, false, false, false, false] rfl rfl (by kernel_rfl) (fun _ _ _ h => h) (Or.inl ⟨by rfl, ?_⟩) hHeld ?_ ?_
              rotate_left
              · rintro w' ⟨s0, s1, s2⟩
                go_simp
                with_reducible rfl
              rotate_left
              · simp only [Act.put, List.setIfInBounds_toArray, List.set_cons_zero, List.set_cons_succ, i64_w, i32_w]
                rfl
              refine take_ (i := 7) (N := some 136) (v := ?_) (a' := ?_) #[true, true, true, true, true, true, true, true, false, false, false, false] rfl rfl (by kernel_rfl) (fun _ _ _ h => h) (Or.inl ⟨by rfl, ?_⟩) hHeld ?_ ?_
              rotate_left
              · rintro w' ⟨s0, s1, s2⟩
                go_simp
                with_reducible rfl
              rotate_left
              · simp only [Act.put, List.setIfInBounds_toArray, List.set_cons_zero, List.set_cons_succ, i64_w, i32_w]
                rfl
              refine pure_ (i := 8) (N := some 137) (v := ?_) (a' := ?_) #[true, true, true, true, true, true, true, true, true, false, false, false] rfl rfl (by kernel_rfl) (fun _ _ _ h => h) (Or.inl ⟨by rfl, ?_⟩) ?_ ?_
              rotate_left
              · intro w'
                go_simp
                with_reducible rfl
              rotate_left
              · simp only [Act.put, List.setIfInBounds_toArray, List.set_cons_zero, List.set_cons_succ, i64_w, i32_w]
                rfl
              refine one_ (i := 9) (N := none) #[true, true, true, true, true, true, true, true, true, true, false, false] rfl rfl (by kernel_rfl) (by decide) (fun K hK => ?_)
              refine skip_ (w1 := ?_) (by rfl) rfl ?_ ?_
              rotate_left
              · go_simp
                rfl
              refine hK.out _ _ ⟨Kw.set hHeld.1 tm (.bool true), (HKF.out (W13.drew.drew.setCell ⟨yh, tm, none⟩ (.bool true)) (Kw.set hHeld.1 tm (.bool true))).1, (HKF.out (W13.drew.drew.setCell ⟨yh, tm, none⟩ (.bool true)) (Kw.set hHeld.1 tm (.bool true))).2⟩ (fun hHeld => ?_)
              clear hK K
              refine pure_ (i := 10) (N := some 138) (v := ?_) (a' := ?_) #[true, true, true, true, true, true, true, true, true, true, true, false] rfl rfl (by kernel_rfl) (fun _ _ _ h => h) (Or.inl ⟨by rfl, ?_⟩) ?_ ?_
              rotate_left
              · intro w'
                go_simp
                with_reducible rfl
              rotate_left
              · simp only [Act.put, List.setIfInBounds_toArray, List.set_cons_zero, List.set_cons_succ, i64_w, i32_w]
                rfl
              refine last_ (i := 11) (N := none) #[true, true, true, true, true, true, true, true, true, true, true, true] rfl rfl (by kernel_rfl) (by decide) (fun K hK => ?_)
              refine skip_ (w1 := ?_) (by rfl) rfl ?_ ?_
              rotate_left
              · go_simp
                rfl
              refine hK.out _ _ ?_
              clear hK K
              refine done_ (by kernel_rfl) ?_
              go_wp2
              go_roundw
              case rel => exact ⟨q + 1, _, by omega, by go_num, HIX⟩
              case measure => simp [intOf]; omega
            | some cc =>
              obtain rfl : cc = bb := by rw [HBB.out]; exact HSEE.out cc (by rw [← HTM.out]; exact hH)
              replace kh : W13.cell? ⟨yh, tm, none⟩ = some (.bool true) := by rw [kh, hH]; rfl
              replace kx : W13.cell? ⟨yc, tm, none⟩ = some (.string (strOfNums cc)) := by rw [kx]; unfold txtH; rw [hH]
              have S1b := (HKF.out W13.drew (fun _ _ => rfl)).2
              have s3 : ((strOfNums cc).toList != (strOfNums cc).toList) = false := by simp
              clear hH
              go_region
              clear S1b
              go_upto_region 30 with (fail)
              refine start_ (n := 12) (S := fun w' => Kw W13 yh w' ∧ w'.cell? ⟨z, 1, none⟩ = some (.int .i64 (tm : Int)) ∧ (convert 23 9 (.slice A11 n11 c11)).run Tryz.prog w' = .ok (.string (strOfNums cc)) w') (ds := [11]) #[false, false, false, false, false, false, false, false, false, false, false, false] (by kernel_rfl) rfl rfl ⟨fun _ _ => rfl, (HKF.out W13.drew.drew (fun _ _ => rfl)).1, (HKF.out W13.drew.drew (fun _ _ => rfl)).2⟩ (fun hHeld => ?_)
              refine pure_ (i := 0) (N := some 129) (v := ?_) (a' := ?_) #[true, false, false, false, false, false, false, false, false, false, false, false] rfl rfl (by kernel_rfl) (fun _ _ _ h => h) (Or.inl ⟨by rfl, ?_⟩) ?_ ?_
              rotate_left
              · intro w'
                go_simp
                with_reducible rfl
              rotate_left
              · simp only [Act.put, List.setIfInBounds_toArray, List.set_cons_zero, List.set_cons_succ, i64_w, i32_w]
                rfl
              refine pure_ (i := 1) (N := some 130) (v := ?_) (a' := ?_) #[true, true, false, false, false, false, false, false, false, false, false, false] rfl rfl (by kernel_rfl) (fun _ _ _ h => h) (Or.inl ⟨by rfl, ?_⟩) ?_ ?_
              rotate_left
              · intro w'
                go_simp
                with_reducible rfl
              rotate_left
              · simp only [Act.put, List.setIfInBounds_toArray, List.set_cons_zero, List.set_cons_succ, i64_w, i32_w]
                rfl
              refine pure_ (i := 3) (N := some 132) (v := ?_) (a' := ?_) #[true, true, false, true, false, false, false, false, false, false, false, false] rfl rfl (by kernel_rfl) (fun _ _ _ h => h) (Or.inl ⟨by rfl, ?_⟩) ?_ ?_
              rotate_left
              · intro w'
                go_simp
                with_reducible rfl
              rotate_left
              · simp only [Act.put, List.setIfInBounds_toArray, List.set_cons_zero, List.set_cons_succ, i64_w, i32_w]
                rfl
              refine pure_ (i := 4) (N := some 133) (v := ?_) (a' := ?_) #[true, true, false, true, true, false, false, false, false, false, false, false] rfl rfl (by kernel_rfl) (fun _ _ _ h => h) (Or.inl ⟨by rfl, ?_⟩) ?_ ?_
              rotate_left
              · intro w'
                go_simp
                with_reducible rfl
              rotate_left
              · simp only [Act.put, List.setIfInBounds_toArray, List.set_cons_zero, List.set_cons_succ, i64_w, i32_w]
                rfl
              refine pure_ (i := 6) (N := some 135) (v := ?_) (a' := ?_) #[true, true, false, true, true, false, true, false, false, false, false, false] rfl rfl (by kernel_rfl) (fun _ _ _ h => h) (Or.inl ⟨by rfl, ?_⟩) ?_ ?_
              rotate_left
              · intro w'
                go_simp
                with_reducible rfl
              rotate_left
              · simp only [Act.put, List.setIfInBounds_toArray, List.set_cons_zero, List.set_cons_succ, i64_w, i32_w]
                rfl
              refine take_ (i := 2) (N := some 131) (v := ?_) (a' := ?_) #[true, true, true, true, true, false, true, false, false, false, false, false] rfl rfl (by kernel_rfl) (fun _ _ _ h => h) (Or.inl ⟨by rfl, ?_⟩) hHeld ?_ ?_
              rotate_left
              · rintro w' ⟨s0, s1, s2⟩
                go_simp
                with_reducible rfl
              rotate_left
              · simp only [Act.put, List.setIfInBounds_toArray, List.set_cons_zero, List.set_cons_succ, i64_w, i32_w]
                rfl
              refine take_ (i := 5) (N := some 134) (v := ?_) (a' := ?_) #[true, true, true, true, true, true, true, false, false, false, false, false] rfl rfl (by kernel_rfl) (fun _ _ _ h => h) (Or.inl ⟨by rfl, ?_⟩) hHeld ?_ ?_
              rotate_left
              · rintro w' ⟨s0, s1, s2⟩
                go_simp
                with_reducible rfl
              rotate_left
              · simp only [Act.put, List.setIfInBounds_toArray, List.set_cons_zero, List.set_cons_succ, i64_w, i32_w]
                rfl
              refine take_ (i := 7) (N := some 136) (v := ?_) (a' := ?_) #[true, true, true, true, true, true, true, true, false, false, false, false] rfl rfl (by kernel_rfl) (fun _ _ _ h => h) (Or.inl ⟨by rfl, ?_⟩) hHeld ?_ ?_
              rotate_left
              · rintro w' ⟨s0, s1, s2⟩
                go_simp
                with_reducible rfl
              rotate_left
              · simp only [Act.put, List.setIfInBounds_toArray, List.set_cons_zero, List.set_cons_succ, i64_w, i32_w]
                rfl
              refine pure_ (i := 8) (N := some 137) (v := ?_) (a' := ?_) #[true, true, true, true, true, true, true, true, true, false, false, false] rfl rfl (by kernel_rfl) (fun _ _ _ h => h) (Or.inl ⟨by rfl, ?_⟩) ?_ ?_
              rotate_left
              · intro w'
                go_simp
                with_reducible rfl
              rotate_left
              · simp only [Act.put, List.setIfInBounds_toArray, List.set_cons_zero, List.set_cons_succ, i64_w, i32_w]
                rfl
              refine one_ (i := 9) (N := none) #[true, true, true, true, true, true, true, true, true, true, false, false] rfl rfl (by kernel_rfl) (by decide) (fun K hK => ?_)
              refine skip_ (w1 := ?_) (by rfl) rfl ?_ ?_
              rotate_left
              · go_simp
                rfl
              refine hK.out _ _ ⟨Kw.set hHeld.1 tm (.bool true), (HKF.out (W13.drew.drew.setCell ⟨yh, tm, none⟩ (.bool true)) (Kw.set hHeld.1 tm (.bool true))).1, (HKF.out (W13.drew.drew.setCell ⟨yh, tm, none⟩ (.bool true)) (Kw.set hHeld.1 tm (.bool true))).2⟩ (fun hHeld => ?_)
              clear hK K
              refine pure_ (i := 10) (N := some 138) (v := ?_) (a' := ?_) #[true, true, true, true, true, true, true, true, true, true, true, false] rfl rfl (by kernel_rfl) (fun _ _ _ h => h) (Or.inl ⟨by rfl, ?_⟩) ?_ ?_
              rotate_left
              · intro w'
                go_simp
                with_reducible rfl
              rotate_left
              · simp only [Act.put, List.setIfInBounds_toArray, List.set_cons_zero, List.set_cons_succ, i64_w, i32_w]
                rfl
              refine last_ (i := 11) (N := none) #[true, true, true, true, true, true, true, true, true, true, true, true] rfl rfl (by kernel_rfl) (by decide) (fun K hK => ?_)
              refine skip_ (w1 := ?_) (by rfl) rfl ?_ ?_
              rotate_left
              · go_simp
                rfl
              refine hK.out _ _ ?_
              clear hK K
              refine done_ (by kernel_rfl) ?_
              go_wp2
              go_roundw
              case rel => exact ⟨q + 1, _, by omega, by go_num, HIX⟩
              case measure => simp [intOf]; omega
          · --S2
            obtain rfl : q = m := by omega
            have HN10 := Lib.hid (HX.out.back HN.out)
            go_wp2
            go_roundw
            case rel => exact ⟨j + 1, c9, D9, H', by omega, by go_num, HN10⟩
            case measure => simp [intOf]; omega
      · have HB9 : Hid (Below w.heap.size w wr) := HB2.out.trans (HI.out.du.wide.mono HB2.out.size)
        go_wp2_with fail
        refine (awake04 wr).mono ?_
        rintro e w13 ⟨rfl, b13⟩
        have HB13 := Lib.hid (HB9.out.trans (b13.mono HB9.out.size))
        clear b13
        go_wp2
        go_ret
        exact ⟨rfl, HB13.out⟩
--END WALK
end Go.Proofs.YtononoakdebjeaaGreatDoor.Dk
