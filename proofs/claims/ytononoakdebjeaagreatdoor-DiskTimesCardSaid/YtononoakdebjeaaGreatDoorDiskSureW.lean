/- What was synced is there (walk of the statement DiskSure). -/
import Derived.Test.YtononoakdebjeaaGreatDoorDkActsW
import Derived.RegionTactic
import Derived.BigRegion
namespace Go.Proofs.YtononoakdebjeaaGreatDoor.Dk
open Go.RowKit Go.Proofs.YtononoakdebjeaaGreatDoorW.PrintWords Go.Proofs.YtononoakdebjeaaGreatDoorW.PrintLast Go.Proofs.YtononoakdebjeaaGreatDoor.Base Go.Proofs.YtononoakdebjeaaGreatDoor.Path Go.Proofs.YtononoakdebjeaaGreatDoor.Pack Go.Maps
set_option linter.unusedVariables false
set_option linter.unusedSimpArgs false
/-! ### How many names and changes there are -/
def spN (D : DiskV) : Nat := D.sure.length + D.pend.length
theorem sp_deed {D D' : DiskV} {ok : Bool} {body : DiskV → DiskV → Nat → Prop} {k : Nat} (hb : ∀ D1 k, spN D1 = spN D → D1.dir = D.dir → body D1 D' k → spN D' ≤ spN D + 1) (h : DeedR D ok body D' k) : spN D' ≤ spN D + 1 := by
  rcases h with ⟨_, rfl, _⟩ | ⟨_, _, rfl, _⟩ | ⟨_, _, ⟨_, rfl, _⟩ | ⟨_, h⟩⟩
  · exact Nat.le_succ _
  · exact Nat.le_succ _
  · exact Nat.le_succ _
  · exact hb _ _ (by rfl) (by rfl) h
theorem sp_fresh {D D' : DiskV} {s : ByteArray} {xs : List Int} {k : Nat} (h : FreshR s xs D D' k) : spN D' ≤ spN D + 1 := by
  rcases h with ⟨_, rfl, _⟩ | ⟨_, _, j, _, rfl⟩
  · exact Nat.le_succ _
  · show D.sure.length + (D.pend ++ _).length ≤ _
    rw [List.length_append]
    exact Nat.le_refl _
theorem sp_there {D D' : DiskV} {s : ByteArray} {body : Nat → DiskV → DiskV → Nat → Prop} {k : Nat} (hb : ∀ i, body i D D' k → spN D' ≤ spN D + 1) (h : ThereR s body D D' k) : spN D' ≤ spN D + 1 := by
  unfold ThereR at h
  split at h
  · rw [h.1]; exact Nat.le_succ _
  · exact hb _ h
theorem sp_turn {D : DiskV} {c : ChV} : spN (turnsV D c) = spN D + 1 := by
  show D.sure.length + (D.pend ++ [c]).length = _
  rw [List.length_append]
  rfl
theorem dir_sp {c : Nat} {D : DiskV} (h : OkD c D) : D.dir.length ≤ spN D := by
  rw [h.dirE]
  exact foldl_len h.up
theorem sp_act {c : Nat} {right : ByteArray → Bool} {what : Nat} {name dest : ByteArray} {xs : List Int} {n : Int} {D D' : DiskV} {k : Nat} (ho : OkD c D) (h : ActR right what name dest xs n D D' k) : spN D' ≤ spN D + 1 := by
  unfold ActR at h
  split at h
  · exact sp_deed (fun D1 k e _ h => by have := sp_fresh h; omega) h
  · refine sp_deed (fun D1 k e _ h => ?_) h
    unfold AppendR at h
    split at h
    · have := sp_fresh h; omega
    · rcases h with ⟨_, rfl, _⟩ | ⟨_, _, rfl⟩
      · omega
      · show spN D1 ≤ _; omega
  · refine sp_deed (fun D1 k e _ h => ?_) h
    have := sp_there (fun i h => ?_) h
    · omega
    · rcases h with ⟨_, rfl, _⟩ | ⟨_, _, _, rfl⟩
      · exact Nat.le_succ _
      · exact Nat.le_succ _
  · refine sp_deed (fun D1 k e _ h => ?_) h
    have := sp_there (fun i h => by rw [h.1, sp_turn]; exact Nat.le_refl _) h
    omega
  · refine sp_deed (fun D1 k e _ h => ?_) h
    have := sp_there (fun i h => by rw [h.1, sp_turn]; exact Nat.le_refl _) h
    omega
  · refine sp_deed (fun D1 k e _ h => ?_) h
    have := sp_there (fun i h => by rw [h.1]; exact Nat.le_succ _) h
    omega
  · refine sp_deed (fun D1 k e e2 h => ?_) h
    rw [h.1]
    show D1.dir.length + 0 ≤ _
    rw [e2]
    have := dir_sp ho
    omega
theorem sp_restart {c : Nat} {D : DiskV} (ho : OkD c D) (n : Int) (tails : List Int) : spN (restartV D n tails) ≤ spN D := by
  obtain ⟨_, e2, e3, _⟩ := restart_dir D n tails
  unfold spN
  rw [e2, e3]
  have h := foldl_len (cs := D.pend.take (min (max n 0).toNat D.pend.length)) ho.up
  rw [List.length_take] at h
  unfold keptV
  show _ + 0 ≤ _
  omega
theorem what_k (wh : Int) : ∃ k : Nat, k ≤ 8 ∧ (wrap64 (wh.tmod 9 + 9)).tmod 9 = (k : Int) := by
  have h1 : -9 < wh.tmod 9 ∧ wh.tmod 9 < 9 := ⟨Int.lt_tmod_of_pos wh (by decide), Int.tmod_lt_of_pos wh (by decide)⟩
  have h2 : wrap64 (wh.tmod 9 + 9) = wh.tmod 9 + 9 := by unfold wrap64; omega
  rw [h2, Int.tmod_eq_emod_of_nonneg (by omega)]
  exact ⟨((wh.tmod 9 + 9) % 9).toNat, by omega, by omega⟩
abbrev ownN : ByteArray := ⟨#[111, 119, 110, 47, 102, 105, 108, 101]⟩
abbrev statO (n t : Nat) : Obj := .cells #[.int .i64 (n : Int), .int .i64 (t : Int)] 36 (0, 0)
/-- What stands at the head of each round. -/
structure SureW (w0 : World) (g y : Nat) (b : List Int) (t i j : Nat) (wr : World) (c : Nat) (D : DiskV) : Prop where
  du : DU w0 (fun q => q = y) c wr g D
  sure : SureI ownN b t i D
  stat : wr.heap[y]? = some (statO b.length t)
  sp : spN D ≤ j + 1
  c : c ≤ 200 * (j + 1)
theorem SureW.next {w0 : World} {g y : Nat} {b : List Int} {t i j c c' : Nat} {wr w' : World} {D D' : DiskV} (h : SureW w0 g y b t i j wr c D) (h1 : DU w0 (fun q => q = y) c' w' g D') (h2 : SureI ownN b t i D') (h3 : Kpt (fun q => q = y) wr w') (h4 : spN D' ≤ spN D + 1) (h5 : c' ≤ c + 200) : SureW w0 g y b t i (j + 1) w' c' D' :=
  ⟨h1, h2, (h3 y rfl).trans h.stat, by have := h.sp; omega, by have := h.c; omega⟩
theorem own_true {s : ByteArray} (h : s = ownN) : (s.toList == [111, 119, 110, 47, 102, 105, 108, 101]) = true := by rw [h]; decide +kernel
theorem own_false {s : ByteArray} (h : s ≠ ownN) : (s.toList == [111, 119, 110, 47, 102, 105, 108, 101]) = false := by
  rw [beq_eq_false_iff_ne]
  intro e
  have e2 : ownN.toList = [111, 119, 110, 47, 102, 105, 108, 101] := by decide +kernel
  rw [← e2, ByteArray.toList_eq, ByteArray.toList_eq] at e
  cases s
  exact h (congrArg ByteArray.mk (Array.toList_inj.1 e))
set_option maxRecDepth 100000 in
set_option maxHeartbeats 4000000 in
theorem DiskSure_any (v u vt : Value) (l : List ActV) (b : List Int) (dirN : Int) (tails : List Int) (w : World) (hv : Az w v l) (hu : Bs w u b) (ht : Ti w vt tails) (hd : -9223372036854775808 ≤ dirN ∧ dirN ≤ 9223372036854775807) :
    Calls Tryz.prog 3 #[v, u, .agg #[.int .i64 dirN, vt]] w fun e w' => e = .returned (.bool true) ∧ Below w.heap.size w w' := by
  obtain ⟨x, hx⟩ : ∃ x, w.heap.size = x := ⟨_, rfl⟩
  obtain ⟨W1, hW⟩ : ∃ W, W = w.alloc (.cells #[.int .i64 dirN, vt] 26) := ⟨_, rfl⟩
  have hX : W1.heap[x]? = some (.cells #[.int .i64 dirN, vt] 26 (0, 0)) := by rw [hW]; exact alloc_at w _ hx
  have hB : Below w.heap.size w W1 := by rw [hW]; exact below_alloc (Below.refl _ _) _
  have HLI := Lib.hid (light04_any v l W1 (hv.below hB))
  have HU := Lib.hid hu
  have HT := Lib.hid ht
  obtain ⟨A1, c1, rfl, _, hm1, hC⟩ := hv
  obtain ⟨n1, hn1⟩ : ∃ n, n = l.length := ⟨_, rfl⟩
  rw [← hn1] at HLI hm1 ⊢
  have HC := Lib.hid hC
  obtain ⟨A2, n2, c2, rfl, hn2⟩ : ∃ A n c, u = .slice A n c ∧ n = b.length := by obtain ⟨A, c, rfl, _⟩ := hu; exact ⟨A, _, c, rfl, rfl⟩
  obtain ⟨A3, n3, c3, rfl, hn3⟩ : ∃ A n c, vt = .slice A n c ∧ n = tails.length := by obtain ⟨A, c, rfl, _⟩ := ht; exact ⟨A, _, c, rfl, rfl⟩
  have HN1 := Lib.hid hn1
  have HN2 := Lib.hid hn2
  have HN3 := Lib.hid hn3
  have HX := Lib.hid hX
  have HW := Lib.hid hW
  have HB := Lib.hid hB
  clear hX hW hB hu ht hn1 hn2 hn3 hC
  go_enter Tryz.func3, Tryz.ntmps3
  go_upto_region 1 with (fail)
  rw [← HW.out]
  clear hx
  go_wp2_with fail
  refine HLI.out.mono ?_
  rintro e w2 ⟨⟨bo, rfl, hbo⟩, b2⟩
  have HB2 := Lib.hid (HB.out.trans (b2.mono HB.out.size))
  have hX2 := (b2.block x (blk_lt HX.out)).trans HX.out
  have HX2 := Lib.hid hX2
  have k1 := blk_cell hX2 1
  have k1 : w2.cell? ⟨x, 1, none⟩ = some (.slice A3 n3 c3) := k1
  clear b2 hX2 HLI
  cases bo with
  | false =>
    go_wp2
    go_ret
    exact ⟨rfl, HB2.out⟩
  | true =>
    have HLA := Lib.hid (hbo rfl)
    clear hbo
    by_cases l1 : 1000 < n2
    · have d1 : decide ((1000 : Int) < (n2 : Int)) = true := decide_eq_true (by omega)
      have d2 : decide (1000 < n2) = true := decide_eq_true l1
      clear l1
      go_wp2
      go_ret
      exact ⟨rfl, HB2.out⟩
    have d1 : decide ((1000 : Int) < (n2 : Int)) = false := decide_eq_false (by omega)
    have d2 : decide (1000 < n2) = false := decide_eq_false l1
    by_cases l2 : 20 < n3
    · have d3 : decide ((20 : Int) < (n3 : Int)) = true := decide_eq_true (by omega)
      have d4 : decide (20 < n3) = true := decide_eq_true l2
      clear l1 l2
      go_wp2
      go_ret
      exact ⟨rfl, HB2.out⟩
    have d3 : decide ((20 : Int) < (n3 : Int)) = false := decide_eq_false (by omega)
    have d4 : decide (20 < n3) = false := decide_eq_false l2
    have HL2 : Hid (b.length ≤ 1000) := by rw [← HN2.out]; show _ ≤ _; omega
    have HL3 : Hid (tails.length ≤ 20) := by rw [← HN3.out]; show _ ≤ _; omega
    have HFR := Lib.hid (fresh04 (B := w2.heap.size) w2 (Nat.le_refl _))
    clear l1 l2
    go_wp2_with fail
    refine HFR.out.mono ?_
    rintro e w3 ⟨g, rfl, q3, b3⟩
    have HD3 : Hid (DU w2 (fun _ => False) 1 w3 g (newV 16777216 fun _ => ⟨[], 0, 0⟩)) := DU.start q3 b3
    have HU2 := Lib.hid (HU.out.below HB2.out)
    have HWR := Lib.hid (HD3.out.write ownN _ b (by decide) (BU.old HD3.out HU2.out) (by have := HL2.out; omega) (by decide))
    clear q3 b3 HFR k1
    go_wp2_with fail
    refine HWR.out.mono ?_
    rintro e w4 ⟨D4, k4, rfl, h4, r4, t4⟩
    obtain ⟨rfl, iN, o4, a4, _⟩ := (NoneI.new 16777216 (fun _ => ⟨[], 0, 0⟩)).writeD (by decide) right_own (by have := HL2.out; omega) (by have := HL2.out; omega) (by decide) r4
    have a4' : D4.armed = -1 := a4.trans (count_minus rfl)
    have HSY := Lib.hid (h4.sync ownN (by decide) (by decide))
    have HO4 := Lib.hid (And.intro o4 a4')
    clear h4 r4 t4 o4 a4 a4' HWR
    go_wp2_with fail
    refine HSY.out.mono ?_
    rintro e w5 ⟨D5, k5, rfl, h5, r5, t5⟩
    obtain ⟨rfl, o5, a5, _⟩ := HO4.out.1.syncD (by rw [HO4.out.2]; decide) right_own r5
    have a5' : D5.armed = -1 := a5.trans (count_minus HO4.out.2)
    have HSD := Lib.hid (h5.syncDir (by decide))
    have HO5 := Lib.hid (And.intro o5 a5')
    clear h5 r5 t5 o5 a5 a5' HSY
    go_wp2_with fail
    refine HSD.out.mono ?_
    rintro e w6 ⟨D6, k6, rfl, h6, r6, t6⟩
    obtain ⟨rfl, o6, a6, _⟩ := HO5.out.1.syncDirD (by rw [HO5.out.2]; decide) r6
    have HS6 := Lib.hid (o6.toSure (by decide) rfl)
    have HP6 : Hid (spN D6 ≤ 1) := by
      have h := o6.sy
      rw [if_pos rfl] at h
      show D6.sure.length + D6.pend.length ≤ 1
      rw [h.1, h.2]
      exact Nat.le_refl _
    have H6 := Lib.hid h6
    have HST := Lib.hid (h6.stat ownN (by decide))
    have HDN : Hid (D6.down = false) := o6.down
    clear h6 r6 t6 o6 a6 HSD
    go_wp2_with fail
    refine HST.out.mono ?_
    rintro e w7 hp
    obtain ⟨rfl, b7⟩ := stat_some hp HDN.out HS6.out.dir.at_
    rw [HS6.out.file]
    obtain ⟨tm, htm⟩ : ∃ tm, tm = (newV 16777216 fun _ => (⟨[], 0, 0⟩ : FileV)).clock := ⟨_, rfl⟩
    obtain ⟨nb, hnb⟩ : ∃ nb, nb = b.length := ⟨_, rfl⟩
    rw [← htm] at HS6 ⊢
    have HNB := Lib.hid hnb
    obtain ⟨y, hy⟩ : ∃ y, w7.heap.size = y := ⟨_, rfl⟩
    obtain ⟨W8, hW8⟩ : ∃ W, W = w7.alloc (.cells #[.int .i64 (b.length : Int), .int .i64 (tm : Int)] 36) := ⟨_, rfl⟩
    have b8 : Below w6.heap.size w6 W8 := by rw [hW8]; exact below_alloc b7 _
    have hs8 : W8.heap[y]? = some (statO b.length tm) := by rw [hW8]; exact alloc_at w7 _ hy
    have HS8 : Hid (SureW w2 g y b tm iN 0 W8 10 D6) := ⟨(H6.out.add (U := fun q => q = y) b8 (fun q hq => by
        rw [hq]
        exact ⟨by rw [← hy]; exact b7.size, blk_lt hs8⟩)).sub (fun q hq => .inr hq), HS6.out, hs8, by have := HP6.out; omega, by decide⟩
    clear htm hnb b8 hs8 hp b7 HST
    go_upto_region 7 with (fail)
    rw [← hW8]
    clear hW8 hy
    go_wp2
    go_loopw [11] (fun i wr => ∃ (j c : Nat) (D : DiskV), j ≤ n1 ∧ i = .int .i64 j ∧ Hid (SureW w2 g y b tm iN j wr c D)) (fun i _ => n1 - (intOf i).toNat)
    case atStart => exact ⟨0, 10, D6, Nat.zero_le _, rfl, HS8⟩
    case round =>
      obtain ⟨j, c, D, hj, rfl, HI⟩ := hrel
      by_cases l1 : j < n1
      · have hkl : j < l.length := by rw [← HN1.out]; exact l1
        obtain ⟨a, ha⟩ : ∃ a, l[j]? = some a := ⟨_, List.getElem?_eq_getElem hkl⟩
        obtain ⟨hf, ad, vb, vt, rfl, hq, hb, ht⟩ := HC.out j a ha
        have HWR : Hid (Below w.heap.size w wr) := HB2.out.trans (HI.out.du.wide.mono HB2.out.size)
        have HAB := Lib.hid (hb.below HB2.out)
        have HAT := Lib.hid (ti_blw ht HB2.out)
        have HLE := Lib.hid (HLA.out.each a (List.mem_of_getElem? ha))
        have HF := Lib.hid hf
        obtain ⟨A5, c5, rfl, _, _⟩ := hb.len
        obtain ⟨A6, c6, rfl, _⟩ := ht
        have hq := hq.below HWR.out
        obtain ⟨q0, q1, q2, q3, q4, q5⟩ := hq
        obtain ⟨nb, hnb⟩ : ∃ nb, nb = a.b.length := ⟨_, rfl⟩
        obtain ⟨nt, hnt⟩ : ∃ nt, nt = a.tails.length := ⟨_, rfl⟩
        rw [← hnb] at q4 HAB
        rw [← hnt] at q5 HAT
        have HNB2 := Lib.hid hnb
        have HNT2 := Lib.hid hnt
        clear hf hb ha hkl hnb hnt
        go_upto_region 11 with (fail)
        obtain ⟨k, hk, hke⟩ := what_k a.wh
        rw [hke]
        have HKE := Lib.hid hke
        clear hke
        by_cases g1 : a.name = ownN
        · have e1 := own_true g1
          have HN := Lib.hid (HI.out.next HI.out.du HI.out.sure Kpt.refl (Nat.le_succ _) (Nat.le_add_right _ _))
          clear g1
          go_wp2
          go_roundw
          case rel => exact ⟨j + 1, c, D, by omega, by go_num, HN⟩
          case measure => simp [intOf]; omega
        have e1 := own_false g1
        by_cases g2 : a.dst = ownN
        · have e2 := own_true g2
          have HN := Lib.hid (HI.out.next HI.out.du HI.out.sure Kpt.refl (Nat.le_succ _) (Nat.le_add_right _ _))
          clear g1 g2
          go_wp2
          go_roundw
          case rel => exact ⟨j + 1, c, D, by omega, by go_num, HN⟩
          case measure => simp [intOf]; omega
        have e2 := own_false g2
        have HG : Hid (a.name ≠ ownN ∧ a.dst ≠ ownN) := ⟨g1, g2⟩
        have HC2 : Hid (c ≤ 16200) := by
          have h1 := HI.out.c
          have h2 := HLA.out.len
          have h3 := HN1.out
          show _ ≤ _
          omega
        have HSP : Hid (spN D ≤ 82) := by
          have h1 := HI.out.sp
          have h2 := HLA.out.len
          have h3 := HN1.out
          show _ ≤ _
          omega
        clear g1 g2
        by_cases g3 : k = 7
        · have e3 : ((k : Int) == 7) = true := by rw [g3]; rfl
          have HAR := Lib.hid (HI.out.du.arm a.n HF.out.n.2)
          clear g3
          go_wp2_with fail
          refine HAR.out.mono ?_
          rintro e w9 ⟨rfl, h9, t9⟩
          have HN := Lib.hid (HI.out.next h9 (HI.out.sure.arm a.n) t9 (Nat.le_succ _) (Nat.le_add_right _ _))
          clear h9 t9 HAR
          go_wp2
          go_roundw
          case rel => exact ⟨j + 1, c, _, by omega, by go_num, HN⟩
          case measure => simp [intOf]; omega
        have e3 : ((k : Int) == 7) = false := by rw [beq_eq_false_iff_ne]; omega
        by_cases g4 : k = 8
        · have e4 : ((k : Int) == 8) = true := by rw [g4]; rfl
          have HRS : Hid (∀ W, Below wr.heap.size wr W → Calls Tryz.prog 16 #[.pointer (some ⟨g, 0, none⟩), .agg #[.int .i64 a.n, .slice A6 nt c6]] W fun e w' => e = .returned (.tuple #[]) ∧ DU w2 (fun q => q = y) (c + 82 + 1) w' g (restartV D a.n a.tails) ∧ Kpt (fun q => q = y) wr w') := fun W hb => by
            have h := HI.out.du.below hb
            have h1 := HNT2.out
            have h2 := HLE.out
            have h3 := HC2.out
            exact (h.restart 82 a.n _ a.tails HSP.out (ti_blw HAT.out h.wide) (fun hl q hq => .inl (ti_old HAT.out hl hq)) HF.out.n (by omega) (by omega)).mono fun e w' ⟨a1, a2, a3⟩ => ⟨a1, a2, (HI.out.du.kpt hb).trans a3⟩
          clear g3 g4
          go_upto_region 17 with (fail)
          --BEGIN R17
          refine start_ (n := 13) (S := fun w' => Below wr.heap.size wr w' ∧ w'.cell? ⟨(ad.add (j * 6)).block, (ad.add (j * 6)).off + 1, none⟩ = some (.int .i64 a.n) ∧ w'.cell? ⟨(ad.add (j * 6)).block, (ad.add (j * 6)).off + 5, none⟩ = some (.slice A6 nt c6)) (ds := [12]) #[false, false, false, false, false, false, false, false, false, false, false, false, false] (by kernel_rfl) rfl rfl ⟨Below.drew (Below.refl _ _), q1, q5⟩ (fun hHeld => ?_)
          refine pure_ (i := 0) (N := some 105) (v := ?_) (a' := ?_) #[true, false, false, false, false, false, false, false, false, false, false, false, false] rfl rfl (by kernel_rfl) (fun _ _ _ h => h) (Or.inl ⟨by rfl, ?_⟩) ?_ ?_
          rotate_left
          · intro w'
            go_simp
            with_reducible rfl
          rotate_left
          · simp only [Act.put, List.setIfInBounds_toArray, List.set_cons_zero, List.set_cons_succ, i64_w, i32_w]
            rfl
          refine pure_ (i := 1) (N := some 106) (v := ?_) (a' := ?_) #[true, true, false, false, false, false, false, false, false, false, false, false, false] rfl rfl (by kernel_rfl) (fun _ _ _ h => h) (Or.inl ⟨by rfl, ?_⟩) ?_ ?_
          rotate_left
          · intro w'
            go_simp
            with_reducible rfl
          rotate_left
          · simp only [Act.put, List.setIfInBounds_toArray, List.set_cons_zero, List.set_cons_succ, i64_w, i32_w]
            rfl
          refine pure_ (i := 2) (N := some 107) (v := ?_) (a' := ?_) #[true, true, true, false, false, false, false, false, false, false, false, false, false] rfl rfl (by kernel_rfl) (fun _ _ _ h => h) (Or.inl ⟨by rfl, ?_⟩) ?_ ?_
          rotate_left
          · intro w'
            go_simp
            with_reducible rfl
          rotate_left
          · simp only [Act.put, List.setIfInBounds_toArray, List.set_cons_zero, List.set_cons_succ, i64_w, i32_w]
            rfl
          refine pure_ (i := 3) (N := some 108) (v := ?_) (a' := ?_) #[true, true, true, true, false, false, false, false, false, false, false, false, false] rfl rfl (by kernel_rfl) (fun _ _ _ h => h) (Or.inl ⟨by rfl, ?_⟩) ?_ ?_
          rotate_left
          · intro w'
            go_simp
            with_reducible rfl
          rotate_left
          · simp only [Act.put, List.setIfInBounds_toArray, List.set_cons_zero, List.set_cons_succ, i64_w, i32_w]
            rfl
          refine pure_ (i := 4) (N := some 109) (v := ?_) (a' := ?_) #[true, true, true, true, true, false, false, false, false, false, false, false, false] rfl rfl (by kernel_rfl) (fun _ _ _ h => h) (Or.inl ⟨by rfl, ?_⟩) ?_ ?_
          rotate_left
          · intro w'
            go_simp
            with_reducible rfl
          rotate_left
          · simp only [Act.put, List.setIfInBounds_toArray, List.set_cons_zero, List.set_cons_succ, i64_w, i32_w]
            rfl
          refine pure_ (i := 6) (N := some 111) (v := ?_) (a' := ?_) #[true, true, true, true, true, false, true, false, false, false, false, false, false] rfl rfl (by kernel_rfl) (fun _ _ _ h => h) (Or.inl ⟨by rfl, ?_⟩) ?_ ?_
          rotate_left
          · intro w'
            go_simp
            with_reducible rfl
          rotate_left
          · simp only [Act.put, List.setIfInBounds_toArray, List.set_cons_zero, List.set_cons_succ, i64_w, i32_w]
            rfl
          refine pure_ (i := 7) (N := some 112) (v := ?_) (a' := ?_) #[true, true, true, true, true, false, true, true, false, false, false, false, false] rfl rfl (by kernel_rfl) (fun _ _ _ h => h) (Or.inl ⟨by rfl, ?_⟩) ?_ ?_
          rotate_left
          · intro w'
            go_simp
            with_reducible rfl
          rotate_left
          · simp only [Act.put, List.setIfInBounds_toArray, List.set_cons_zero, List.set_cons_succ, i64_w, i32_w]
            rfl
          refine pure_ (i := 8) (N := some 113) (v := ?_) (a' := ?_) #[true, true, true, true, true, false, true, true, true, false, false, false, false] rfl rfl (by kernel_rfl) (fun _ _ _ h => h) (Or.inl ⟨by rfl, ?_⟩) ?_ ?_
          rotate_left
          · intro w'
            go_simp
            with_reducible rfl
          rotate_left
          · simp only [Act.put, List.setIfInBounds_toArray, List.set_cons_zero, List.set_cons_succ, i64_w, i32_w]
            rfl
          refine pure_ (i := 9) (N := some 114) (v := ?_) (a' := ?_) #[true, true, true, true, true, false, true, true, true, true, false, false, false] rfl rfl (by kernel_rfl) (fun _ _ _ h => h) (Or.inl ⟨by rfl, ?_⟩) ?_ ?_
          rotate_left
          · intro w'
            go_simp
            with_reducible rfl
          rotate_left
          · simp only [Act.put, List.setIfInBounds_toArray, List.set_cons_zero, List.set_cons_succ, i64_w, i32_w]
            rfl
          refine take_ (i := 5) (N := some 110) (v := ?_) (a' := ?_) #[true, true, true, true, true, true, true, true, true, true, false, false, false] rfl rfl (by kernel_rfl) (fun _ _ _ h => h) (Or.inl ⟨by rfl, ?_⟩) hHeld ?_ ?_
          rotate_left
          · rintro w' ⟨s0, s1, s2⟩
            go_simp
            with_reducible rfl
          rotate_left
          · simp only [Act.put, List.setIfInBounds_toArray, List.set_cons_zero, List.set_cons_succ, i64_w, i32_w]
            rfl
          refine take_ (i := 10) (N := some 115) (v := ?_) (a' := ?_) #[true, true, true, true, true, true, true, true, true, true, true, false, false] rfl rfl (by kernel_rfl) (fun _ _ _ h => h) (Or.inl ⟨by rfl, ?_⟩) hHeld ?_ ?_
          rotate_left
          · rintro w' ⟨s0, s1, s2⟩
            go_simp
            with_reducible rfl
          rotate_left
          · simp only [Act.put, List.setIfInBounds_toArray, List.set_cons_zero, List.set_cons_succ, i64_w, i32_w]
            rfl
          refine pure_ (i := 11) (N := some 116) (v := ?_) (a' := ?_) #[true, true, true, true, true, true, true, true, true, true, true, true, false] rfl rfl (by kernel_rfl) (fun _ _ _ h => h) (Or.inl ⟨by rfl, ?_⟩) ?_ ?_
          rotate_left
          · intro w'
            go_simp
            with_reducible rfl
          rotate_left
          · simp only [Act.put, List.setIfInBounds_toArray, List.set_cons_zero, List.set_cons_succ, i64_w, i32_w]
            rfl
          refine last_ (i := 12) (N := some 117) #[true, true, true, true, true, true, true, true, true, true, true, true, true] rfl rfl (by kernel_rfl) (by decide) (fun K hK => ?_)
          refine goes_ Tryz.func16 (by kernel_rfl) rfl #[.pointer (some ⟨g, 0, none⟩), .agg #[.int .i64 a.n, .slice A6 nt c6]] (by rfl) rfl rfl (by first | (simp only [List.map_toArray, List.map_cons, List.map_nil]; done) | (simp only [List.map_toArray, List.map_cons, List.map_nil]; rfl) | rfl) ?_
          with_reducible refine (HRS.out _ hHeld.1).mono ?_
          rintro e w9 ⟨rfl, h9, t9⟩
          have H9 := Lib.hid h9
          have HT9 := Lib.hid t9
          clear h9 t9
          refine ⟨_, rfl, ?_⟩
          refine hK.out _ _ ?_
          clear hK K
          refine norm_ (a' := ?_) ?_ ?_
          rotate_left
          · show Act.put _ (some 117) _ = _
            simp only [Act.put, List.setIfInBounds_toArray, List.set_cons_zero, List.set_cons_succ, i64_w, i32_w]
            rfl
          refine done_ (by kernel_rfl) ?_
          --END R17
          have HN := Lib.hid (HI.out.next H9.out (HI.out.sure.restart a.n a.tails) HT9.out (by have := sp_restart HI.out.du.ok a.n a.tails; omega) (by omega))
          clear H9 HT9 HRS
          go_wp2
          go_roundw
          case rel => exact ⟨j + 1, c + 83, _, by omega, by go_num, HN⟩
          case measure => simp [intOf]; omega
        have e4 : ((k : Int) == 8) = false := by rw [beq_eq_false_iff_ne]; omega
        have HDD := Lib.hid (deed04_u w2 _ c g D k (by omega) a _ _ wr HI.out.du HF.out HAB.out HAT.out HLE.out.2.2.1 (by have := HC2.out; omega))
        clear g3 g4
        go_wp2_with fail
        refine HDD.out.mono ?_
        rintro e w9 ⟨D9, q9, rfl, h9, r9, t9⟩
        have HN := Lib.hid (HI.out.next h9 (HI.out.sure.act HG.out.1 HG.out.2 r9) t9 (sp_act HI.out.du.ok r9) (by omega))
        clear h9 r9 t9 HDD
        go_wp2
        go_roundw
        case rel => exact ⟨j + 1, c + 3, _, by omega, by go_num, HN⟩
        case measure => simp [intOf]; omega
      · have hX3 : wr.heap[x]? = some (.cells #[.int .i64 dirN, .slice A3 n3 c3] 26 (0, 0)) := (HI.out.du.wide.block x (blk_lt HX2.out)).trans HX2.out
        have HX3 := Lib.hid hX3
        have HC2 : Hid (c ≤ 16200) := by
          have h1 := HI.out.c
          have h2 := HLA.out.len
          have h3 := HN1.out
          show _ ≤ _
          omega
        have HSP : Hid (spN D ≤ 82) := by
          have h1 := HI.out.sp
          have h2 := HLA.out.len
          have h3 := HN1.out
          show _ ≤ _
          omega
        have HT2 := Lib.hid (ti_blw HT.out HB2.out)
        have HRS := Lib.hid (HI.out.du.restart 82 dirN _ tails HSP.out (ti_blw HT2.out HI.out.du.wide) (fun hl q hq => .inl (ti_old HT2.out hl hq)) hd (by have := HL3.out; omega) (by have := HC2.out; omega))
        clear hX3
        go_wp2_with (with_reducible refine gate_ (.load 26 (.tmp 5)) rfl ?_; refine Held.of ?_)
        refine Held.out (wpList_load_row rfl 26 (.tmp 5) rfl x rfl 26 _ (0, 0) _ HX3.out Tryz.underlying26 rfl (by kernel_rfl) ?_)
        go_wp2_with fail
        refine HRS.out.mono ?_
        rintro e w9 ⟨rfl, h9, t9⟩
        have HS9 := Lib.hid (HI.out.sure.restart dirN tails)
        have H9 := Lib.hid h9
        have HY9 : Hid (w9.heap[y]? = some (statO b.length tm)) := (t9 y rfl).trans HI.out.stat
        have HRD := Lib.hid (h9.read ownN (by decide))
        clear h9 t9 HRS
        go_wp2_with fail
        refine HRD.out.mono ?_
        rintro e w10 hp
        obtain ⟨v10, rfl, o10⟩ := read_some hp rfl HS9.out.dir.at_
        rw [HS9.out.file] at o10
        obtain ⟨A10, n10, c10, rfl, hn10⟩ := o10.slice
        have HO10 := Lib.hid o10
        have HST := Lib.hid ((H9.out.below o10.below).stat ownN (by decide))
        clear hp o10 hn10 HRD
        go_wp2_with fail
        refine HST.out.mono ?_
        rintro e w11 hp
        obtain ⟨rfl, b11⟩ := stat_some hp rfl HS9.out.dir.at_
        rw [HS9.out.file]
        obtain ⟨z, hz⟩ : ∃ z, w11.heap.size = z := ⟨_, rfl⟩
        obtain ⟨W12, hW12⟩ : ∃ W, W = w11.alloc (.cells #[.int .i64 (b.length : Int), .int .i64 (tm : Int)] 36) := ⟨_, rfl⟩
        have hs12 : W12.heap[z]? = some (statO b.length tm) := by rw [hW12]; exact alloc_at w11 _ hz
        have hb12 : Below w10.heap.size w10 W12 := by rw [hW12]; exact below_alloc b11 _
        have hb9 : Below w9.heap.size w9 W12 := HO10.out.below.trans (hb12.mono HO10.out.below.size)
        have hy12 : W12.heap[y]? = some (statO b.length tm) := (hb9.block y (blk_lt HY9.out)).trans HY9.out
        have HW12 := Lib.hid hW12
        have z0 := blk_cell hs12 0
        have z1 := blk_cell hs12 1
        have y0 := blk_cell hy12 0
        have y1 := blk_cell hy12 1
        have hw := (H9.out.below hb9).wide
        have HB12 : Hid (Below w.heap.size w W12) := HB2.out.trans (hw.mono HB2.out.size)
        have s1 := str_of (HO10.out.bs.below hb12)
        have s2 := str_of (HU2.out.below hw)
        have s3 : ((strOfNums b).toList == (strOfNums b).toList) = true := beq_self_eq_true _
        clear hp b11 HST hW12 hs12 hb12 hb9 hy12 hw
        go_upto_region 21 with (fail)
        rw [← HW12.out]
        clear hz
        go_wp2_with fail
        refine (awake04 W12).mono ?_
        rintro e w13 ⟨rfl, b13⟩
        have HB13 := Lib.hid (HB12.out.trans (b13.mono HB12.out.size))
        clear s1 s2 s3 z0 z1 y0 y1 b13
        go_wp2
        go_ret
        exact ⟨rfl, HB13.out⟩
end Go.Proofs.YtononoakdebjeaaGreatDoor.Dk
