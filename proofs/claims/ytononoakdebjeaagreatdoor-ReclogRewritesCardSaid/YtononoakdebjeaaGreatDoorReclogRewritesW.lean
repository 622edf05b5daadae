/- What is rewritten is there, and sure (walk of the statement). -/
import Derived.Test.YtononoakdebjeaaGreatDoorReclogSpareW
import Derived.Test.YtononoakdebjeaaGreatDoorRecLong
import Derived.RegionTactic
import Derived.BigRegion
namespace Go.Proofs.YtononoakdebjeaaGreatDoor.Rec
open Go.RowKit Go.Proofs.YtononoakdebjeaaGreatDoorW.PrintWords Go.Proofs.YtononoakdebjeaaGreatDoorW.PrintLast Go.Proofs.YtononoakdebjeaaGreatDoor.Base Go.Proofs.YtononoakdebjeaaGreatDoor.Path Go.Proofs.YtononoakdebjeaaGreatDoor.Pack Go.Proofs.YtononoakdebjeaaGreatDoor.Dk Go.Maps
set_option linter.unusedVariables false
set_option linter.unusedSimpArgs false
theorem ti_belowR {w w' : World} {v : Value} {l : List Int} (h : Ti w v l) (hb : Below w.heap.size w w') : Ti w' v l := by
  obtain ⟨A, c, rfl, h1, h2, h3⟩ := h
  refine ⟨A, c, rfl, h1, h2, fun hl => ?_⟩
  obtain ⟨ad, e, h4⟩ := h3 hl
  exact ⟨ad, e, fun i hi => pw_cell_below hb (h4 i hi)⟩
theorem ti_oldR {w : World} {v : Value} {l : List Int} (h : Ti w v l) (hl : 0 < l.length) {k : Nat} (hk : v.ownBlock = some k) : k < w.heap.size := by
  obtain ⟨A, c, rfl, h1, h2, h3⟩ := h
  obtain ⟨ad, rfl, h4⟩ := h3 hl
  have h5 := h4 0 hl
  have hk : ad.block = k := Option.some.inj hk
  have e := Dk.add_block ad 0
  by_cases hlt : k < w.heap.size
  · exact hlt
  · exfalso
    have h6 : w.heap[(ad.add 0).block]? = none := by rw [e, hk]; exact Array.getElem?_eq_none (by omega)
    unfold World.cell? at h5
    rw [h6] at h5
    cases h5
/-- While records are appended. -/
structure AppW (w0 : World) (T : Nat → Prop) (g l j : Nat) (ps : List (List Int)) (i : Nat) (wr : World) (c : Nat) (D : DiskV) : Prop where
  du : DU w0 T c wr g D
  log : LogAt T wr l g logN 1
  one : ∃ s t, OneI 16777216 logN j ⟨headBytes 1 ++ frames (ps.take i), s, t⟩ false D
  armed : D.armed = -1
  c : c ≤ 7 + 12 * i
theorem zeros_bs {w0 W : World} (h : Below w0.heap.size w0 W) : Bs (W.alloc (.cells (madeCells #[.int .u8 0] 4097) 5)) (.slice (some ⟨W.heap.size, 0, none⟩) 4097 4097) (List.replicate 4097 0) :=
  (Ow.made h 4097 (by decide)).bs
theorem mk_zeros (W : World) : (Instr.makeSlice 23 (.int .i64 4097) (.int .i64 4097)).run Tryz.prog W = .ok (.slice (some ⟨W.heap.size, 0, none⟩) 4097 4097) (W.alloc (.cells (madeCells #[.int .u8 0] 4097) 5)) :=
  print_make (P := Tryz.prog) 23 5 .u8 1 Tryz.underlying23 info_u8 (by decide) 4097 (by omega) W
set_option maxRecDepth 100000 in
set_option maxHeartbeats 4000000 in
theorem ReclogRewrites_any (v u vt : Value) (ps qs : List (List Int)) (dirN : Int) (tails : List Int) (w : World) (hv : Rs w v ps) (hb : AllBytes ps) (hu : Rs w u qs) (hb2 : AllBytes qs) (ht : Ti w vt tails) (hd : -9223372036854775808 ≤ dirN ∧ dirN ≤ 9223372036854775807) :
    Calls Tryz.prog 7 #[v, u, .agg #[.int .i64 dirN, vt]] w fun e w' => e = .returned (.bool true) ∧ Below w.heap.size w w' := by
  obtain ⟨x, hx⟩ : ∃ x, w.heap.size = x := ⟨_, rfl⟩
  obtain ⟨W1, hW⟩ : ∃ W, W = w.alloc (.cells #[.int .i64 dirN, vt] 26) := ⟨_, rfl⟩
  have hX : W1.heap[x]? = some (.cells #[.int .i64 dirN, vt] 26 (0, 0)) := by rw [hW]; exact alloc_at w _ hx
  have hB : Below w.heap.size w W1 := by rw [hW]; exact below_alloc (Below.refl _ _) _
  have HLI := Lib.hid (light_any v ps W1 (hv.below hB))
  have HLJ := Lib.hid (light_any u qs W1 (hu.below hB))
  have HV := Lib.hid hv
  have HU := Lib.hid hu
  have HT := Lib.hid ht
  have HAP := Lib.hid hb
  have HAQ := Lib.hid hb2
  obtain ⟨A1, c1, rfl, hc1, hm1, hC⟩ := hv
  obtain ⟨n1, hn1⟩ : ∃ n, n = ps.length := ⟨_, rfl⟩
  rw [← hn1] at HLI hm1 hC HV ⊢
  obtain ⟨A2, n2, c2, rfl, hn2⟩ : ∃ A n c, u = .slice A n c ∧ n = qs.length := by obtain ⟨A, c, rfl, _⟩ := hu; exact ⟨A, _, c, rfl, rfl⟩
  obtain ⟨A3, n3, c3, rfl, hn3⟩ : ∃ A n c, vt = .slice A n c ∧ n = tails.length := by obtain ⟨A, c, rfl, _⟩ := ht; exact ⟨A, _, c, rfl, rfl⟩
  have HN1 := Lib.hid hn1
  have HN3 := Lib.hid hn3
  have HC := Lib.hid hC
  have HX := Lib.hid hX
  have HW := Lib.hid hW
  have HB := Lib.hid hB
  have k1 := blk_cell hX 1
  have k1 : W1.cell? ⟨x, 1, none⟩ = some (.slice A3 n3 c3) := k1
  clear hX hW hB hu ht hn1 hn2 hn3 hb hb2 hC hc1
  go_enter Tryz.func7, Tryz.ntmps7
  go_upto_region 1 with (fail)
  rw [← HW.out]
  clear hx
  go_wp2_with fail
  refine HLI.out.mono ?_
  rintro e w2 ⟨hli, rfl⟩
  rcases hli with ⟨rfl, hL⟩ | rfl
  rotate_left
  · go_wp2
    go_ret
    exact ⟨rfl, HB.out⟩
  have HL := Lib.hid hL
  clear hL HLI
  go_wp2_with fail
  refine HLJ.out.mono ?_
  rintro e w3 ⟨hli, rfl⟩
  rcases hli with ⟨rfl, hL⟩ | rfl
  rotate_left
  · go_wp2
    go_ret
    exact ⟨rfl, HB.out⟩
  have HL2 := Lib.hid hL
  clear hL HLJ
  by_cases l2 : 20 < n3
  · have d3 : decide ((20 : Int) < (n3 : Int)) = true := decide_eq_true (by omega)
    have d4 : decide (20 < n3) = true := decide_eq_true l2
    clear l2
    go_wp2
    go_ret
    exact ⟨rfl, HB.out⟩
  have d3 : decide ((20 : Int) < (n3 : Int)) = false := decide_eq_false (by omega)
  have d4 : decide (20 < n3) = false := decide_eq_false l2
  have HL3 : Hid (tails.length ≤ 20) := by rw [← HN3.out]; show _ ≤ _; omega
  have hFL : ∀ rs : List (List Int), Light rs → AllBytes rs → fileBytes 1 rs = headBytes 1 ++ frs rs ∧ 8 ≤ (fileBytes 1 rs).length ∧ (fileBytes 1 rs).length ≤ 60000 ∧ Bytes (fileBytes 1 rs) ∧ scanRes 1 (fileBytes 1 rs) = (rs, (fileBytes 1 rs).length, 0) := fun rs hl hb => by
    have h1 := frames_len (fun r hr => hl.short r hr)
    have h2 := hl.few
    refine ⟨by unfold fileBytes; rw [frs_eq], by rw [file_len]; omega, by rw [file_len]; have : (500 + 8) * rs.length ≤ 508 * 30 := Nat.mul_le_mul_left 508 h2; omega, file_bytes (by decide) (by decide) hb, scan_file 1 rs (fun r hr => Nat.le_trans (hl.short r hr) (by decide)) hb⟩
  have HFL := Lib.hid (hFL qs HL2.out HAQ.out)
  have HNW := Lib.hid (new_q (B := W1.heap.size) 16777216 (by omega) W1 (Nat.le_refl _))
  clear l2 hFL
  go_wp2_with fail
  refine HNW.out.mono ?_
  rintro e w4 ⟨g, rfl, q4, b4⟩
  have HD4 : Hid (DU W1 (fun _ => False) 1 w4 g (newV 16777216 fun _ => ⟨[], 0, 0⟩)) := DU.start q4 b4
  have HOP := Lib.hid (open_any W1 _ 1 g _ logN 1 w4 HD4.out (by decide) (by decide) (by decide) (fun _ x hx => by cases hx) (by decide))
  clear q4 b4 HNW k1
  go_wp2_with fail
  refine HOP.out.mono ?_
  rintro e w5 ⟨D5, k5, rs5, U, hU, h5, t5, r5, hk⟩
  obtain ⟨rfl, rfl, j5, o5, a5, _⟩ := open_none (NoneI.new 16777216 _) (by decide) right_log logN_no (by decide) r5
  rcases hk with ⟨h0, _⟩ | ⟨_, l, v5, rfl, l5, u5⟩
  · exact absurd rfl h0
  obtain ⟨T, hT⟩ : ∃ T : Nat → Prop, T = fun q => False ∨ U q := ⟨_, rfl⟩
  rw [← hT] at h5
  have l5 : LogAt T w5 l g logN 1 := by rw [hT]; exact l5.sub fun q hq => .inr hq
  have HA0 : Hid (AppW W1 T g l j5 ps 0 w5 7 D5) := ⟨h5, l5, ⟨_, _, by simpa [frames] using o5⟩, a5.trans (count_minus rfl), by decide⟩
  clear h5 t5 r5 o5 a5 l5 hT u5 hU HOP HD4
  go_upto_region 9 with (fail)
  go_wp2
  go_loopw [12] (fun i wr => ∃ (q c : Nat) (D : DiskV), q ≤ n1 ∧ i = .int .i64 q ∧ Hid (AppW W1 T g l j5 ps q wr c D)) (fun i _ => n1 - (intOf i).toNat)
  case atStart => exact ⟨0, 7, D5, Nat.zero_le _, rfl, HA0⟩
  case round =>
    obtain ⟨q, c, D, hq, rfl, HI⟩ := hrel
    by_cases l1 : q < n1
    · obtain ⟨ad, e1, f1⟩ := HC.out (by omega)
      subst e1
      obtain ⟨z, q1, hz⟩ := f1 q l1
      have hql : q < ps.length := by rw [← HN1.out]; exact l1
      have hmem : ps.getD q [] ∈ ps := by rw [List.getD_eq_getElem?_getD, List.getElem?_eq_getElem hql]; exact List.getElem_mem hql
      have hwr : Below w.heap.size w wr := HB.out.trans (HI.out.du.wide.mono HB.out.size)
      have q2 := pw_cell_below hwr q1
      have HAPP := Lib.hid (append_u z (ps.getD q []) HI.out.du HI.out.log (by decide) (hz.below hwr) (HAP.out _ hmem) (Nat.le_trans (HL.out.short _ hmem) (by decide)) (by have := HI.out.c; have := HL.out.few; omega))
      have HNX : Hid (frames (ps.take (q + 1)) = frames (ps.take q) ++ frameBytes (ps.getD q [])) := frames_snoc ps q hql
      have HFN : Hid ((headBytes 1 ++ frames (ps.take q)).length + (frameBytes (ps.getD q [])).length ≤ 65536) := by
        have h1 := frames_len (rs := ps.take q) (m := 500) (fun r hr => HL.out.short r (List.mem_of_mem_take hr))
        have h2 : (ps.take q).length ≤ 30 := by rw [List.length_take]; have := HL.out.few; omega
        have h3 := HL.out.short _ hmem
        have h4 : (500 + 8) * (ps.take q).length ≤ 508 * 30 := Nat.mul_le_mul_left 508 h2
        show _ ≤ _
        rw [List.length_append, frameBytes_length, show (headBytes 1).length = 8 from rfl]
        omega
      obtain ⟨B1, m1, rfl, _, _⟩ := hz.len
      clear f1 q1 hz hmem hwr hql
      go_wp2_with fail
      refine HAPP.out.mono ?_
      rintro e w6 ⟨D6, k6, rfl, h6, r6, t6⟩
      obtain ⟨s0, t0, o6⟩ := HI.out.one
      obtain ⟨rfl, o7, a7, _⟩ := o6.appendD (by rw [HI.out.armed]; decide) right_log HFN.out (Nat.le_trans HFN.out (by decide)) r6
      have HN : Hid (AppW W1 T g l j5 ps (q + 1) w6 (c + 12) D6) := ⟨h6, HI.out.log.kpt t6, ⟨_, _, by rw [HNX.out, ← List.append_assoc]; exact o7⟩, a7.trans (count_minus HI.out.armed), by have := HI.out.c; omega⟩
      clear h6 r6 t6 o6 o7 a7 HAPP q2
      go_wp2
      go_roundw
      case rel => exact ⟨q + 1, c + 12, D6, by omega, by go_num, HN⟩
      case measure => simp [intOf]; omega
    · have HCC : Hid (c ≤ 367) := by have h1 := HI.out.c; have h2 := HL.out.few; have h3 := HN1.out; show _ ≤ _; omega
      have hw0 := HI.out.du.wide
      have kz := mk_zeros wr
      obtain ⟨y, hy⟩ : ∃ y, wr.heap.size = y := ⟨_, rfl⟩
      obtain ⟨W7, hW7⟩ : ∃ W, W = wr.alloc (.cells (madeCells #[.int .u8 0] 4097) 5) := ⟨_, rfl⟩
      have HB7 : Hid (Below wr.heap.size wr W7) := by rw [hW7]; exact below_alloc (Below.refl _ _) _
      have HZ7 : Hid (Bs W7 (.slice (some ⟨y, 0, none⟩) 4097 4097) (List.replicate 4097 0)) := by rw [hW7, ← hy]; exact zeros_bs hw0
      rw [hy, ← hW7] at kz
      have HQ7 : Hid (Rs W7 (.slice A2 n2 c2) qs) := HU.out.below (HB.out.trans ((hw0.trans (HB7.out.mono hw0.size)).mono HB.out.size))
      clear hw0 hW7 hy
      go_wp2_with (at_builtin; refine Held.of ?_)
      refine app_rows (W0 := W7) rfl (.tmp 63) (.tmp 64) 53 rfl Tryz.underlying53 _ _ _ _ qs rfl rfl HQ7.out (by have := HL2.out.few; omega) ?_
      intro b c8 w8 b8 z8
      obtain ⟨m9, hm9⟩ : ∃ m, m = 1 + qs.length := ⟨_, rfl⟩
      rw [← hm9]
      have hb8 := HB7.out.trans (b8.mono HB7.out.size)
      have HB8 := Lib.hid hb8
      have hl8 := (HI.out.log.below hb8).2
      have HRL := Lib.hid (rewrite_long l g logN 1 ⟨b, 0, none⟩ m9 c8 _ _ w8 hl8 (by omega) (by have := HL2.out.few; omega) z8 (HZ7.out.below b8) (by simp))
      clear b8 z8 hm9 hb8 hl8 kz
      go_wp2_with fail
      refine HRL.out.mono ?_
      rintro e w9 ⟨rfl, b9⟩
      obtain ⟨y2, hy2⟩ : ∃ y, w9.heap.size = y := ⟨_, rfl⟩
      obtain ⟨W10, hW10⟩ : ∃ W, W = w9.alloc (.cells (madeCells #[.int .u8 0] 4097) 5) := ⟨_, rfl⟩
      have hb10 : Below wr.heap.size wr W10 := by rw [hW10]; exact below_alloc (HB8.out.trans (b9.mono HB8.out.size)) _
      have HB10 := Lib.hid hb10
      have hz10 : Bs W10 (.slice (some ⟨y2, 0, none⟩) 4097 4097) (List.replicate 4097 0) := by rw [hW10, ← hy2]; exact zeros_bs (Below.refl _ w9)
      have HAL := Lib.hid (append_long l g logN 1 _ _ W10 (HI.out.log.below hb10).2 hz10 (by simp))
      have kz2 := mk_zeros w9
      rw [hy2, ← hW10] at kz2
      clear b9 hb10 hz10 hW10 hy2 HRL
      go_wp2_with fail
      refine HAL.out.mono ?_
      rintro e w11 ⟨rfl, rfl⟩
      have hd11 := HI.out.du.below HB10.out
      have HRW := Lib.hid (rewrite_u _ qs hd11 (HI.out.log.below HB10.out) (by decide) (HU.out.below (HB.out.trans (hd11.wide.mono HB.out.size))) HAQ.out (fun r hr => Nat.le_trans (HL2.out.short r hr) (by decide)) (by have := HL2.out.few; omega) (by have := HCC.out; omega))
      have HK := Lib.hid hd11.ok
      clear hd11 kz2 HAL
      go_wp2_with fail
      refine HRW.out.mono ?_
      rintro e w12 ⟨D6, k6, rfl, h6, r6, t6⟩
      rw [newName_log, ← HFL.out.1] at r6
      obtain ⟨s0, t0, o6⟩ := HI.out.one
      obtain ⟨rfl, up6, qu6, i6, tm6, s6, p6, sd6, nn6⟩ := rew_told HK.out ⟨o6.down, HI.out.armed⟩ (by rw [o6.dir]; simp) (by rw [o6.quota]; decide) right_log right_lognew logN_no newN_no newN_log (by have := HFL.out.2.2.1; omega) r6
      have sp6 : SpI (fileBytes 1 qs) tm6 i6 D6 := by
        refine ⟨s6, ⟨fun p hp => ?_, by rw [p6]; exact fun c hc => (by cases hc)⟩, by rw [qu6, o6.quota]; decide⟩
        rw [sd6] at hp
        rcases nn6 p hp with e | ⟨q, hq, e⟩
        · rw [e]; exact mem_log
        · rw [o6.dir] at hq
          rw [← e, List.mem_singleton.1 hq]
          exact mem_log
      have HS6 := Lib.hid sp6
      have hX6 : w12.heap[x]? = some (.cells #[.int .i64 dirN, .slice A3 n3 c3] 26 (0, 0)) := (h6.wide.block x (blk_lt HX.out)).trans HX.out
      have HX6 := Lib.hid hX6
      have HT1 := Lib.hid (ti_belowR HT.out HB.out)
      have HRS := Lib.hid (h6.restart (c + 12) dirN _ tails h6.ok.few (ti_belowR HT1.out h6.wide) (fun hl q hq => .inl (ti_oldR HT1.out hl hq)) hd (by have := HL3.out; omega) (by have := HCC.out; omega))
      clear h6 r6 t6 o6 up6 qu6 s6 p6 sd6 nn6 sp6 hX6 HRW
      go_wp2_with (with_reducible refine gate_ (.load 26 (.tmp 5)) rfl ?_; refine Held.of ?_)
      refine Held.out (wpList_load_row rfl 26 (.tmp 5) rfl x rfl 26 _ (0, 0) _ HX6.out Tryz.underlying26 rfl (by kernel_rfl) ?_)
      go_wp2_with fail
      refine HRS.out.mono ?_
      rintro e w13 ⟨rfl, h13, t13⟩
      have HS13 : Hid (SpI (fileBytes 1 qs) tm6 i6 (restartV D6 dirN tails)) := ⟨HS6.out.sure.restart dirN tails, HS6.out.nam.restart dirN tails, by rw [quota_restart]; exact HS6.out.quota⟩
      have HK13 := Lib.hid h13.ok
      have HOP := Lib.hid (open_any W1 T _ g _ logN 1 w13 h13 (by decide) (by decide) (by decide) (fun _ => by rw [bytesAt_some HS13.out.sure.dir.at_, HS13.out.sure.file]; exact HFL.out.2.2.2.1) (by have := HCC.out; omega))
      clear h13 t13 HRS
      go_wp2_with fail
      refine HOP.out.mono ?_
      rintro e w14 ⟨D14, k14, rs14, U3, hU3, h14, t14, r14, hk⟩
      obtain ⟨rfl, rfl, u14, n14⟩ := sure_told HS13.out.sure HFL.out.2.2.2.2 HK13.out (up_restart _ _ _) (by have := HS13.out.len HK13.out; omega) HS13.out.quota right_log (by rw [newName_log]; exact right_lognew) logN_no r14
      rcases hk with ⟨h0, _⟩ | ⟨_, l14, v14, rfl, hl14, hu14⟩
      · exact absurd rfl h0
      have HB14 : Hid (Below w.heap.size w w14) := HB.out.trans (h14.wide.mono HB.out.size)
      have HSM := Lib.hid (same_true _ _ _ _ hu14.rs (HU.out.below HB14.out))
      obtain ⟨A14, n14', c14, rfl, hn14⟩ : ∃ A n c, v14 = .slice A n c ∧ n = rs14.length := by obtain ⟨A, c, rfl, _⟩ := hu14.rs; exact ⟨A, _, c, rfl, rfl⟩
      clear h14 t14 r14 hl14 hu14 hU3 u14 n14 hn14 HOP
      go_wp2_with fail
      refine HSM.out.mono ?_
      rintro e w15 ⟨rfl, b15⟩
      have HB15 : Hid (Below w.heap.size w w15) := HB14.out.trans (b15.mono HB14.out.size)
      clear b15 HSM
      go_wp2_with fail
      refine (awake_any w15).mono ?_
      rintro e w16 ⟨rfl, b16⟩
      have HB16 := Lib.hid (HB15.out.trans (b16.mono HB15.out.size))
      clear b16
      go_wp2
      go_ret
      exact ⟨rfl, HB16.out⟩
end Go.Proofs.YtononoakdebjeaaGreatDoor.Rec
