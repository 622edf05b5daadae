/- A spare file that a crash left is gone behind the next opening (walk of the statement). -/
import Derived.Test.YtononoakdebjeaaGreatDoorRecLawQ
import Derived.Test.YtononoakdebjeaaGreatDoorRecAwake
namespace Go.Proofs.YtononoakdebjeaaGreatDoor.Rec
open Go.RowKit Go.Proofs.YtononoakdebjeaaGreatDoorW.PrintWords Go.Proofs.YtononoakdebjeaaGreatDoorW.PrintLast Go.Proofs.YtononoakdebjeaaGreatDoor.Base Go.Proofs.YtononoakdebjeaaGreatDoor.Path Go.Proofs.YtononoakdebjeaaGreatDoor.Pack Go.Proofs.YtononoakdebjeaaGreatDoor.Dk Go.Maps
set_option linter.unusedVariables false
set_option linter.unusedSimpArgs false
theorem ti_nil (w : World) : Ti w (.slice none 0 0) [] := ⟨none, 0, rfl, rfl, by simp, fun h => absurd h (Nat.lt_irrefl 0)⟩
theorem OpenP.any {w0 w w' : World} {T : Nat → Prop} {c g : Nat} {nm : ByteArray} {kd : Int} {D : DiskV} {e : Ending} (h : OpenP w0 T c g nm kd D w e w') : ∃ val D' k rs, ∃ U : Nat → Prop, e = .returned val ∧ DU w0 (fun q => T q ∨ U q) (c + 6) w' g D' ∧ OpenR kd nm D D' k rs := by
  obtain ⟨D', k, rs, U, _, h1, _, h2, ⟨_, rfl⟩ | ⟨_, l, v, rfl, _⟩⟩ := h
  · exact ⟨_, D', k, rs, U, rfl, h1, h2⟩
  · exact ⟨_, D', k, rs, U, rfl, h1, h2⟩
theorem mem_no : noName ∈ Ns3 := .head _
theorem mem_log : logN ∈ Ns3 := .tail _ (.head _)
theorem mem_new : newN ∈ Ns3 := .tail _ (.tail _ (.head _))
/-- The disk, once the log has been rewritten. -/
structure SpI (b : List Int) (t i : Nat) (D : DiskV) : Prop where
  sure : SureI logN b t i D
  nam : NamI Ns3 D
  quota : 1048576 ≤ D.quota
theorem SpI.len {b : List Int} {t i c : Nat} {D : DiskV} (h : SpI b t i D) (ho : OkD c D) : D.dir.length ≤ 3 := h.nam.len ho
set_option maxRecDepth 100000 in
set_option maxHeartbeats 4000000 in
theorem ReclogSpare_any (v u : Value) (ps : List (List Int)) (b : List Int) (arm : Nat) (w : World) (hv : Rs w v ps) (hb : AllBytes ps) (hu : Bs w u b) (ha : arm ≤ 255) :
    Calls Tryz.prog 6 #[v, u, .int .u8 (arm : Int)] w fun e w' => e = .returned (.bool true) ∧ Below w.heap.size w w' := by
  have HLI := Lib.hid (light_any v ps w hv)
  have HV := Lib.hid hv
  have HU := Lib.hid hu
  have HAB := Lib.hid hb
  obtain ⟨A1, n1, c1, rfl, hn1⟩ : ∃ A n c, v = .slice A n c ∧ n = ps.length := by obtain ⟨A, c, rfl, _⟩ := hv; exact ⟨A, _, c, rfl, rfl⟩
  obtain ⟨A2, n2, c2, rfl, hn2⟩ : ∃ A n c, u = .slice A n c ∧ n = b.length := by obtain ⟨A, c, rfl, _⟩ := hu; exact ⟨A, _, c, rfl, rfl⟩
  have HN2 := Lib.hid hn2
  clear hv hu hn1 hn2 hb
  go_enter Tryz.func6, Tryz.ntmps6
  go_wp2_with fail
  refine HLI.out.mono ?_
  rintro e w1 ⟨hli, rfl⟩
  rcases hli with ⟨rfl, hL⟩ | rfl
  rotate_left
  · go_wp2
    go_ret
    exact ⟨rfl, Below.refl _ _⟩
  have HL := Lib.hid hL
  clear hL HLI
  by_cases l1 : 500 < n2
  · have d1 : decide ((500 : Int) < (n2 : Int)) = true := decide_eq_true (by omega)
    have d2 : decide (500 < n2) = true := decide_eq_true l1
    clear l1
    go_wp2
    go_ret
    exact ⟨rfl, Below.refl _ _⟩
  have d1 : decide ((500 : Int) < (n2 : Int)) = false := decide_eq_false (by omega)
  have d2 : decide (500 < n2) = false := decide_eq_false l1
  have HBL : Hid (b.length ≤ 500) := by rw [← HN2.out]; show _ ≤ _; omega
  have HFL : Hid (fileBytes 3 ps = headBytes 3 ++ frs ps ∧ 8 ≤ (fileBytes 3 ps).length ∧ (fileBytes 3 ps).length ≤ 60000 ∧ Bytes (fileBytes 3 ps) ∧ scanRes 3 (fileBytes 3 ps) = (ps, (fileBytes 3 ps).length, 0)) := by
    have h1 := frames_len (fun r hr => HL.out.short r hr)
    have h2 := HL.out.few
    refine ⟨by unfold fileBytes; rw [frs_eq], by rw [file_len]; omega, by rw [file_len]; have : (500 + 8) * ps.length ≤ 508 * 30 := Nat.mul_le_mul_left 508 h2; omega, file_bytes (by decide) (by decide) HAB.out, scan_file 3 ps (fun r hr => Nat.le_trans (HL.out.short r hr) (by decide)) HAB.out⟩
  have HNW := Lib.hid (new_q (B := w.heap.size) 1048576 (by omega) w (Nat.le_refl _))
  clear l1
  go_wp2_with fail
  refine HNW.out.mono ?_
  rintro e w3 ⟨g, rfl, q3, b3⟩
  have HD3 : Hid (DU w (fun _ => False) 1 w3 g (newV 1048576 fun _ => ⟨[], 0, 0⟩)) := DU.start q3 b3
  have HOP := Lib.hid (open_any w _ 1 g _ logN 3 w3 HD3.out (by decide) (by decide) (by decide) (fun _ x hx => by cases hx) (by decide))
  clear q3 b3 HNW
  go_wp2_with fail
  refine HOP.out.mono ?_
  rintro e w5 ⟨D5, k5, rs5, U, hU, h5, t5, r5, hk⟩
  obtain ⟨rfl, rfl, j5, o5, a5, _⟩ := open_none (NoneI.new 1048576 _) (by decide) right_log logN_no (by decide) r5
  rcases hk with ⟨h0, _⟩ | ⟨_, l, v5, rfl, l5, u5⟩
  · exact absurd rfl h0
  have hup5 : UpA D5 := ⟨o5.down, a5.trans (count_minus rfl)⟩
  obtain ⟨T, hT⟩ : ∃ T : Nat → Prop, T = fun q => False ∨ U q := ⟨_, rfl⟩
  rw [← hT] at h5
  have l5 : LogAt T w5 l g logN 3 := by rw [hT]; exact l5.sub fun q hq => .inr hq
  have HRW := Lib.hid (rewrite_u _ ps h5 l5 (by decide) (HV.out.below h5.wide) HAB.out (fun r hr => Nat.le_trans (HL.out.short r hr) (by decide)) (by have := HL.out.few; omega) (by decide))
  have HO5 := Lib.hid (And.intro h5.ok (And.intro hup5 o5))
  clear h5 t5 r5 o5 a5 l5 hT u5 hU hup5 HOP HD3
  go_wp2_with fail
  refine HRW.out.mono ?_
  rintro e w6 ⟨D6, k6, rfl, h6, r6, t6⟩
  rw [newName_log, ← HFL.out.1] at r6
  obtain ⟨rfl, up6, qu6, i6, tm6, s6, p6, sd6, nn6⟩ := rew_told HO5.out.1 HO5.out.2.1 (by rw [HO5.out.2.2.dir]; simp) (by rw [HO5.out.2.2.quota]; exact Nat.le_refl _) right_log right_lognew logN_no newN_no newN_log (by have := HFL.out.2.2.1; omega) r6
  have sp6 : SpI (fileBytes 3 ps) tm6 i6 D6 := by
    refine ⟨s6, ⟨fun p hp => ?_, by rw [p6]; exact fun c hc => (by cases hc)⟩, by rw [qu6, HO5.out.2.2.quota]; exact Nat.le_refl _⟩
    rw [sd6] at hp
    rcases nn6 p hp with e | ⟨q, hq, e⟩
    · rw [e]; exact mem_log
    · rw [HO5.out.2.2.dir] at hq
      rw [← e, List.mem_singleton.1 hq]
      exact mem_log
  have HS6 := Lib.hid sp6
  have HU6 := Lib.hid up6
  have HWR := Lib.hid (h6.write newN _ b (by decide) (BU.old h6 HU.out) (by have := HBL.out; omega) (by decide))
  have HK6 := Lib.hid h6.ok
  clear h6 r6 t6 up6 qu6 s6 p6 sd6 nn6 sp6 HRW HO5
  go_wp2_with fail
  refine HWR.out.mono ?_
  rintro e w7 ⟨D7, k7, rfl, h7, r7, t7⟩
  have pl7 : Plain (countV D6) := UpA.plain (Plain.of HK6.out)
  obtain ⟨rfl, j7, f7⟩ := fresh_told pl7 newN_no (fits_zero pl7 (by have := HBL.out; omega) (by have := HS6.out.len HK6.out; show D6.dir.length ≤ 10; omega) HS6.out.quota) (HU6.out.deed right_lognew r7)
  have HS7 : Hid (SpI (fileBytes 3 ps) tm6 i6 D7) := ⟨HS6.out.sure.deed (fun _ _ _ h h2 => h.fresh newN_log h2) r7, HS6.out.nam.deed (fun k hb => (HS6.out.nam.same (D' := countV D6) rfl rfl).fresh mem_new hb) r7, by have := f7.quota; rw [this]; exact HS6.out.quota⟩
  have HU7 : Hid (UpA D7) := ⟨f7.down.trans HU6.out.down, f7.armed.trans (count_minus HU6.out.armed)⟩
  have HK7 := Lib.hid h7.ok
  have HSD := Lib.hid (h7.syncDir (by decide))
  clear h7 r7 t7 pl7 f7 HWR
  go_wp2_with fail
  refine HSD.out.mono ?_
  rintro e w8 ⟨D8, k8, rfl, h8, r8, t8⟩
  have r8' := HU7.out.deed rfl r8
  obtain rfl : k8 = 0 := r8'.2
  have HS8 : Hid (SpI (fileBytes 3 ps) tm6 i6 D8) := ⟨HS7.out.sure.deed (fun _ _ _ h h2 => h.syncDir h2) r8, by
      rw [r8'.1]
      exact ⟨HS7.out.nam.dirs HK7.out, fun c hc => (by cases hc)⟩, by rw [r8'.1]; exact HS7.out.quota⟩
  obtain ⟨am, ham⟩ : ∃ am : Int, am = (arm : Int) % 3 := ⟨_, rfl⟩
  have HAR := Lib.hid (h8.arm am (by omega))
  have HAM := Lib.hid ham
  clear h8 r8 r8' t8 HSD ham
  go_wp2_with fail
  rw [← HAM.out]
  refine HAR.out.mono ?_
  rintro e w9 ⟨rfl, h9, t9⟩
  have HS9 : Hid (SpI (fileBytes 3 ps) tm6 i6 (armV D8 am)) := ⟨HS8.out.sure.arm am, HS8.out.nam.same rfl rfl, HS8.out.quota⟩
  have HOP := Lib.hid (open_any w T _ g _ logN 3 w9 h9 (by decide) (by decide) (by decide) (fun _ => by rw [bytesAt_some HS9.out.sure.dir.at_, HS9.out.sure.file]; exact HFL.out.2.2.2.1) (by decide))
  clear h9 t9 HAR
  go_wp2_with fail
  refine HOP.out.mono ?_
  rintro e w10 hp
  obtain ⟨val, D10, k10, rs10, U2, rfl, h10, r10⟩ := hp.any
  have HS10 : Hid (SpI (fileBytes 3 ps) tm6 i6 D10) := ⟨sure_open HS9.out.sure HFL.out.2.2.2.2 HFL.out.2.1 r10, HS9.out.nam.open_ mem_no mem_log r10, by rw [quota_open r10]; exact HS9.out.quota⟩
  obtain ⟨c10, hc10⟩ : ∃ c10, c10 = 1 + 6 + 12 + 3 + 3 + 6 := ⟨_, rfl⟩
  obtain ⟨T2, hT2⟩ : ∃ T2 : Nat → Prop, T2 = fun q => T q ∨ U2 q := ⟨_, rfl⟩
  rw [← hT2] at h10
  have h10 : DU w T2 c10 w10 g D10 := h10.more (by omega)
  have HK10 := Lib.hid h10.ok
  have HRS := Lib.hid (h10.restart c10 0 (.slice none 0 0) [] h10.ok.few (ti_nil w10) (fun h => absurd h (Nat.lt_irrefl 0)) (by decide) (by decide) (by omega))
  have HC10 : Hid (c10 ≤ 31) := by show _ ≤ _; omega
  clear h10 hp r10 hT2 hc10 HOP
  go_wp2_with fail
  --S1
  refine HRS.out.mono ?_
  rintro e w11 ⟨rfl, h11, t11⟩
  have HS11 : Hid (SpI (fileBytes 3 ps) tm6 i6 (restartV D10 0 [])) := ⟨HS10.out.sure.restart 0 [], HS10.out.nam.restart 0 [], by rw [quota_restart]; exact HS10.out.quota⟩
  have HK11 := Lib.hid h11.ok
  have HOP := Lib.hid (open_any w T2 _ g _ logN 3 w11 h11 (by decide) (by decide) (by decide) (fun _ => by rw [bytesAt_some HS11.out.sure.dir.at_, HS11.out.sure.file]; exact HFL.out.2.2.2.1) (by have := HC10.out; omega))
  clear h11 t11 HRS
  go_wp2_with fail
  refine HOP.out.mono ?_
  rintro e w12 ⟨D12, k12, rs12, U3, hU3, h12, t12, r12, hk⟩
  obtain ⟨rfl, rfl, u12, n12⟩ := sure_told HS11.out.sure HFL.out.2.2.2.2 HK11.out (up_restart _ _ _) (by have := HS11.out.len HK11.out; omega) HS11.out.quota right_log (by rw [newName_log]; exact right_lognew) logN_no r12
  rw [newName_log] at n12
  rcases hk with ⟨h0, _⟩ | ⟨_, l12, v12, rfl, hl12, hu12⟩
  · exact absurd rfl h0
  have HR12 := Lib.hid hu12.rs
  have HST := Lib.hid (h12.stat newN (by decide))
  have HUN := Lib.hid (And.intro u12.down n12)
  have HB12 : Hid (Below w.heap.size w w12) := h12.wide
  obtain ⟨A12, n12', c12, rfl, hn12⟩ : ∃ A n c, v12 = .slice A n c ∧ n = rs12.length := by obtain ⟨A, c, rfl, _⟩ := hu12.rs; exact ⟨A, _, c, rfl, rfl⟩
  clear h12 t12 r12 hl12 hu12 hU3 u12 n12 hn12 HOP
  go_wp2_with fail
  refine HST.out.mono ?_
  rintro e w13 hp
  obtain ⟨rfl, b13⟩ := stat_none hp HUN.out.1 HUN.out.2
  have HB13 : Hid (Below w12.heap.size w12 (w13.alloc (.cells #[.int .i64 0, .int .i64 0] 36))) := below_alloc b13 _
  have HBW : Hid (Below w.heap.size w (w13.alloc (.cells #[.int .i64 0, .int .i64 0] 36))) := HB12.out.trans (HB13.out.mono HB12.out.size)
  have HSM := Lib.hid (same_true _ _ _ _ (HR12.out.below HB13.out) (HV.out.below HBW.out))
  clear hp b13 HST
  go_wp2_with fail
  refine HSM.out.mono ?_
  rintro e w14 ⟨rfl, b14⟩
  have HB14 : Hid (Below w.heap.size w w14) := HBW.out.trans (b14.mono HBW.out.size)
  clear b14 HSM
  go_wp2_with fail
  refine (awake_any w14).mono ?_
  rintro e w15 ⟨rfl, b15⟩
  have HB15 := Lib.hid (HB14.out.trans (b15.mono HB14.out.size))
  clear b15
  go_wp2
  go_ret
  exact ⟨rfl, HB15.out⟩
theorem ReclogSpare_int (v u : Value) (ps : List (List Int)) (b : List Int) (arm : Int) (w : World) (hv : Rs w v ps) (hb : ∀ p ∈ ps, Bytes p) (hu : Bs w u b) (ha : (Lit.int .u8 arm).wf = true) :
    Calls Tryz.prog 6 #[v, u, .int .u8 arm] w fun e w' => e = .returned (.bool true) ∧ Below w.heap.size w w' := by
  simp [Lit.wf, IntKind.min, IntKind.max, IntKind.bits, IntKind.signed] at ha
  obtain ⟨n, rfl⟩ := Int.eq_ofNat_of_zero_le ha.1
  exact ReclogSpare_any v u ps b n w hv hb hu (by omega)
end Go.Proofs.YtononoakdebjeaaGreatDoor.Rec
