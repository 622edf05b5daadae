/- A log that is not there, or of a disk that is down (walk of the statement). -/
import Derived.Test.YtononoakdebjeaaDoorRecLawP
import Derived.Test.YtononoakdebjeaaDoorRecAwake
namespace Go.Proofs.YtononoakdebjeaaDoor.Rec
open Go.RowKit Go.Proofs.YtononoakdebjeaaDoorW.PrintWords Go.Proofs.YtononoakdebjeaaDoorW.PrintLast Go.Proofs.YtononoakdebjeaaDoor.Base Go.Proofs.YtononoakdebjeaaDoor.Path Go.Proofs.YtononoakdebjeaaDoor.Pack Go.Proofs.YtononoakdebjeaaDoor.Dk Go.Maps
set_option linter.unusedVariables false
set_option linter.unusedSimpArgs false
set_option maxRecDepth 100000 in
set_option maxHeartbeats 4000000 in
theorem ReclogNone_any (v : Value) (xs : List Int) (w : World) (hv : Bs w v xs) (hb : Bytes xs) :
    Calls Tryd.prog 4 #[v] w fun e w' => e = .returned (.bool true) ∧ Below w.heap.size w w' := by
  obtain ⟨A, n, c, rfl, hn⟩ : ∃ A n c, v = .slice A n c ∧ n = xs.length := by obtain ⟨A, c, rfl, _⟩ := hv; exact ⟨A, _, c, rfl, rfl⟩
  by_cases g1 : 4096 < n
  · have d1 : decide ((4096 : Int) < (n : Int)) = true := decide_eq_true (by omega)
    clear hn hv hb
    go_enter Tryd.func4, Tryd.ntmps4
    go_wp2
    go_ret
    exact ⟨rfl, Below.refl _ _⟩
  · have d1 : decide ((4096 : Int) < (n : Int)) = false := decide_eq_false (by omega)
    have HN : Hid (xs.length ≤ 4096) := by show _ ≤ _; omega
    have HV := Lib.hid hv
    have HB := Lib.hid hb
    clear hn hv hb g1
    go_enter Tryd.func4, Tryd.ntmps4
    go_wp2_with fail
    refine (append_nil _ w).mono ?_
    rintro e w1 ⟨rfl, rfl⟩
    go_wp2_with fail
    refine (sync_nil w1).mono ?_
    rintro e w2 ⟨rfl, b2⟩
    have HB2 := Lib.hid b2
    clear b2
    go_wp2_with fail
    refine (rewrite_nil _ _).mono ?_
    rintro e w3 ⟨rfl, b3⟩
    have HB3 : Hid (Below w1.heap.size w1 w3) := (below_alloc HB2.out _).trans (b3.mono (by have := HB2.out.size; simp; omega))
    clear b3 HB2
    have HNW := Lib.hid (new_q (B := w1.heap.size) 1048576 (by omega) w3 HB3.out.size)
    go_wp2_with fail
    refine HNW.out.mono ?_
    rintro e w4 ⟨g, rfl, q4, b4⟩
    have HD4 : Hid (DU w1 (fun _ => False) 1 w4 g (newV 1048576 fun _ => ⟨[], 0, 0⟩)) := DU.start q4 (HB3.out.trans (b4.mono HB3.out.size))
    have HOP := Lib.hid (open_any w1 _ 1 g _ logN 1 w4 HD4.out (by decide) (by decide) (by decide) (fun _ x hx => by cases hx) (by decide))
    clear q4 b4 HNW
    go_wp2_with fail
    refine HOP.out.mono ?_
    rintro e w5 ⟨D5, k5, rs5, U, hU, h5, t5, r5, hk⟩
    obtain ⟨rfl, rfl, j, o5, a5, _⟩ := open_none (NoneI.new 1048576 _) (by decide) right_log logN_no (by decide) r5
    rcases hk with ⟨h0, _⟩ | ⟨_, l, v5, rfl, l5, u5⟩
    · exact absurd rfl h0
    obtain ⟨A5, n5, c5, rfl, hn5⟩ : ∃ A n c, v5 = .slice A n c ∧ n = 0 := by obtain ⟨A, c, rfl, _⟩ := u5.rs; exact ⟨A, _, c, rfl, rfl⟩
    obtain ⟨T, hT⟩ : ∃ T : Nat → Prop, T = fun q => False ∨ U q := ⟨_, rfl⟩
    rw [← hT] at h5
    have l5 : LogAt T w5 l g logN 1 := by rw [hT]; exact l5.sub fun q hq => .inr hq
    have HL5 := Lib.hid l5
    have HAR := Lib.hid (h5.arm 0 (by decide))
    have HB5 : Hid (Below w1.heap.size w1 w5) := h5.wide
    clear h5 t5 r5 o5 a5 l5 hT u5 hU hn5 HOP HD4
    go_wp2_with fail
    refine HAR.out.mono ?_
    rintro e w6 ⟨rfl, h6, t6⟩
    have HL6 := Lib.hid (HL5.out.kpt t6)
    have HAP := Lib.hid (append_u _ xs h6 HL6.out (by decide) (HV.out.below h6.wide) HB.out HN.out (by decide))
    clear h6 t6 HAR
    go_wp2_with fail
    refine HAP.out.mono ?_
    rintro e w7 ⟨D7, k7, rfl, h7, r7, t7⟩
    obtain ⟨dn7, rfl⟩ := Dead.deed (.inr rfl) r7
    have HL7 := Lib.hid (HL6.out.kpt t7)
    have HSY := Lib.hid (sync_u h7 HL7.out (by decide) (by decide))
    have DN7 := Lib.hid dn7
    clear h7 r7 t7 dn7 HAP
    go_wp2_with fail
    refine HSY.out.mono ?_
    rintro e w8 ⟨D8, k8, rfl, h8, r8, t8⟩
    obtain ⟨dn8, rfl⟩ := Dead.sync (.inl DN7.out) r8
    have HL8 := Lib.hid (HL7.out.kpt t8)
    have HRW := Lib.hid (rewrite_u _ [] h8 HL8.out (by decide) (Rs.nil w8) (fun r hr => by cases hr) (fun r hr => by cases hr) (by decide) (by decide))
    have DN8 := Lib.hid dn8
    clear h8 r8 t8 dn8 HSY
    go_wp2_with fail
    refine HRW.out.mono ?_
    rintro e w9 ⟨D9, k9, rfl, h9, r9, t9⟩
    obtain ⟨dn9, rfl⟩ := Dead.rewrite (.inl DN8.out) r9
    have HOQ := Lib.hid (open_any w1 T _ g _ logN 1 w9 h9 (by decide) (by decide) (by decide) (fun h => by rw [dn9] at h; cases h) (by decide))
    have DN9 := Lib.hid dn9
    clear h9 r9 t9 dn9 HRW
    go_wp2_with fail
    --S1
    refine HOQ.out.mono ?_
    rintro e w10 ⟨D10, k10, rs10, U2, _, h10, _, r10, hk⟩
    obtain ⟨_, rfl⟩ := open_down DN9.out r10
    rcases hk with ⟨_, rfl⟩ | ⟨h0, _⟩
    · have HB10 := Lib.hid h10.wide
      clear h10 r10 HOQ
      go_wp2_with fail
      refine (awake_any w10).mono ?_
      rintro e w11 ⟨rfl, b11⟩
      have HB11 := Lib.hid (HB10.out.trans (b11.mono HB10.out.size))
      clear b11
      go_wp2
      go_ret
      exact ⟨rfl, HB11.out⟩
    · cases h0
end Go.Proofs.YtononoakdebjeaaDoor.Rec
