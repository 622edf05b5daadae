/- The contracts of pack.Reader's numbers and texts (walks). -/
import Derived.Test.YtinonkakpgiblaaPackRead
namespace Go.Proofs.Ytinonkakpgiblaa.Pack
open Go.RowKit Go.Proofs.YtinonkakpgiblaaW.PrintWords Go.Proofs.Ytinonkakpgiblaa.Base
set_option linter.unusedVariables false
set_option linter.unusedSimpArgs false

set_option maxHeartbeats 800000 in
theorem get32_ok (B g m : Nat) (rest : List Int) (w : World) (h : Rd B w g rest false) (hm : m ≤ rest.length) (h4 : m ≤ 4) (hb : Bytes rest) :
    Calls Try.prog 71 #[.pointer (some ⟨g, 0, none⟩), .int .i64 m] w fun e w' => e = .returned (.int .u32 (leVal (rest.take m))) ∧ Rd B w' g (rest.drop m) false ∧ Only g w w' := by
  have H := Lib.hid h
  clear h
  go_enter Try.func71, Try.ntmps71
  go_wp2_with fail
  refine (take_ok B g m rest _ H.out hm).mono ?_
  rintro e w1 ⟨u, rfl, hu, hr, ho⟩
  obtain ⟨xs, hxs⟩ : ∃ xs, rest.take m = xs := ⟨_, rfl⟩
  rw [hxs] at hu
  have hbx : Bytes xs := by rw [← hxs]; exact hb.take m
  have hlx : xs.length = m := by rw [← hxs, List.length_take]; omega
  obtain ⟨A, c, rfl, hc, hrd⟩ := hu
  have hm := hrd.2.1
  have HX := Lib.hid hxs
  have HL := Lib.hid hlx
  have HR := Lib.hid hrd
  have HD := Lib.hid hr
  have HO := Lib.hid ho
  have hx4 : xs.length ≤ 4 := by omega
  have HBX := Lib.hid hbx
  clear hxs hlx hrd hr ho hbx
  go_wp2
  go_loop [5, 13] (fun n i => ∃ k : Nat, k ≤ xs.length ∧ i = .int .i64 k ∧ n = .int .u32 (leVal (xs.take k))) (fun _ i => xs.length - (intOf i).toNat)
  case atStart => exact ⟨0, by omega, rfl, rfl⟩
  case round =>
    obtain ⟨k, hk, rfl, rfl⟩ := hrel
    by_cases hlt : k < xs.length
    · obtain ⟨ad, e1, hcell⟩ := at_nat HR.out k hlt
      cases e1
      have HS : Hid (Go.bits .or .u32 (leVal (xs.take k)) (rd xs k % 4294967296 * 2 ^ (8 * k) % 4294967296) = leVal (xs.take (k + 1))) := or32 xs k hlt hx4 HBX.out
      go_wp2
      rw [HS.out]
      go_round
      case rel => exact ⟨k + 1, by omega, by go_num, rfl⟩
      case measure => simp [intOf]; omega
    · have h8 : k = xs.length := by omega
      have HY : Hid (leVal (xs.take k) = leVal xs) := by show _ = _; rw [h8, List.take_length]
      clear h8
      go_wp2
      go_ret
      exact ⟨ret_int (by rw [HX.out]; exact HY.out), HD.out, HO.out⟩

theorem get32_short (B g m : Nat) (rest : List Int) (bad : Bool) (w : World) (h : Rd B w g rest bad) (hm : bad = true ∨ rest.length < m) :
    Calls Try.prog 71 #[.pointer (some ⟨g, 0, none⟩), .int .i64 m] w fun e w' => e = .returned (.int .u32 0) ∧ Rd B w' g [] true ∧ Only g w w' := by
  have H := Lib.hid h
  have HM := Lib.hid hm
  clear h hm
  go_enter Try.func71, Try.ntmps71
  go_wp2_with fail
  refine (take_short B g m rest bad _ H.out HM.out).mono ?_
  rintro e w1 ⟨rfl, hr, ho⟩
  have HR := Lib.hid hr
  have HO := Lib.hid ho
  clear hr ho
  go_wp2
  refine wp_loop_rounds 1 ?_
  rw [rounds_succ]
  go_wp2
  go_ret
  exact ⟨rfl, HR.out, HO.out⟩
theorem get32_nil (m : Nat) (w : World) :
    Calls Try.prog 71 #[.pointer none, .int .i64 m] w fun e w' => e = .returned (.int .u32 0) ∧ w = w' := by
  go_enter Try.func71, Try.ntmps71
  go_wp2_with fail
  refine (take_nil m _).mono ?_
  rintro e w1 ⟨rfl, rfl⟩
  go_wp2
  refine wp_loop_rounds 1 ?_
  rw [rounds_succ]
  go_wp2
  go_ret
  exact ⟨rfl, rfl⟩
set_option maxHeartbeats 800000 in
theorem get64_ok (B g m : Nat) (rest : List Int) (w : World) (h : Rd B w g rest false) (hm : m ≤ rest.length) (h4 : m ≤ 8) (hb : Bytes rest) :
    Calls Try.prog 72 #[.pointer (some ⟨g, 0, none⟩), .int .i64 m] w fun e w' => e = .returned (.int .u64 (leVal (rest.take m))) ∧ Rd B w' g (rest.drop m) false ∧ Only g w w' := by
  have H := Lib.hid h
  clear h
  go_enter Try.func72, Try.ntmps72
  go_wp2_with fail
  refine (take_ok B g m rest _ H.out hm).mono ?_
  rintro e w1 ⟨u, rfl, hu, hr, ho⟩
  obtain ⟨xs, hxs⟩ : ∃ xs, rest.take m = xs := ⟨_, rfl⟩
  rw [hxs] at hu
  have hbx : Bytes xs := by rw [← hxs]; exact hb.take m
  have hlx : xs.length = m := by rw [← hxs, List.length_take]; omega
  obtain ⟨A, c, rfl, hc, hrd⟩ := hu
  have hm := hrd.2.1
  have HX := Lib.hid hxs
  have HL := Lib.hid hlx
  have HR := Lib.hid hrd
  have HD := Lib.hid hr
  have HO := Lib.hid ho
  have hx4 : xs.length ≤ 8 := by omega
  have HBX := Lib.hid hbx
  clear hxs hlx hrd hr ho hbx
  go_wp2
  go_loop [5, 13] (fun n i => ∃ k : Nat, k ≤ xs.length ∧ i = .int .i64 k ∧ n = .int .u64 (leVal (xs.take k))) (fun _ i => xs.length - (intOf i).toNat)
  case atStart => exact ⟨0, by omega, rfl, rfl⟩
  case round =>
    obtain ⟨k, hk, rfl, rfl⟩ := hrel
    by_cases hlt : k < xs.length
    · obtain ⟨ad, e1, hcell⟩ := at_nat HR.out k hlt
      cases e1
      have HS : Hid (Go.bits .or .u64 (leVal (xs.take k)) (IntKind.u64.wrap (IntKind.u64.wrap (rd xs k) * 2 ^ (8 * k))) = leVal (xs.take (k + 1))) := or64 xs k hlt hx4 HBX.out
      go_wp2
      rw [HS.out]
      go_round
      case rel => exact ⟨k + 1, by omega, by go_num, rfl⟩
      case measure => simp [intOf]; omega
    · have h8 : k = xs.length := by omega
      have HY : Hid (leVal (xs.take k) = leVal xs) := by show _ = _; rw [h8, List.take_length]
      clear h8
      go_wp2
      go_ret
      exact ⟨ret_int (by rw [HX.out]; exact HY.out), HD.out, HO.out⟩

theorem get64_short (B g m : Nat) (rest : List Int) (bad : Bool) (w : World) (h : Rd B w g rest bad) (hm : bad = true ∨ rest.length < m) :
    Calls Try.prog 72 #[.pointer (some ⟨g, 0, none⟩), .int .i64 m] w fun e w' => e = .returned (.int .u64 0) ∧ Rd B w' g [] true ∧ Only g w w' := by
  have H := Lib.hid h
  have HM := Lib.hid hm
  clear h hm
  go_enter Try.func72, Try.ntmps72
  go_wp2_with fail
  refine (take_short B g m rest bad _ H.out HM.out).mono ?_
  rintro e w1 ⟨rfl, hr, ho⟩
  have HR := Lib.hid hr
  have HO := Lib.hid ho
  clear hr ho
  go_wp2
  refine wp_loop_rounds 1 ?_
  rw [rounds_succ]
  go_wp2
  go_ret
  exact ⟨rfl, HR.out, HO.out⟩
theorem get64_nil (m : Nat) (w : World) :
    Calls Try.prog 72 #[.pointer none, .int .i64 m] w fun e w' => e = .returned (.int .u64 0) ∧ w = w' := by
  go_enter Try.func72, Try.ntmps72
  go_wp2_with fail
  refine (take_nil m _).mono ?_
  rintro e w1 ⟨rfl, rfl⟩
  go_wp2
  refine wp_loop_rounds 1 ?_
  rw [rounds_succ]
  go_wp2
  go_ret
  exact ⟨rfl, rfl⟩
set_option maxHeartbeats 800000 in
theorem get16_ok (B g m : Nat) (rest : List Int) (w : World) (h : Rd B w g rest false) (hm : m ≤ rest.length) (h4 : m ≤ 2) (hb : Bytes rest) :
    Calls Try.prog 70 #[.pointer (some ⟨g, 0, none⟩), .int .i64 m] w fun e w' => e = .returned (.int .u16 (leVal (rest.take m))) ∧ Rd B w' g (rest.drop m) false ∧ Only g w w' := by
  have H := Lib.hid h
  clear h
  go_enter Try.func70, Try.ntmps70
  go_wp2_with fail
  refine (take_ok B g m rest _ H.out hm).mono ?_
  rintro e w1 ⟨u, rfl, hu, hr, ho⟩
  obtain ⟨xs, hxs⟩ : ∃ xs, rest.take m = xs := ⟨_, rfl⟩
  rw [hxs] at hu
  have hbx : Bytes xs := by rw [← hxs]; exact hb.take m
  have hlx : xs.length = m := by rw [← hxs, List.length_take]; omega
  obtain ⟨A, c, rfl, hc, hrd⟩ := hu
  have hm := hrd.2.1
  have HX := Lib.hid hxs
  have HL := Lib.hid hlx
  have HR := Lib.hid hrd
  have HD := Lib.hid hr
  have HO := Lib.hid ho
  have hx4 : xs.length ≤ 2 := by omega
  have HBX := Lib.hid hbx
  clear hxs hlx hrd hr ho hbx
  go_wp2
  go_loop [5, 13] (fun n i => ∃ k : Nat, k ≤ xs.length ∧ i = .int .i64 k ∧ n = .int .u16 (leVal (xs.take k))) (fun _ i => xs.length - (intOf i).toNat)
  case atStart => exact ⟨0, by omega, rfl, rfl⟩
  case round =>
    obtain ⟨k, hk, rfl, rfl⟩ := hrel
    by_cases hlt : k < xs.length
    · obtain ⟨ad, e1, hcell⟩ := at_nat HR.out k hlt
      cases e1
      have HS : Hid (Go.bits .or .u16 (leVal (xs.take k)) (IntKind.u16.wrap (IntKind.u16.wrap (rd xs k) * 2 ^ (8 * k))) = leVal (xs.take (k + 1))) := or16 xs k hlt hx4 HBX.out
      go_wp2
      rw [HS.out]
      go_round
      case rel => exact ⟨k + 1, by omega, by go_num, rfl⟩
      case measure => simp [intOf]; omega
    · have h8 : k = xs.length := by omega
      have HY : Hid (leVal (xs.take k) = leVal xs) := by show _ = _; rw [h8, List.take_length]
      clear h8
      go_wp2
      go_ret
      exact ⟨ret_int (by rw [HX.out]; exact HY.out), HD.out, HO.out⟩

theorem get16_short (B g m : Nat) (rest : List Int) (bad : Bool) (w : World) (h : Rd B w g rest bad) (hm : bad = true ∨ rest.length < m) :
    Calls Try.prog 70 #[.pointer (some ⟨g, 0, none⟩), .int .i64 m] w fun e w' => e = .returned (.int .u16 0) ∧ Rd B w' g [] true ∧ Only g w w' := by
  have H := Lib.hid h
  have HM := Lib.hid hm
  clear h hm
  go_enter Try.func70, Try.ntmps70
  go_wp2_with fail
  refine (take_short B g m rest bad _ H.out HM.out).mono ?_
  rintro e w1 ⟨rfl, hr, ho⟩
  have HR := Lib.hid hr
  have HO := Lib.hid ho
  clear hr ho
  go_wp2
  refine wp_loop_rounds 1 ?_
  rw [rounds_succ]
  go_wp2
  go_ret
  exact ⟨rfl, HR.out, HO.out⟩
theorem get16_nil (m : Nat) (w : World) :
    Calls Try.prog 70 #[.pointer none, .int .i64 m] w fun e w' => e = .returned (.int .u16 0) ∧ w = w' := by
  go_enter Try.func70, Try.ntmps70
  go_wp2_with fail
  refine (take_nil m _).mono ?_
  rintro e w1 ⟨rfl, rfl⟩
  go_wp2
  refine wp_loop_rounds 1 ?_
  rw [rounds_succ]
  go_wp2
  go_ret
  exact ⟨rfl, rfl⟩

theorem r32_ok (B g : Nat) (rest : List Int) (w : World) (h : Rd B w g rest false) (hm : 4 ≤ rest.length) (hb : Bytes rest) :
    Calls Try.prog 60 #[.pointer (some ⟨g, 0, none⟩)] w fun e w' => e = .returned (.int .u32 (leVal (rest.take 4))) ∧ Rd B w' g (rest.drop 4) false ∧ Only g w w' := by
  have H := Lib.hid h
  have HB := Lib.hid hb
  clear h hb
  go_enter Try.func60, Try.ntmps60
  go_wp2_with fail
  refine (get32_ok B g 4 rest _ H.out hm (by omega) HB.out).mono ?_
  rintro e w1 ⟨rfl, hr, ho⟩
  have HR := Lib.hid hr
  have HO := Lib.hid ho
  clear hr ho
  go_wp2
  go_ret
  exact ⟨rfl, HR.out, HO.out⟩
theorem r32_short (B g : Nat) (rest : List Int) (bad : Bool) (w : World) (h : Rd B w g rest bad) (hm : bad = true ∨ rest.length < 4) :
    Calls Try.prog 60 #[.pointer (some ⟨g, 0, none⟩)] w fun e w' => e = .returned (.int .u32 0) ∧ Rd B w' g [] true ∧ Only g w w' := by
  have H := Lib.hid h
  have HM := Lib.hid hm
  clear h hm
  go_enter Try.func60, Try.ntmps60
  go_wp2_with fail
  refine (get32_short B g 4 rest bad _ H.out HM.out).mono ?_
  rintro e w1 ⟨rfl, hr, ho⟩
  have HR := Lib.hid hr
  have HO := Lib.hid ho
  clear hr ho
  go_wp2
  go_ret
  exact ⟨rfl, HR.out, HO.out⟩
theorem r32_nil (w : World) :
    Calls Try.prog 60 #[.pointer none] w fun e w' => e = .returned (.int .u32 0) ∧ w = w' := by
  go_enter Try.func60, Try.ntmps60
  go_wp2_with fail
  refine (get32_nil 4 _).mono ?_
  rintro e w1 ⟨rfl, rfl⟩
  go_wp2
  go_ret
  exact ⟨rfl, rfl⟩

theorem r64_ok (B g : Nat) (rest : List Int) (w : World) (h : Rd B w g rest false) (hm : 8 ≤ rest.length) (hb : Bytes rest) :
    Calls Try.prog 61 #[.pointer (some ⟨g, 0, none⟩)] w fun e w' => e = .returned (.int .u64 (leVal (rest.take 8))) ∧ Rd B w' g (rest.drop 8) false ∧ Only g w w' := by
  have H := Lib.hid h
  have HB := Lib.hid hb
  clear h hb
  go_enter Try.func61, Try.ntmps61
  go_wp2_with fail
  refine (get64_ok B g 8 rest _ H.out hm (by omega) HB.out).mono ?_
  rintro e w1 ⟨rfl, hr, ho⟩
  have HR := Lib.hid hr
  have HO := Lib.hid ho
  clear hr ho
  go_wp2
  go_ret
  exact ⟨rfl, HR.out, HO.out⟩
theorem r64_short (B g : Nat) (rest : List Int) (bad : Bool) (w : World) (h : Rd B w g rest bad) (hm : bad = true ∨ rest.length < 8) :
    Calls Try.prog 61 #[.pointer (some ⟨g, 0, none⟩)] w fun e w' => e = .returned (.int .u64 0) ∧ Rd B w' g [] true ∧ Only g w w' := by
  have H := Lib.hid h
  have HM := Lib.hid hm
  clear h hm
  go_enter Try.func61, Try.ntmps61
  go_wp2_with fail
  refine (get64_short B g 8 rest bad _ H.out HM.out).mono ?_
  rintro e w1 ⟨rfl, hr, ho⟩
  have HR := Lib.hid hr
  have HO := Lib.hid ho
  clear hr ho
  go_wp2
  go_ret
  exact ⟨rfl, HR.out, HO.out⟩
theorem r64_nil (w : World) :
    Calls Try.prog 61 #[.pointer none] w fun e w' => e = .returned (.int .u64 0) ∧ w = w' := by
  go_enter Try.func61, Try.ntmps61
  go_wp2_with fail
  refine (get64_nil 8 _).mono ?_
  rintro e w1 ⟨rfl, rfl⟩
  go_wp2
  go_ret
  exact ⟨rfl, rfl⟩

/-- string(b) of a cut that reads. -/
theorem rtext_two (B g : Nat) (rest : List Int) (w : World) (h : Rd B w g rest false) (hm : 2 ≤ rest.length) (hb : Bytes rest) (hl : (leVal (rest.take 2)).toNat ≤ (rest.drop 2).length) :
    Calls Try.prog 56 #[.pointer (some ⟨g, 0, none⟩)] w fun e w' => e = .returned (.string (strOfNums ((rest.drop 2).take (leVal (rest.take 2)).toNat))) ∧ Rd B w' g ((rest.drop 2).drop (leVal (rest.take 2)).toNat) false ∧ Only g w w' := by
  have hr2 := leVal_range (rest.take 2) (hb.take 2)
  have hl2 : (rest.take 2).length = 2 := by rw [List.length_take]; omega
  rw [hl2] at hr2
  obtain ⟨n, hn⟩ := Int.eq_ofNat_of_zero_le hr2.1
  have hn2 : n < 65536 := by have := hr2.2; rw [hn] at this; omega
  rw [hn, Int.toNat_natCast] at hl ⊢
  have HN := Lib.hid hn
  have H := Lib.hid h
  have HB := Lib.hid hb
  clear h hb hn hr2 hl2
  go_enter Try.func56, Try.ntmps56
  go_wp2_with fail
  refine (get16_ok B g 2 rest _ H.out hm (by omega) HB.out).mono ?_
  rintro e w1 ⟨rfl, hr, ho⟩
  rw [HN.out]
  have HR := Lib.hid hr
  have HO := Lib.hid ho
  clear hr ho
  go_wp2_with fail
  refine (take_ok B g n (rest.drop 2) _ HR.out hl).mono ?_
  rintro e w2 ⟨u, rfl, hu, hr, ho⟩
  have k1 := str_of hu
  have HR2 := Lib.hid hr
  have HO2 := Lib.hid ho
  clear hr ho hu
  go_wp2
  go_ret
  exact ⟨rfl, HR2.out, HO.out.trans HO2.out⟩
theorem rtext_short (B g : Nat) (rest : List Int) (bad : Bool) (w : World) (h : Rd B w g rest bad) (hb : Bytes rest) (hm : bad = true ∨ rest.length < 2 ∨ (rest.drop 2).length < (leVal (rest.take 2)).toNat) :
    Calls Try.prog 56 #[.pointer (some ⟨g, 0, none⟩)] w fun e w' => e = .returned (.string (strOfNums [])) ∧ Rd B w' g [] true ∧ Only g w w' := by
  by_cases h1 : bad = true ∨ rest.length < 2
  · have H := Lib.hid h
    have H1 := Lib.hid h1
    clear h hm h1
    go_enter Try.func56, Try.ntmps56
    go_wp2_with fail
    refine (get16_short B g 2 rest bad _ H.out H1.out).mono ?_
    rintro e w1 ⟨rfl, hr, ho⟩
    have HR := Lib.hid hr
    have HO := Lib.hid ho
    clear hr ho
    go_wp2_with fail
    refine (take_short B g 0 [] true _ HR.out (.inl rfl)).mono ?_
    rintro e w2 ⟨rfl, hr, ho⟩
    have k1 := str_of (Bs.nil w2)
    have HR2 := Lib.hid hr
    have HO2 := Lib.hid ho
    clear hr ho
    go_wp2
    go_ret
    exact ⟨rfl, HR2.out, HO.out.trans HO2.out⟩
  · have hbad : bad = false := by cases bad with
      | false => rfl
      | true => exact absurd (.inl rfl) h1
    subst hbad
    have h2 : 2 ≤ rest.length := by
      have := fun x => h1 (.inr x)
      omega
    have hlt : (rest.drop 2).length < (leVal (rest.take 2)).toNat := by
      rcases hm with hm | hm | hm
      · cases hm
      · omega
      · exact hm
    have hr2 := leVal_range (rest.take 2) (hb.take 2)
    have hl2 : (rest.take 2).length = 2 := by rw [List.length_take]; omega
    rw [hl2] at hr2
    obtain ⟨n, hn⟩ := Int.eq_ofNat_of_zero_le hr2.1
    have hn2 : n < 65536 := by have := hr2.2; rw [hn] at this; omega
    rw [hn, Int.toNat_natCast] at hlt
    have HN := Lib.hid hn
    have H := Lib.hid h
    have HB := Lib.hid hb
    clear h hb hn hr2 hl2 hm h1
    go_enter Try.func56, Try.ntmps56
    go_wp2_with fail
    refine (get16_ok B g 2 rest _ H.out h2 (by omega) HB.out).mono ?_
    rintro e w1 ⟨rfl, hr, ho⟩
    rw [HN.out]
    have HR := Lib.hid hr
    have HO := Lib.hid ho
    clear hr ho
    go_wp2_with fail
    refine (take_short B g n (rest.drop 2) false _ HR.out (.inr hlt)).mono ?_
    rintro e w2 ⟨rfl, hr, ho⟩
    have k1 := str_of (Bs.nil w2)
    have HR2 := Lib.hid hr
    have HO2 := Lib.hid ho
    clear hr ho
    go_wp2
    go_ret
    exact ⟨rfl, HR2.out, HO.out.trans HO2.out⟩
theorem rtext_nil (w : World) :
    Calls Try.prog 56 #[.pointer none] w fun e w' => e = .returned (.string (strOfNums [])) ∧ w = w' := by
  have k1 := str_of (Bs.nil w)
  go_enter Try.func56, Try.ntmps56
  go_wp2_with fail
  refine (get16_nil 2 _).mono ?_
  rintro e w1 ⟨rfl, rfl⟩
  go_wp2_with fail
  refine (take_nil _ _).mono ?_
  rintro e w1 ⟨rfl, rfl⟩
  go_wp2
  go_ret
  exact ⟨rfl, rfl⟩

theorem left_any (B g : Nat) (rest : List Int) (bad : Bool) (w : World) (h : Rd B w g rest bad) :
    Calls Try.prog 58 #[.pointer (some ⟨g, 0, none⟩)] w fun e w' => e = .returned (.int .i64 rest.length) ∧ w = w' := by
  obtain ⟨v, hc, hq⟩ := h.cell
  obtain ⟨A, c, rfl, hle⟩ := q_slice hq
  have hmax := q_max hq
  have c0 := blk_cell hc 0
  clear hc hq h
  go_enter Try.func58, Try.ntmps58
  go_wp2
  go_ret
  exact ⟨rfl, rfl⟩
theorem left_nil (w : World) :
    Calls Try.prog 58 #[.pointer none] w fun e w' => e = .returned (.int .i64 0) ∧ w = w' := by
  go_enter Try.func58, Try.ntmps58
  go_wp2
  go_ret
  exact ⟨rfl, rfl⟩
theorem right_any (B g : Nat) (rest : List Int) (bad : Bool) (w : World) (h : Rd B w g rest bad) :
    Calls Try.prog 57 #[.pointer (some ⟨g, 0, none⟩)] w fun e w' => e = .returned (.bool (!bad)) ∧ w = w' := by
  obtain ⟨v, hc, hq⟩ := h.cell
  obtain ⟨A, c, rfl, hle⟩ := q_slice hq
  have c1 := blk_cell hc 1
  clear hc hq h
  go_enter Try.func57, Try.ntmps57
  go_wp2
  go_ret
  exact ⟨rfl, rfl⟩
theorem right_nil (w : World) :
    Calls Try.prog 57 #[.pointer none] w fun e w' => e = .returned (.bool false) ∧ w = w' := by
  go_enter Try.func57, Try.ntmps57
  go_wp2
  go_ret
  exact ⟨rfl, rfl⟩
end Go.Proofs.Ytinonkakpgiblaa.Pack
