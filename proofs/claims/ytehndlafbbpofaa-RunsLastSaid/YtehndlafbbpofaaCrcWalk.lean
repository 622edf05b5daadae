/- The contracts of the functions of package crc (walks). -/
import Derived.Test.YtehndlafbbpofaaBase
import Derived.Test.YtehndlafbbpofaaCrcPure
namespace Go.Proofs.Ytehndlafbbpofaa.Crc
open Go.RowKit Go.Proofs.YtehndlafbbpofaaW.PrintWords Go.Proofs.Ytehndlafbbpofaa.Base
set_option linter.unusedVariables false
set_option linter.unusedSimpArgs false


set_option maxHeartbeats 800000 in
theorem shifted_any (a0 a1 : Int) (w : World) :
    Calls Try.prog 90 #[.int .u32 a0, .int .u8 a1] w fun e w' => e = .returned (.int .u32 (shifted a0 a1)) ∧ w = w' := by
  have H0 : Hid (shifted a0 a1 = steps 8 (Go.bits .xor .u32 a0 (a1 % 4294967296))) := rfl
  go_enter Try.func90, Try.ntmps90
  go_wp2
  go_loop [0, 10] (fun r i => ∃ (k : Nat) (x : Int), k ≤ 8 ∧ i = .int .i64 k ∧ r = .int .u32 x ∧ Hid (steps (8 - k) x = shifted a0 a1)) (fun _ i => 8 - (intOf i).toNat)
  case atStart => exact ⟨0, _, by omega, rfl, rfl, H0.out.symm⟩
  case round =>
    obtain ⟨k, x, hk, rfl, rfl, hx⟩ := hrel
    by_cases hlt : k < 8
    · obtain ⟨j, hj⟩ : ∃ j, 8 - k = j + 1 := ⟨7 - k, by omega⟩
      have hj' : 8 - (k + 1) = j := by omega
      have HX : Hid (steps (8 - (k + 1)) (step x) = shifted a0 a1) := by
        have := hx.out
        rw [hj, steps_succ] at this
        rw [hj']; exact this
      clear hj hj' hx
      by_cases hb : Go.bits .and .u32 x 1 = 1
      · have hb1 : (Go.bits .and .u32 x 1 == 1) = true := beq_iff_eq.mpr hb
        have HS : Hid (step x = Go.bits .xor .u32 (x / 2) 3988292384) := if_pos hb
        clear hb
        go_wp2
        go_round
        case rel => exact ⟨k + 1, _, by omega, by go_num, rfl, by rw [← HS.out]; exact HX⟩
        case measure => simp [intOf]; omega
      · have hb1 : (Go.bits .and .u32 x 1 == 1) = false := beq_eq_false_iff_ne.mpr hb
        have HS : Hid (step x = x / 2) := if_neg hb
        clear hb
        go_wp2
        go_round
        case rel => exact ⟨k + 1, _, by omega, by go_num, rfl, by rw [← HS.out]; exact HX⟩
        case measure => simp [intOf]; omega
    · have h8 : 8 - k = 0 := by omega
      have HX : Hid (x = shifted a0 a1) := by have := hx.out; rw [h8] at this; exact this
      clear h8 hx H0
      go_wp2
      go_ret
      exact ⟨ret_int HX.out, rfl⟩


theorem take_snoc (xs : List Int) (k : Nat) (h : k < xs.length) : xs.take (k + 1) = xs.take k ++ [rd xs k] := by
  rw [List.take_succ_eq_append_getElem h]
  unfold rd
  rw [Int.toNat_natCast, List.getD_eq_getElem?_getD, List.getElem?_eq_getElem h]; rfl
theorem foldl_snoc (f : Int → Int → Int) (r : Int) (xs : List Int) (k : Nat) (h : k < xs.length) : (xs.take (k + 1)).foldl f r = f ((xs.take k).foldl f r) (rd xs k) := by
  rw [take_snoc xs k h, List.foldl_append]; rfl

set_option maxHeartbeats 800000 in
theorem fold32_any (r0 : Int) (v : Value) (xs : List Int) (w : World) (hv : Bs w v xs) :
    Calls Try.prog 89 #[.int .u32 r0, v, .func (.func 90) #[] #[]] w fun e w' => e = .returned (.int .u32 (xs.foldl shifted r0)) ∧ w = w' := by
  obtain ⟨A, c, rfl, hc, hr⟩ := hv
  have hm := hr.2.1
  have HR : Hid (ReadsInt w .u8 A xs.length xs) := hr
  clear hr
  go_enter Try.func89, Try.ntmps89
  go_wp2
  go_loop [0, 11] (fun r i => ∃ (k : Nat) , k ≤ xs.length ∧ i = .int .i64 k ∧ r = .int .u32 ((xs.take k).foldl shifted r0)) (fun _ i => xs.length - (intOf i).toNat)
  case atStart => exact ⟨0, by omega, rfl, rfl⟩
  case round =>
    obtain ⟨k, hk, rfl, rfl⟩ := hrel
    by_cases hlt : k < xs.length
    · have HS : Hid (_ = _) := foldl_snoc shifted r0 xs k hlt
      obtain ⟨ad, e1, hcell⟩ := at_nat HR.out k (by omega)
      cases e1
      go_wp2_with (go_at_call 90; refine (shifted_any _ _ _).mono ?_; rintro e w' ⟨rfl, rfl⟩)
      go_round
      case rel => exact ⟨k + 1, by omega, by go_num, by rw [HS.out]⟩
      case measure => simp [intOf]; omega
    · have h8 : k = xs.length := by omega
      have HX : Hid ((xs.take k).foldl shifted r0 = xs.foldl shifted r0) := by show _ = _; rw [h8, List.take_length]
      clear h8
      go_wp2
      go_ret
      exact ⟨ret_int HX.out, rfl⟩



set_option maxHeartbeats 800000 in
theorem more_any (r0 : Int) (v : Value) (xs : List Int) (w : World) (hv : Bs w v xs) :
    Calls Try.prog 83 #[.int .u32 r0, v] w fun e w' => e = .returned (.int .u32 (moreOf r0 xs)) ∧ w = w' := by
  have HV := Lib.hid hv
  clear hv
  have hs : ¬ IntKind.u32.signed = true := by decide
  go_enter Try.func83, Try.ntmps83
  go_wp2_with (go_at_call 89; refine (fold32_any _ _ _ _ HV.out).mono ?_; rintro e w' ⟨rfl, rfl⟩)
  go_ret
  exact ⟨ret_int rfl, rfl⟩

theorem sum_any (v : Value) (xs : List Int) (w : World) (hv : Bs w v xs) :
    Calls Try.prog 64 #[v] w fun e w' => e = .returned (.int .u32 (sumOf xs)) ∧ w = w' := by
  have HV := Lib.hid hv
  clear hv
  go_enter Try.func64, Try.ntmps64
  go_wp2_with (go_at_call 83; refine (more_any _ _ _ _ HV.out).mono ?_; rintro e w' ⟨rfl, rfl⟩)
  go_ret
  exact ⟨ret_int rfl, rfl⟩

theorem hashed1_any (h c : Int) (w : World) :
    Calls Try.prog 72 #[.int .u64 h, .int .u8 c] w fun e w' => e = .returned (.int .u64 (hashed h c)) ∧ w = w' := by
  go_enter Try.func72, Try.ntmps72
  go_wp2
  go_ret
  exact ⟨ret_int rfl, rfl⟩

set_option maxHeartbeats 800000 in
theorem fold64_any (r0 : Int) (v : Value) (xs : List Int) (w : World) (hv : Bs w v xs) :
    Calls Try.prog 73 #[.int .u64 r0, v, .func (.func 72) #[] #[]] w fun e w' => e = .returned (.int .u64 (xs.foldl hashed r0)) ∧ w = w' := by
  obtain ⟨A, c, rfl, hc, hr⟩ := hv
  have hm := hr.2.1
  have HR : Hid (ReadsInt w .u8 A xs.length xs) := hr
  clear hr
  go_enter Try.func73, Try.ntmps73
  go_wp2
  go_loop [0, 11] (fun r i => ∃ (k : Nat) , k ≤ xs.length ∧ i = .int .i64 k ∧ r = .int .u64 ((xs.take k).foldl hashed r0)) (fun _ i => xs.length - (intOf i).toNat)
  case atStart => exact ⟨0, by omega, rfl, rfl⟩
  case round =>
    obtain ⟨k, hk, rfl, rfl⟩ := hrel
    by_cases hlt : k < xs.length
    · have HS : Hid (_ = _) := foldl_snoc hashed r0 xs k hlt
      obtain ⟨ad, e1, hcell⟩ := at_nat HR.out k (by omega)
      cases e1
      go_wp2_with (go_at_call 72; refine (hashed1_any _ _ _).mono ?_; rintro e w' ⟨rfl, rfl⟩)
      go_round
      case rel => exact ⟨k + 1, by omega, by go_num, by rw [HS.out]⟩
      case measure => simp [intOf]; omega
    · have h8 : k = xs.length := by omega
      have HX : Hid ((xs.take k).foldl hashed r0 = xs.foldl hashed r0) := by show _ = _; rw [h8, List.take_length]
      clear h8
      go_wp2
      go_ret
      exact ⟨ret_int HX.out, rfl⟩

theorem hash_any (v : Value) (xs : List Int) (w : World) (hv : Bs w v xs) :
    Calls Try.prog 43 #[v] w fun e w' => e = .returned (.int .u64 (hashOf xs)) ∧ w = w' := by
  have HV := Lib.hid hv
  clear hv
  go_enter Try.func43, Try.ntmps43
  go_wp2_with (go_at_call 73; refine (fold64_any _ _ _ _ HV.out).mono ?_; rintro e w' ⟨rfl, rfl⟩)
  go_ret
  exact ⟨ret_int rfl, rfl⟩

end Go.Proofs.Ytehndlafbbpofaa.Crc
