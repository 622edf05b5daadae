/- The contracts of the references of chapter 1, and of the laws' helpers. -/
import Derived.Test.YtehndlafbbpofaaCrcWalk
namespace Go.Proofs.Ytehndlafbbpofaa.Crc
open Go.RowKit Go.Proofs.YtehndlafbbpofaaW.PrintWords Go.Proofs.Ytehndlafbbpofaa.Base
set_option linter.unusedVariables false
set_option linter.unusedSimpArgs false

set_option maxHeartbeats 800000 in
theorem refhash_any (v : Value) (xs : List Int) (w : World) (hv : Bs w v xs) :
    Calls Try.prog 46 #[v] w fun e w' => e = .returned (.int .u64 (refHash xs)) ∧ w = w' := by
  obtain ⟨A, c, rfl, hc, hr⟩ := hv
  have hm := hr.2.1
  have HR : Hid (ReadsInt w .u8 A xs.length xs) := hr
  clear hr
  go_enter Try.func46, Try.ntmps46
  go_wp2
  go_loop [3, 4] (fun r i => ∃ (k : Nat) (x : Int) , k ≤ xs.length ∧ i = .int .i64 k ∧ r = .int .u64 x ∧ Hid (x = ((xs.take k).foldl refHashStep 14695981039346656037))) (fun _ i => xs.length - (intOf i).toNat)
  case atStart => exact ⟨0, _, by omega, rfl, rfl, rfl⟩
  case round =>
    obtain ⟨k, x, hk, rfl, rfl, HX⟩ := hrel
    by_cases hlt : k < xs.length
    · obtain ⟨ad, e1, hcell⟩ := at_nat HR.out k (by omega)
      cases e1
      have HS : Hid (_ = _) := foldl_snoc refHashStep 14695981039346656037 xs k hlt
      go_wp2
      go_round
      case rel => exact ⟨k + 1, _, by omega, by go_num, rfl, by show _ = _; rw [HS.out, ← HX.out]; rfl⟩
      case measure => simp [intOf]; omega
    · have h8 : k = xs.length := by omega
      have HY : Hid (x = refHash xs) := by show _ = _; rw [HX.out, h8, List.take_length]; rfl
      clear h8
      go_wp2
      go_ret
      exact ⟨ret_int HY.out, rfl⟩

set_option maxHeartbeats 800000 in
theorem refsum_any (v : Value) (xs : List Int) (w : World) (hv : Bs w v xs) (h3 : xs.length ≤ 100000) :
    Calls Try.prog 65 #[v] w fun e w' => e = .returned (.int .u32 (refSum xs)) ∧ w = w' := by
  obtain ⟨A, c, rfl, hc, hr⟩ := hv
  have hm := hr.2.1
  have HR : Hid (ReadsInt w .u8 A xs.length xs) := hr
  clear hr
  go_enter Try.func65, Try.ntmps65
  go_wp2
  go_loop [3, 4] (fun r i => ∃ (k : Nat) (x : Int) , k ≤ 8 * xs.length ∧ i = .int .i64 k ∧ r = .int .u32 x ∧ Hid (x = refTo xs k)) (fun _ i => 8 * xs.length - (intOf i).toNat)
  case atStart => exact ⟨0, _, by omega, rfl, rfl, rfl⟩
  case round =>
    obtain ⟨k, x, hk, rfl, rfl, HX⟩ := hrel
    by_cases hlt : k < 8 * xs.length
    · obtain ⟨ad, e1, hcell⟩ := at_nat HR.out (k / 8) (by omega)
      cases e1
      have HS : Hid (refTo xs (k + 1) = refStep x (refBit xs k)) := by show _ = _; rw [HX.out]; rfl
      by_cases hb : (Go.bits .and .u32 x 1 != refBit xs k) = true
      · have HT : Hid (refStep x (refBit xs k) = Go.bits .xor .u32 (x.tdiv 2 % 4294967296) 3988292384) := if_pos hb
        replace hb : (Go.bits .and .u32 x 1 != Go.bits .and .u32 (rd xs ((k : Int) / 8) / 2 ^ (k % 8) % 4294967296) 1) = true := hb
        go_wp2
        go_round
        case rel => exact ⟨k + 1, _, by omega, by go_num, rfl, by show _ = _; rw [HS.out, HT.out]⟩
        case measure => simp [intOf]; omega
      · have HT : Hid (refStep x (refBit xs k) = x.tdiv 2 % 4294967296) := if_neg hb
        rw [Bool.not_eq_true] at hb
        replace hb : (Go.bits .and .u32 x 1 != Go.bits .and .u32 (rd xs ((k : Int) / 8) / 2 ^ (k % 8) % 4294967296) 1) = false := hb
        go_wp2
        go_round
        case rel => exact ⟨k + 1, _, by omega, by go_num, rfl, by show _ = _; rw [HS.out, HT.out]⟩
        case measure => simp [intOf]; omega
    · have h8 : k = 8 * xs.length := by omega
      have HY : Hid ((4294967295 - x) % 4294967296 = refSum xs) := by show _ = _; rw [HX.out, h8]; rfl
      clear h8
      go_wp2
      go_ret
      exact ⟨ret_int HY.out, rfl⟩

end Go.Proofs.Ytehndlafbbpofaa.Crc
