/- The contracts of the references of chapter 1, and of the laws' helpers. -/
import Derived.Test.YtokempdkfpbpmaaCrcWalk
namespace Go.Proofs.Ytokempdkfpbpmaa.Crc
open Go.RowKit Go.Proofs.YtokempdkfpbpmaaW.PrintWords Go.Proofs.Ytokempdkfpbpmaa.Base
set_option linter.unusedVariables false
set_option linter.unusedSimpArgs false

set_option maxHeartbeats 800000 in
theorem refhash_any (v : Value) (xs : List Int) (w : World) (hv : Bs w v xs) :
    Calls Try.prog 18 #[v] w fun e w' => e = .returned (.int .u64 (refHash xs)) ∧ w = w' := by
  obtain ⟨A, c, rfl, hc, hr⟩ := hv
  have hm := hr.2.1
  have HR : Hid (ReadsInt w .u8 A xs.length xs) := hr
  clear hr
  go_enter Try.func18, Try.ntmps18
  go_wp2
  go_loop [3, 4] (fun r i => ∃ (k : Nat) (x : Int) , k ≤ xs.length ∧ i = .int .i64 k ∧ r = .int .u64 x ∧ Hid (x = ((xs.take k).foldl refHashStep 14695981039346656037))) (fun _ i => xs.length - (intOf i).toNat)
  case atStart => exact ⟨0, _, by omega, rfl, rfl, rfl⟩
  case round =>
    obtain ⟨k, x, hk, rfl, rfl, HX⟩ := hrel
    by_cases hlt : k < xs.length
    · obtain ⟨ad, e1, hcell⟩ := at_nat HR.out k (by omega)
      cases e1
      have HS : Hid (_ = _) := foldl_snoc refHashStep 14695981039346656037 xs k hlt
      go_wp2
      go_round
      case rel => exact ⟨k + 1, _, by omega, by go_num, rfl, by show _ = _; rw [HS.out, ← HX.out]; rfl⟩
      case measure => simp [intOf]; omega
    · have h8 : k = xs.length := by omega
      have HY : Hid (x = refHash xs) := by show _ = _; rw [HX.out, h8, List.take_length]; rfl
      clear h8
      go_wp2
      go_ret
      exact ⟨ret_int HY.out, rfl⟩

set_option maxHeartbeats 800000 in
theorem refsum_any (v : Value) (xs : List Int) (w : World) (hv : Bs w v xs) (h3 : xs.length ≤ 3000) :
    Calls Try.prog 16 #[v] w fun e w' => e = .returned (.int .u32 (refSum xs)) ∧ w = w' := by
  obtain ⟨A, c, rfl, hc, hr⟩ := hv
  have hm := hr.2.1
  have HR : Hid (ReadsInt w .u8 A xs.length xs) := hr
  clear hr
  go_enter Try.func16, Try.ntmps16
  go_wp2
  go_loop [3, 4] (fun r i => ∃ (k : Nat) (x : Int) , k ≤ 8 * xs.length ∧ i = .int .i64 k ∧ r = .int .u32 x ∧ Hid (x = refTo xs k)) (fun _ i => 8 * xs.length - (intOf i).toNat)
  case atStart => exact ⟨0, _, by omega, rfl, rfl, rfl⟩
  case round =>
    obtain ⟨k, x, hk, rfl, rfl, HX⟩ := hrel
    by_cases hlt : k < 8 * xs.length
    · obtain ⟨ad, e1, hcell⟩ := at_nat HR.out (k / 8) (by omega)
      cases e1
      have HS : Hid (refTo xs (k + 1) = refStep x (refBit xs k)) := by show _ = _; rw [HX.out]; rfl
      by_cases hb : (Go.bits .and .u32 x 1 != refBit xs k) = true
      · have HT : Hid (refStep x (refBit xs k) = Go.bits .xor .u32 (x.tdiv 2 % 4294967296) 3988292384) := if_pos hb
        replace hb : (Go.bits .and .u32 x 1 != Go.bits .and .u32 (rd xs ((k : Int) / 8) / 2 ^ (k % 8) % 4294967296) 1) = true := hb
        go_wp2
        go_round
        case rel => exact ⟨k + 1, _, by omega, by go_num, rfl, by show _ = _; rw [HS.out, HT.out]⟩
        case measure => simp [intOf]; omega
      · have HT : Hid (refStep x (refBit xs k) = x.tdiv 2 % 4294967296) := if_neg hb
        rw [Bool.not_eq_true] at hb
        replace hb : (Go.bits .and .u32 x 1 != Go.bits .and .u32 (rd xs ((k : Int) / 8) / 2 ^ (k % 8) % 4294967296) 1) = false := hb
        go_wp2
        go_round
        case rel => exact ⟨k + 1, _, by omega, by go_num, rfl, by show _ = _; rw [HS.out, HT.out]⟩
        case measure => simp [intOf]; omega
    · have h8 : k = 8 * xs.length := by omega
      have HY : Hid ((4294967295 - x) % 4294967296 = refSum xs) := by show _ = _; rw [HX.out, h8]; rfl
      clear h8
      go_wp2
      go_ret
      exact ⟨ret_int HY.out, rfl⟩

theorem awake_pure : (sumOf [49, 50, 51, 52, 53, 54, 55, 56, 57] == 3421780262) = true ∧ (hashOf [] == 14695981039346656037) = true ∧ (hashOf [97] == 12638187200555641996) = true := by
  decide +kernel

set_option maxHeartbeats 800000 in
theorem awake_any (w : World) :
    Calls Try.prog 19 #[] w fun e w' => e = .returned (.bool true) ∧ Below w.heap.size w w' := by
  obtain ⟨h1, h2, h3⟩ := awake_pure
  have kc := fun (w : World) (C : Array Value) (n c : Nat) => Lib.run_convert_bytes_const (P := Try.prog) w 22 5 C n c Try.underlying22 Try.underlying5
  have kc1 := fun (w : World) (o : Obj) (C : Array Value) (n c : Nat) => conv_one (P := Try.prog) w 22 5 o C n c Try.underlying22 Try.underlying5
  have b1 := Lib.hid (Bs.mark w 5 [49, 50, 51, 52, 53, 54, 55, 56, 57] 9 rfl (by simp) (9, 10))
  have b2 := Lib.hid (fun w => Bs.nil w)
  have b3 := Lib.hid (fun w o => Bs.mark1 w o 5 [97] 1 rfl (by simp) (1, 2))
  go_enter Try.func19, Try.ntmps19
  go_wp2_with fail
  refine (sum_any _ _ _ b1.out).mono ?_
  rintro e w' ⟨rfl, rfl⟩
  go_wp2_with fail
  refine (hash_any _ _ _ (b2.out _)).mono ?_
  rintro e w' ⟨rfl, rfl⟩
  go_wp2_with fail
  refine (hash_any _ _ _ (b3.out _ _)).mono ?_
  rintro e w' ⟨rfl, rfl⟩
  go_wp2_with fail
  go_ret
  exact ⟨rfl, ((Below.refl _ _).alloc (Nat.le_refl _) _).alloc (by simp) _⟩
end Go.Proofs.Ytokempdkfpbpmaa.Crc
