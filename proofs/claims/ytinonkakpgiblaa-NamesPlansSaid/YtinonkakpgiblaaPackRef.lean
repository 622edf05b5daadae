/- The contracts of the reference of chapter 2: numbers and texts. -/
import Derived.Test.YtinonkakpgiblaaPackFns
namespace Go.Proofs.Ytinonkakpgiblaa.Pack
open Go.RowKit Go.Proofs.YtinonkakpgiblaaW.PrintWords Go.Proofs.Ytinonkakpgiblaa.Base
set_option linter.unusedVariables false
set_option linter.unusedSimpArgs false

set_option maxHeartbeats 800000 in
theorem number_any (n : Int) (m : Nat) (w : World) (hm : m ≤ 8) (n0 : 0 ≤ n) (n1 : n < 18446744073709551616) :
    Calls Try.prog 49 #[.int .u64 n, .int .i64 m] w fun e w' => ∃ v, e = .returned v ∧ Ow w w' v (leBytes n m) := by
  go_enter Try.func49, Try.ntmps49
  go_wp2
  go_loopw [0, 5, 6] (fun x v i wr => ∃ (k : Nat) (y : Int), k ≤ m ∧ i = .int .i64 k ∧ x = .int .u64 y ∧ 0 ≤ y ∧ y < 18446744073709551616 ∧ Hid (y = n / 2 ^ (8 * k)) ∧ Ow w wr v (leBytes n k)) (fun _ _ i _ => m - (intOf i).toNat)
  case atStart => exact ⟨0, n, Nat.zero_le _, rfl, rfl, n0, n1, by show _ = _; rw [Nat.mul_zero, Int.pow_zero, Int.ediv_one], Ow.nil (Below.refl _ _)⟩
  case round =>
    obtain ⟨k, y, hk, rfl, rfl, y0, y1, hy, ho⟩ := hrel
    have O := Lib.hid ho
    clear ho
    by_cases hlt : k < m
    · have hlen : (leBytes n k).length + 1 ≤ 140737488355328 := by rw [leBytes_length]; omega
      have HX : Hid (leBytes n k ++ [y % 256] = leBytes n (k + 1)) := by show _ = _; rw [hy.out, leBytes_succ]
      have HY : Hid (y / 256 = n / 2 ^ (8 * (k + 1))) := by
        show _ = _
        rw [hy.out, Nat.mul_succ, Int.pow_add]
        exact Int.ediv_ediv_of_nonneg (Int.pow_nonneg (by decide))
      have y2 : 0 ≤ y / 256 := by omega
      have y3 : y / 256 < 18446744073709551616 := by omega
      clear hy
      go_wp2_with (at_builtin; refine Held.of ?_)
      refine app_byte rfl (.tmp 12) (.tmp 16) 46 rfl Try.underlying46 _ (leBytes n k) _ rfl rfl O.out hlen ?_
      intro v3 w3 o3 _
      rw [HX.out] at o3
      have O3 := Lib.hid o3
      clear o3
      go_wp2
      go_roundw
      case rel => exact ⟨k + 1, _, by omega, by go_num, rfl, y2, y3, HY, O3.out⟩
      case measure => simp [intOf]; omega
    · have hkm : k = m := by omega
      have O4 := Lib.hid (hkm ▸ O.out)
      clear hkm hy
      go_wp2
      go_ret
      exact ⟨_, rfl, O4.out⟩

set_option maxHeartbeats 800000 in
theorem reftext_any (s : ByteArray) (w : World) (hs : s.size ≤ 65535) :
    Calls Try.prog 48 #[.string s] w fun e w' => ∃ v, e = .returned (.tuple #[v, .bool true]) ∧ Ow w w' v (textBytes s) := by
  go_enter Try.func48, Try.ntmps48
  go_wp2_with fail
  refine (number_any _ 2 _ (by omega) (by omega) (by omega)).mono ?_
  rintro e w1 ⟨v1, rfl, o1⟩
  have O1 := Lib.hid o1
  clear o1
  have hl2 : (leBytes s.size 2).length + s.size ≤ 140737488355328 := by rw [leBytes_length]; omega
  go_wp2_with (at_builtin; refine Held.of ?_)
  refine app_str rfl (.tmp 10) (.tmp 11) 46 9 rfl Try.underlying46 Try.underlying9 _ (leBytes s.size 2) s rfl rfl O1.out hl2 ?_
  intro v3 w3 o3 _
  have O3 : Hid (Ow w w3 v3 (textBytes s)) := o3
  clear o3
  go_wp2
  go_ret2
  exact ⟨_, rfl, O3.out⟩
theorem reftext_long (s : ByteArray) (w : World) (hm : s.size ≤ 9223372036854775807) (hs : 65535 < s.size) :
    Calls Try.prog 48 #[.string s] w fun e w' => e = .returned (.tuple #[.slice none 0 0, .bool false]) ∧ w = w' := by
  go_enter Try.func48, Try.ntmps48
  go_wp2
  go_ret2
  exact ⟨rfl, rfl⟩
end Go.Proofs.Ytinonkakpgiblaa.Pack
