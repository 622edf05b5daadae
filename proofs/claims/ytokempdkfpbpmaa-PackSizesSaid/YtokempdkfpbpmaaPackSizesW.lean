/- The walk of the law PackSizes. -/
import Derived.Test.YtokempdkfpbpmaaPackFns
namespace Go.Proofs.Ytokempdkfpbpmaa.Pack
open Go.RowKit Go.Proofs.YtokempdkfpbpmaaW.PrintWords Go.Proofs.Ytokempdkfpbpmaa.Base
set_option linter.unusedVariables false
set_option linter.unusedSimpArgs false

theorem sizes_pure (a b : Int) (a0 : 0 ≤ a) (a1 : a < 18446744073709551616) (b0 : 0 ≤ b) (b1 : b < 18446744073709551616) :
    ((strOfNums (leBytes a 8)).toList == (strOfNums (leBytes b 8)).toList) = (a == b) := by
  rw [str_eql (leBytes_bytes a 8) (leBytes_bytes b 8)]
  by_cases e : a = b
  · subst e; simp
  · rw [beq_eq_false_iff_ne.2 e, decide_eq_false_iff_not]
    exact fun h => e (leBytes_inj 8 a b a0 a1 b0 b1 h)
set_option maxHeartbeats 1600000 in
theorem PackSizes_any (a b : Int) (s : ByteArray) (w : World) (a0 : 0 ≤ a) (a1 : a < 18446744073709551616) (b0 : 0 ≤ b) (b1 : b < 18446744073709551616) (hs : s.size ≤ 9223372036854775807) :
    Calls Try.prog 11 #[.int .u64 a, .int .u64 b, .string s] w fun e w' => e = .returned (.bool true) ∧ Below w.heap.size w w' := by
  by_cases g1 : s.size ≤ 300
  · go_enter Try.func11, Try.ntmps11
    go_wp2_with fail
    refine (u64_any _ [] _ _ (Bs.nil _) (by simp) a0 a1).mono ?_
    rintro e w1 ⟨v1, rfl, o1⟩
    rw [List.nil_append] at o1
    obtain ⟨A1, n1, c1, rfl, hn1⟩ := o1.slice
    rw [leBytes_length] at hn1
    subst hn1
    have O1 := Lib.hid o1
    clear o1
    go_wp2_with fail
    refine (u64_any _ [] _ _ (Bs.nil _) (by simp) b0 b1).mono ?_
    rintro e w2 ⟨v2, rfl, o2⟩
    rw [List.nil_append] at o2
    obtain ⟨A2, n2, c2, rfl, hn2⟩ := o2.slice
    rw [leBytes_length] at hn2
    subst hn2
    have O2 := Lib.hid o2
    clear o2
    go_wp2_with fail
    refine (text_any _ [] s _ (Bs.nil _) (by simp) (by omega)).mono ?_
    rintro e w3 ⟨v3, rfl, o3⟩
    rw [List.nil_append] at o3
    obtain ⟨A3, n3, c3, rfl, hn3⟩ := o3.slice
    have hn3' : n3 = s.size + 2 := by rw [hn3, textBytes, List.length_append, leBytes_length, bytesOf_length]; omega
    subst hn3'
    clear hn3
    have O3 := Lib.hid o3
    clear o3
    go_wp2_with fail
    refine (u32_any _ [] _ _ (Bs.nil _) (by simp) (by omega) (by omega)).mono ?_
    rintro e w4 ⟨v4, rfl, o4⟩
    rw [List.nil_append] at o4
    obtain ⟨A4, n4, c4, rfl, hn4⟩ := o4.slice
    rw [leBytes_length] at hn4
    subst hn4
    have O4 := Lib.hid o4
    clear o4
    have k1 := str_of ((O1.out.step O2.out.below).step O3.out.below |>.step O4.out.below).bs
    have k2 := str_of ((O2.out.step O3.out.below).step O4.out.below).bs
    have hq := sizes_pure a b a0 a1 b0 b1
    by_cases hab : (a == b) = true
    · rw [hab] at hq
      go_wp2_with fail
      refine (awake_any _).mono ?_
      rintro e w' ⟨rfl, hb⟩
      go_wp2_with fail
      go_ret
      exact ⟨rfl, (((O1.out.below.trans (O2.out.below.mono O1.out.below.size)).trans (O3.out.below.mono (Nat.le_trans O1.out.below.size O2.out.below.size))).trans (O4.out.below.mono (Nat.le_trans O1.out.below.size (Nat.le_trans O2.out.below.size O3.out.below.size)))).trans (hb.mono (Nat.le_trans O1.out.below.size (Nat.le_trans O2.out.below.size (Nat.le_trans O3.out.below.size O4.out.below.size))))⟩
    · rw [Bool.not_eq_true] at hab
      rw [hab] at hq
      go_wp2_with fail
      refine (awake_any _).mono ?_
      rintro e w' ⟨rfl, hb⟩
      go_wp2_with fail
      go_ret
      exact ⟨rfl, (((O1.out.below.trans (O2.out.below.mono O1.out.below.size)).trans (O3.out.below.mono (Nat.le_trans O1.out.below.size O2.out.below.size))).trans (O4.out.below.mono (Nat.le_trans O1.out.below.size (Nat.le_trans O2.out.below.size O3.out.below.size)))).trans (hb.mono (Nat.le_trans O1.out.below.size (Nat.le_trans O2.out.below.size (Nat.le_trans O3.out.below.size O4.out.below.size))))⟩
  · go_enter Try.func11, Try.ntmps11
    go_wp2
    go_ret
    exact ⟨rfl, Below.refl _ _⟩
theorem PackSizes_int (a b : Int) (s : ByteArray) (w : World) (ha : (Lit.int .u64 a).wf = true) (hb : (Lit.int .u64 b).wf = true) (hs : s.size ≤ 140737488351232) :
    Calls Try.prog 11 #[.int .u64 a, .int .u64 b, .string s] w fun e w' => e = .returned (.bool true) ∧ Below w.heap.size w w' := by
  simp [Lit.wf, IntKind.min, IntKind.max, IntKind.bits, IntKind.signed] at ha hb
  exact PackSizes_any a b s w ha.1 (by omega) hb.1 (by omega) (by omega)
end Go.Proofs.Ytokempdkfpbpmaa.Pack
