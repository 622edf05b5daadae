/- The walk of the law CrcHash. -/
import Derived.Test.YtokempdkfpbpmaaCrcLaws
namespace Go.Proofs.Ytokempdkfpbpmaa.Crc
open Go.RowKit Go.Proofs.YtokempdkfpbpmaaW.PrintWords Go.Proofs.Ytokempdkfpbpmaa.Base
set_option linter.unusedVariables false
set_option linter.unusedSimpArgs false

theorem mod_cancel (p p' q M a b : Nat) (hp : p * p' = q * M + 1) (h : a * p % M = b * p % M) : a % M = b % M := by
  have e : ∀ x : Nat, x * p % M * p' % M = x % M := by
    intro x
    rw [Nat.mod_mul_mod, Nat.mul_assoc, hp, Nat.mul_add, ← Nat.mul_assoc, Nat.mul_one, Nat.add_comm, Nat.add_mul_mod_self_right]
  rw [← e a, h, e b]
theorem mul_prime (a b : Nat) (ha : a < 18446744073709551616) (hb : b < 18446744073709551616) (h : a * 1099511628211 % 18446744073709551616 = b * 1099511628211 % 18446744073709551616) : a = b := by
  have := mod_cancel 1099511628211 14886173955864302971 887285111055 18446744073709551616 a b (by decide) h
  rwa [Nat.mod_eq_of_lt ha, Nat.mod_eq_of_lt hb] at this
theorem xor_cancel (n a b : Nat) (h : n ^^^ a = n ^^^ b) : a = b := by
  have h2 : n ^^^ (n ^^^ a) = n ^^^ (n ^^^ b) := by rw [h]
  rwa [← Nat.xor_assoc, ← Nat.xor_assoc, Nat.xor_self, Nat.zero_xor, Nat.zero_xor] at h2
theorem hashed_nat (n a : Nat) (hn : n < 18446744073709551616) (ha : a < 256) : hashed n a = (((n ^^^ a) * 1099511628211 % 18446744073709551616 : Nat) : Int) := by
  unfold hashed
  have ea : IntKind.u64.wrap (a : Int) = (a : Int) := by rw [IntKind.wrap_u64]; omega
  rw [ea, bits_xor_u64_nat n a hn (by omega), IntKind.wrap_u64]
  generalize n ^^^ a = c
  omega
theorem hashed_inj (h x y : Int) (h0 : 0 ≤ h) (h1 : h < 18446744073709551616) (x0 : 0 ≤ x) (x1 : x < 256) (y0 : 0 ≤ y) (y1 : y < 256) (e : hashed h x = hashed h y) : x = y := by
  obtain ⟨n, rfl⟩ := Int.eq_ofNat_of_zero_le h0
  obtain ⟨a, rfl⟩ := Int.eq_ofNat_of_zero_le x0
  obtain ⟨b, rfl⟩ := Int.eq_ofNat_of_zero_le y0
  have hn : n < 18446744073709551616 := by omega
  have ha : a < 256 := by omega
  have hb : b < 256 := by omega
  rw [hashed_nat n a hn ha, hashed_nat n b hn hb] at e
  have la : n ^^^ a < 2 ^ 64 := Nat.xor_lt_two_pow hn (Nat.lt_trans ha (by decide))
  have lb : n ^^^ b < 2 ^ 64 := Nat.xor_lt_two_pow hn (Nat.lt_trans hb (by decide))
  rw [xor_cancel n a b (mul_prime _ _ la lb (Int.ofNat.inj e))]
theorem hashOf_range (xs : List Int) : 0 ≤ hashOf xs ∧ hashOf xs < 18446744073709551616 := by
  unfold hashOf
  rcases List.eq_nil_or_concat xs with rfl | ⟨l, x, rfl⟩
  · decide
  · rw [List.concat_eq_append, List.foldl_append]; exact hashed_range _ _
theorem hashOf_snoc (xs : List Int) (x : Int) : hashOf (xs ++ [x]) = hashed (hashOf xs) x := by
  unfold hashOf; rw [List.foldl_append]; rfl
theorem hash_eq_iff (xs : List Int) (x y : Int) (x0 : 0 ≤ x) (x1 : x < 256) (y0 : 0 ≤ y) (y1 : y < 256) : (hashed (hashOf xs) x == hashed (hashOf xs) y) = (x == y) := by
  by_cases e : x = y
  · subst e; simp
  · rw [beq_eq_false_iff_ne.2 e, beq_eq_false_iff_ne.2 (fun h => e (hashed_inj _ x y (hashOf_range xs).1 (hashOf_range xs).2 x0 x1 y0 y1 h))]

set_option maxHeartbeats 1600000 in
theorem CrcHash_any (v1 : Value) (xs : List Int) (x y : Int) (w : World) (h1 : Bs w v1 xs) (x0 : 0 ≤ x) (x1 : x < 256) (y0 : 0 ≤ y) (y1 : y < 256) :
    Calls Try.prog 9 #[v1, .int .u8 x, .int .u8 y] w fun e w' => e = .returned (.bool true) ∧ Below w.heap.size w w' := by
  have P1 := Lib.hid (hash_eq_iff xs x y x0 x1 y0 y1)
  have Q1 := Lib.hid (hashOf_snoc xs x)
  have Q3 : Hid (IntKind.u64.wrap (Go.bits .xor .u64 (hashOf xs) x * 1099511628211) = hashed (hashOf xs) x) := by
    have ea : IntKind.u64.wrap x = x := by rw [IntKind.wrap_u64]; omega
    show _ = _
    unfold hashed
    rw [ea]
  have Q2 := Lib.hid (hashOf_snoc xs y)
  obtain ⟨A1, c1, rfl, hc1, hm1⟩ := h1.len
  have R1 := Lib.hid h1
  clear h1
  by_cases g1 : xs.length ≤ 1000
  · have HE := Lib.hid (Ow.lit (Below.refl w.heap.size w) [] (by simp))
    go_enter Try.func9, Try.ntmps9
    go_wp2_with fail
    refine (hash_any _ _ _ R1.out).mono ?_
    rintro e w' ⟨rfl, rfl⟩
    go_wp2_with (at_builtin; refine Held.of ?_)
    refine app_bytes rfl (.tmp 16) (.tmp 17) 22 rfl Try.underlying22 _ _ [] xs rfl rfl HE.out (R1.out.alloc _) (by (try simp only [List.length_append, List.length_nil, List.length_cons]); omega) ?_
    clear HE
    intro va w1 o1 _
    rw [List.nil_append] at o1
    obtain ⟨Aa, na, ca, rfl, hna⟩ := o1.slice
    have Hna := Lib.hid hna
    have O1 := Lib.hid o1
    clear hna o1
    go_wp2_with (at_builtin; refine Held.of ?_)
    refine app_byte rfl (.tmp 18) (.tmp 20) 22 rfl Try.underlying22 _ xs x rfl rfl O1.out (by omega) ?_
    intro va w2 o1 _
    obtain ⟨Aa, na, ca, rfl, hna⟩ := o1.slice
    have Hnb := Lib.hid hna
    have O2 := Lib.hid o1
    clear hna o1 O1
    have HE := Lib.hid (Ow.lit (Below.refl w2.heap.size w2) [] (by simp))
    go_wp2_with (at_builtin; refine Held.of ?_)
    refine app_bytes rfl (.tmp 22) (.tmp 23) 22 rfl Try.underlying22 _ _ [] xs rfl rfl HE.out ((R1.out.below O2.out.below).alloc _) (by (try simp only [List.length_append, List.length_nil, List.length_cons]); omega) ?_
    clear HE
    intro va w3 o1 _
    rw [List.nil_append] at o1
    obtain ⟨Ab, nb, cb, rfl, hna⟩ := o1.slice
    have Hnc := Lib.hid hna
    have O3 := Lib.hid o1
    clear hna o1
    go_wp2_with (at_builtin; refine Held.of ?_)
    refine app_byte rfl (.tmp 24) (.tmp 26) 22 rfl Try.underlying22 _ xs y rfl rfl O3.out (by omega) ?_
    intro va w4 o1 _
    obtain ⟨Ab, nb, cb, rfl, hna⟩ := o1.slice
    have Hnd := Lib.hid hna
    have O4 := Lib.hid o1
    clear hna o1 O3
    have O2' := Lib.hid (O2.out.step O4.out.below)
    clear O2
    go_wp2_with fail
    rw [Q3.out]
    refine (hash_any _ _ _ O2'.out.bs).mono ?_
    rintro e w' ⟨rfl, rfl⟩
    rw [Q1.out]
    go_wp2_with fail
    refine (hash_any _ _ _ O2'.out.bs).mono ?_
    rintro e w' ⟨rfl, rfl⟩
    rw [Q1.out]
    go_wp2_with fail
    refine (hash_any _ _ _ O4.out.bs).mono ?_
    rintro e w' ⟨rfl, rfl⟩
    rw [Q2.out]
    have hp := P1.out
    by_cases hxy : (x == y) = true
    · rw [hxy] at hp
      go_wp2_with fail
      refine (awake_any _).mono ?_
      rintro e w' ⟨rfl, hb⟩
      go_wp2_with fail
      go_ret
      exact ⟨rfl, O2'.out.below.trans (hb.mono O2'.out.below.size)⟩
    · rw [Bool.not_eq_true] at hxy
      rw [hxy] at hp
      go_wp2_with fail
      refine (awake_any _).mono ?_
      rintro e w' ⟨rfl, hb⟩
      go_wp2_with fail
      go_ret
      exact ⟨rfl, O2'.out.below.trans (hb.mono O2'.out.below.size)⟩
  · go_enter Try.func9, Try.ntmps9
    go_wp2
    go_ret
    exact ⟨rfl, Below.refl _ _⟩
end Go.Proofs.Ytokempdkfpbpmaa.Crc
