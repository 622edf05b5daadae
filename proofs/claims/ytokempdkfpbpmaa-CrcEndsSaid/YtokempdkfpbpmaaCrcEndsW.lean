/- The walk of the law CrcEnds. -/
import Derived.Test.YtokempdkfpbpmaaCrcLaws
namespace Go.Proofs.Ytokempdkfpbpmaa.Crc
open Go.RowKit Go.Proofs.YtokempdkfpbpmaaW.PrintWords Go.Proofs.Ytokempdkfpbpmaa.Base
set_option linter.unusedVariables false
set_option linter.unusedSimpArgs false

theorem lows_get (c : BitVec 32) (k : Nat) : ∀ i, i < k → (lows c k)[i]? = some (c.getLsbD i) := by
  intro i hi
  unfold lows
  rw [List.getElem?_map, List.getElem?_range hi]; rfl
theorem lows_length (c : BitVec 32) (k : Nat) : (lows c k).length = k := by simp [lows]
theorem lows_append (c : BitVec 32) (k j : Nat) : lows c (k + j) = lows c k ++ lows (c >>> k) j := by
  unfold lows
  rw [List.range_add, List.map_append, List.map_map]
  congr 1
  apply List.map_congr_left
  intro i _
  simp
theorem byte_lows (c : BitVec 32) (k : Nat) : lows (BitVec.ofInt 32 (U c / 2 ^ k % 256)) 8 = lows (c >>> k) 8 := by
  unfold lows
  apply List.map_congr_left
  intro i hi
  have hi : i < 8 := List.mem_range.1 hi
  have e : U c / (2 : Int) ^ k % (256 : Int) = (((c >>> k).toNat % 2 ^ 8 : Nat) : Int) := by
    unfold U
    have e1 : ((c.toNat : Nat) : Int) / (2 : Int) ^ k = ((c.toNat / 2 ^ k : Nat) : Int) := by simp
    rw [e1, BitVec.toNat_ushiftRight, Nat.shiftRight_eq_div_pow]
    generalize c.toNat / 2 ^ k = m
    omega
  rw [e, ← BitVec.testBit_toNat, ofInt_u32 _ (by omega), Nat.testBit_mod_two_pow, BitVec.testBit_toNat]
  simp [hi]
def endBytes (s : Int) : List Int := [s % 256, s / 256 % 256, s / 65536 % 256, s / 16777216 % 256]
theorem endBytes_bits (c : BitVec 32) : bitsOf (endBytes (U c)) = lows c 32 := by
  have h0 := byte_lows c 0
  have h1 := byte_lows c 8
  have h2 := byte_lows c 16
  have h3 := byte_lows c 24
  have e0 : (2 : Int) ^ 0 = 1 := rfl
  have e1 : (2 : Int) ^ 8 = 256 := rfl
  have e2 : (2 : Int) ^ 16 = 65536 := rfl
  have e3 : (2 : Int) ^ 24 = 16777216 := rfl
  rw [e0, Int.ediv_one] at h0
  rw [e1] at h1
  rw [e2] at h2
  rw [e3] at h3
  have a1 := lows_append c 8 24
  have a2 := lows_append (c >>> 8) 8 16
  have a3 := lows_append (c >>> 8 >>> 8) 8 8
  rw [← BitVec.shiftRight_add, ← BitVec.shiftRight_add] at a3
  rw [← BitVec.shiftRight_add] at a2
  unfold bitsOf endBytes
  rw [List.flatMap_cons, List.flatMap_cons, List.flatMap_cons, List.flatMap_cons, List.flatMap_nil, h0, h1, h2, h3, a1, a2, a3, List.append_nil]
  simp
theorem endBytes_bytes (s : Int) : Bytes (endBytes s) := by
  intro x hx
  simp only [endBytes, List.mem_cons, List.not_mem_nil, or_false] at hx
  omega
def endConst : Int := U (F ^^^ stepsB 32 F)
theorem ends_pure (xs : List Int) (h : Bytes xs) : sumOf (xs ++ endBytes (sumOf xs)) = endConst := by
  have h2 : Bytes (xs ++ endBytes (sumOf xs)) := fun x hx => (List.mem_append.1 hx).elim (h x) (endBytes_bytes _ x)
  rw [sum_U _ h2]
  unfold bitsOf
  rw [List.flatMap_append, List.foldl_append]
  show U (F ^^^ (bitsOf (endBytes (sumOf xs))).foldl feed ((bitsOf xs).foldl feed F)) = _
  rw [sum_U xs h, endBytes_bits]
  generalize (bitsOf xs).foldl feed F = r
  have := stepsB_feeds 32 r (F ^^^ r)
  have z : (F ^^^ r) >>> 32 = 0#32 := by
    apply BitVec.eq_of_toNat_eq
    rw [BitVec.toNat_ushiftRight, Nat.shiftRight_eq_div_pow]
    exact Nat.div_eq_of_lt (F ^^^ r).isLt
  rw [z, BitVec.xor_zero] at this
  rw [← this]
  have e : r ^^^ (F ^^^ r) = F := by rw [BitVec.xor_comm F r, ← BitVec.xor_assoc, BitVec.xor_self, BitVec.zero_xor]
  rw [e]; rfl

set_option maxHeartbeats 1600000 in
theorem ends_any (v1 : Value) (xs : List Int) (w : World) (h1 : Bs w v1 xs) (b1 : Bytes xs) (g1 : xs.length ≤ 1000) :
    Calls Try.prog 21 #[v1] w fun e w' => e = .returned (.int .u32 endConst) ∧ Below w.heap.size w w' := by
  have P1 := Lib.hid (ends_pure xs b1)
  obtain ⟨A1, c1, rfl, hc1, hm1⟩ := h1.len
  have R1 := Lib.hid h1
  obtain ⟨r, hr⟩ : ∃ r, sumOf xs = U r := ⟨_, sum_U xs b1⟩
  have hr0 := U_range r
  rw [← hr] at hr0
  obtain ⟨s0, s1⟩ := hr0
  obtain ⟨s, hs⟩ : ∃ s, sumOf xs = s := ⟨_, rfl⟩
  rw [hs] at P1 s0 s1
  have HS := Lib.hid hs
  clear h1 hr hs
  have HE := Lib.hid (Ow.lit (Below.refl w.heap.size w) [] (by simp))
  go_enter Try.func21, Try.ntmps21
  go_wp2_with fail
  refine (sum_any _ _ _ R1.out).mono ?_
  rintro e w' ⟨rfl, rfl⟩
  rw [HS.out]
  go_wp2_with (at_builtin; refine Held.of ?_)
  refine app_bytes rfl (.tmp 6) (.tmp 7) 22 rfl Try.underlying22 _ _ [] xs rfl rfl HE.out (R1.out.alloc _) (by (try simp only [List.length_append, List.length_nil, List.length_cons]); omega) ?_
  clear HE
  intro va w1 o1 _
  rw [List.nil_append] at o1
  obtain ⟨Aa, na, ca, rfl, hna⟩ := o1.slice
  have Hna := Lib.hid hna
  have O1 := Lib.hid o1
  clear hna o1
  go_wp2_with (at_builtin; refine Held.of ?_)
  have E3 : s / 16777216 = s / 16777216 % 256 := by omega
  rw [E3]
  clear E3
  refine app_bytes rfl (.tmp 8) (.tmp 20) 22 rfl Try.underlying22 _ _ xs (endBytes s) rfl rfl (O1.out.alloc _) (Bs.lit w1 _ (endBytes s) (by simp [endBytes])) (by simp [endBytes]; omega) ?_
  intro va w2 o1 _
  obtain ⟨Ab, nb, cb, rfl, hna⟩ := o1.slice
  have Hnb := Lib.hid hna
  have O2 := Lib.hid o1
  clear hna o1
  go_wp2_with fail
  refine (sum_any _ _ _ O2.out.bs).mono ?_
  rintro e w' ⟨rfl, rfl⟩
  rw [P1.out]
  go_wp2_with fail
  go_ret
  exact ⟨rfl, O2.out.below⟩

set_option maxHeartbeats 1600000 in
theorem CrcEnds_any (v1 v2 : Value) (xs ys : List Int) (w : World) (h1 : Bs w v1 xs) (h2 : Bs w v2 ys) (b1 : Bytes xs) (b2 : Bytes ys) :
    Calls Try.prog 8 #[v1, v2] w fun e w' => e = .returned (.bool true) ∧ Below w.heap.size w w' := by
  obtain ⟨A1, c1, rfl, hc1, hm1⟩ := h1.len
  obtain ⟨A2, c2, rfl, hc2, hm2⟩ := h2.len
  have R1 := Lib.hid h1
  have R2 := Lib.hid h2
  have B1 := Lib.hid b1
  have B2 := Lib.hid b2
  clear h1 h2 b1 b2
  by_cases g1 : xs.length ≤ 1000
  · by_cases g2 : ys.length ≤ 1000
    · go_enter Try.func8, Try.ntmps8
      go_wp2_with fail
      refine (ends_any _ _ _ R1.out B1.out g1).mono ?_
      rintro e w1 ⟨rfl, hb1⟩
      have HB1 := Lib.hid hb1
      clear hb1
      go_wp2_with fail
      refine (ends_any _ _ _ (R2.out.below HB1.out) B2.out g2).mono ?_
      rintro e w2 ⟨rfl, hb2⟩
      have HB2 := Lib.hid hb2
      clear hb2
      go_wp2_with fail
      refine (awake_any _).mono ?_
      rintro e w3 ⟨rfl, hb⟩
      go_wp2_with fail
      go_ret
      exact ⟨rfl, (HB1.out.trans (HB2.out.mono HB1.out.size)).trans (hb.mono (Nat.le_trans HB1.out.size HB2.out.size))⟩
    · go_enter Try.func8, Try.ntmps8
      go_wp2
      go_ret
      exact ⟨rfl, Below.refl _ _⟩
  · go_enter Try.func8, Try.ntmps8
    go_wp2
    go_ret
    exact ⟨rfl, Below.refl _ _⟩
end Go.Proofs.Ytokempdkfpbpmaa.Crc
