/- The plain law of CrcFlips: bits that are turned within 32 places turn the sum. -/
import Derived.Test.YtehndlafbbpofaaCrcPure
namespace Go.Proofs.Ytehndlafbbpofaa.Crc
open Go.RowKit
set_option linter.unusedVariables false
set_option linter.unusedSimpArgs false

def flipOf (cs : List Int) (p : Nat) : List Int := cs.set (p / 8) (Go.bits .xor .u8 (cs.getD (p / 8) 0) (2 ^ (p % 8)))
def csAt (xs : List Int) (f : Nat) (D : Int) : Nat → List Int
  | 0 => xs
  | k + 1 => if Go.bits .and .u32 (D / 2 ^ k) 1 = 1 then flipOf (csAt xs f D k) (f + k) else csAt xs f D k
def tAt (D : Int) : Nat → Bool
  | 0 => false
  | k + 1 => if Go.bits .and .u32 (D / 2 ^ k) 1 = 1 then true else tAt D k
theorem csAt_length (xs : List Int) (f : Nat) (D : Int) (k : Nat) : (csAt xs f D k).length = xs.length := by
  induction k with
  | zero => rfl
  | succ k ih => unfold csAt; split <;> simp [flipOf, ih]

theorem lows_length' (c : BitVec 32) (k : Nat) : (lows c k).length = k := by simp [lows]
theorem lows_get' (c : BitVec 32) (k i : Nat) (hi : i < k) : (lows c k)[i]? = some (c.getLsbD i) := by
  unfold lows
  rw [List.getElem?_map, List.getElem?_range hi]; rfl
theorem bitsOf_length (xs : List Int) : (bitsOf xs).length = 8 * xs.length := by
  induction xs with
  | nil => rfl
  | cons x xs ih =>
    unfold bitsOf at ih ⊢
    rw [List.flatMap_cons, List.length_append, ih, lows_length', List.length_cons]; omega
theorem bitsOf_get (xs : List Int) : ∀ i, i < 8 * xs.length → (bitsOf xs)[i]? = some ((BitVec.ofInt 32 (xs.getD (i / 8) 0)).getLsbD (i % 8)) := by
  induction xs with
  | nil => intro i hi; simp at hi
  | cons x xs ih =>
    intro i hi
    rw [List.length_cons] at hi
    unfold bitsOf at ih ⊢
    rw [List.flatMap_cons]
    by_cases h8 : i < 8
    · rw [List.getElem?_append_left (by rw [lows_length']; exact h8), lows_get' _ _ _ h8]
      have e1 : i / 8 = 0 := by omega
      have e2 : i % 8 = i := by omega
      rw [e1, e2]; rfl
    · rw [List.getElem?_append_right (by rw [lows_length']; omega), lows_length', ih (i - 8) (by omega)]
      have e1 : i / 8 = (i - 8) / 8 + 1 := by omega
      have e2 : i % 8 = (i - 8) % 8 := by omega
      rw [e1, e2, List.getD_cons_succ]
theorem xor_byte (a b : Int) (a0 : 0 ≤ a) (a1 : a < 256) (b0 : 0 ≤ b) (b1 : b < 256) : BitVec.ofInt 32 (Go.bits .xor .u8 a b) = BitVec.ofInt 32 a ^^^ BitVec.ofInt 32 b ∧ 0 ≤ Go.bits .xor .u8 a b ∧ Go.bits .xor .u8 a b < 256 := by
  obtain ⟨n, rfl⟩ := Int.eq_ofNat_of_zero_le a0
  obtain ⟨m, rfl⟩ := Int.eq_ofNat_of_zero_le b0
  rw [u8_xor_nat n m (by omega) (by omega)]
  have : n ^^^ m < 2 ^ 8 := Nat.xor_lt_two_pow (by omega) (by omega)
  refine ⟨?_, by omega, by omega⟩
  apply BitVec.eq_of_toNat_eq
  rw [BitVec.toNat_xor, ofInt_u32 _ (by omega), ofInt_u32 _ (by omega), ofInt_u32 _ (by omega)]
theorem pow_byte (j : Nat) (hj : j < 8) : (0 : Int) ≤ 2 ^ j ∧ (2 : Int) ^ j < 256 ∧ ∀ i, i < 8 → (BitVec.ofInt 32 (2 ^ j)).getLsbD i = decide (i = j) := by
  rcases (by omega : j = 0 ∨ j = 1 ∨ j = 2 ∨ j = 3 ∨ j = 4 ∨ j = 5 ∨ j = 6 ∨ j = 7) with h | h | h | h | h | h | h | h <;> subst h <;> decide
theorem flip_bytes (cs : List Int) (p : Nat) (h : Bytes cs) (hp : p < 8 * cs.length) : Bytes (flipOf cs p) ∧ ∀ i, i < 8 * cs.length →
    (BitVec.ofInt 32 ((flipOf cs p).getD (i / 8) 0)).getLsbD (i % 8) = ((BitVec.ofInt 32 (cs.getD (i / 8) 0)).getLsbD (i % 8) ^^ decide (i = p)) := by
  have hq : p / 8 < cs.length := by omega
  have e0 : cs.getD (p / 8) 0 = cs[p / 8] := by rw [List.getD_eq_getElem?_getD, List.getElem?_eq_getElem hq]; rfl
  have hc := h _ (List.getElem_mem hq)
  obtain ⟨q0, q1, q2⟩ := pow_byte (p % 8) (by omega)
  obtain ⟨e1, r0, r1⟩ := xor_byte (cs.getD (p / 8) 0) (2 ^ (p % 8)) (by rw [e0]; exact hc.1) (by rw [e0]; exact hc.2) q0 q1
  constructor
  · intro x hx
    rcases List.mem_or_eq_of_mem_set hx with hx | hx
    · exact h x hx
    · rw [hx]; exact ⟨r0, r1⟩
  · intro i hi
    unfold flipOf
    by_cases e : i / 8 = p / 8
    · rw [e, List.getD_eq_getElem?_getD, List.getElem?_set_self hq, Option.getD_some, e1, BitVec.getLsbD_xor, q2 _ (by omega)]
      congr 1
      apply decide_eq_decide.2
      omega
    · rw [List.getD_eq_getElem?_getD, List.getElem?_set_ne (fun h => e h.symm), ← List.getD_eq_getElem?_getD]
      have : decide (i = p) = false := decide_eq_false (by intro h; exact e (by rw [h]))
      rw [this, Bool.xor_false]
theorem U_shift (d : BitVec 32) (k : Nat) : U d / (2 : Int) ^ k = U (d >>> k) := by
  unfold U
  have e1 : ((d.toNat : Nat) : Int) / (2 : Int) ^ k = ((d.toNat / 2 ^ k : Nat) : Int) := by simp
  rw [e1, BitVec.toNat_ushiftRight, Nat.shiftRight_eq_div_pow]
theorem bit_told (d : BitVec 32) (k : Nat) : (Go.bits .and .u32 (U d / 2 ^ k) 1 = 1) ↔ d.getLsbD k = true := by
  rw [U_shift, U_low]
  simp
theorem csAt_bits (xs : List Int) (f : Nat) (d : BitVec 32) (h : Bytes xs) : ∀ k, f + k ≤ 8 * xs.length → Bytes (csAt xs f (U d) k) ∧ ∀ i, i < 8 * xs.length →
    (BitVec.ofInt 32 ((csAt xs f (U d) k).getD (i / 8) 0)).getLsbD (i % 8) = ((BitVec.ofInt 32 (xs.getD (i / 8) 0)).getLsbD (i % 8) ^^ (decide (f ≤ i) && decide (i < f + k) && d.getLsbD (i - f))) := by
  intro k
  induction k with
  | zero =>
    intro _
    refine ⟨h, fun i hi => ?_⟩
    have : (decide (f ≤ i) && decide (i < f + 0) && d.getLsbD (i - f)) = false := by
      by_cases h1 : f ≤ i
      · have : decide (i < f + 0) = false := decide_eq_false (by omega)
        rw [this]; simp
      · have : decide (f ≤ i) = false := decide_eq_false h1
        rw [this]; simp
    rw [this, Bool.xor_false]; rfl
  | succ k ih =>
    intro hk
    obtain ⟨hb, hi⟩ := ih (by omega)
    unfold csAt
    by_cases hd : d.getLsbD k = true
    · rw [if_pos ((bit_told d k).2 hd)]
      obtain ⟨fb, fi⟩ := flip_bytes (csAt xs f (U d) k) (f + k) hb (by rw [csAt_length]; omega)
      refine ⟨fb, fun i hl => ?_⟩
      rw [fi i (by rw [csAt_length]; exact hl), hi i hl, Bool.xor_assoc]
      congr 1
      by_cases e : i = f + k
      · subst e
        have a1 : decide (f + k < f + k) = false := decide_eq_false (by omega)
        have a2 : decide (f ≤ f + k) = true := decide_eq_true (by omega)
        have a3 : decide (f + k < f + (k + 1)) = true := decide_eq_true (by omega)
        have a4 : f + k - f = k := by omega
        rw [a1, a2, a3, a4, hd]; simp
      · have a1 : decide (i = f + k) = false := decide_eq_false e
        have a2 : decide (i < f + k) = decide (i < f + (k + 1)) := decide_eq_decide.2 (by omega)
        rw [a1, a2, Bool.xor_false]
    · have hd0 : d.getLsbD k = false := by simpa using hd
      rw [if_neg (fun h => hd ((bit_told d k).1 h))]
      refine ⟨hb, fun i hl => ?_⟩
      rw [hi i hl]
      congr 1
      by_cases e : i = f + k
      · subst e
        have a1 : decide (f + k < f + k) = false := decide_eq_false (by omega)
        have a4 : f + k - f = k := by omega
        rw [a1, a4, hd0]; simp
      · have a2 : decide (i < f + k) = decide (i < f + (k + 1)) := decide_eq_decide.2 (by omega)
        rw [a2]
def delta (f k n : Nat) (d : BitVec 32) : List Bool := List.replicate f false ++ (lows d k ++ List.replicate (n - f - k) false)
theorem delta_length (f k n : Nat) (d : BitVec 32) (h : f + k ≤ n) : (delta f k n d).length = n := by
  unfold delta
  rw [List.length_append, List.length_append, lows_length', List.length_replicate, List.length_replicate]; omega
theorem delta_get (f k n : Nat) (d : BitVec 32) (h : f + k ≤ n) (i : Nat) (hi : i < n) : (delta f k n d)[i]? = some (decide (f ≤ i) && decide (i < f + k) && d.getLsbD (i - f)) := by
  unfold delta
  by_cases h1 : i < f
  · rw [List.getElem?_append_left (by rw [List.length_replicate]; exact h1), List.getElem?_replicate, if_pos h1]
    have : decide (f ≤ i) = false := decide_eq_false (by omega)
    rw [this]; simp
  · have a1 : decide (f ≤ i) = true := decide_eq_true (by omega)
    rw [List.getElem?_append_right (by rw [List.length_replicate]; omega), List.length_replicate, a1]
    by_cases h2 : i < f + k
    · have a2 : decide (i < f + k) = true := decide_eq_true h2
      rw [List.getElem?_append_left (by rw [lows_length']; omega), lows_get' _ _ _ (by omega), a2]; simp
    · have a2 : decide (i < f + k) = false := decide_eq_false h2
      rw [List.getElem?_append_right (by rw [lows_length']; omega), lows_length', List.getElem?_replicate, if_pos (by omega), a2]; simp
theorem csAt_zip (xs : List Int) (f : Nat) (d : BitVec 32) (h : Bytes xs) (k : Nat) (hk : f + k ≤ 8 * xs.length) :
    bitsOf (csAt xs f (U d) k) = List.zipWith Bool.xor (bitsOf xs) (delta f k (8 * xs.length) d) := by
  obtain ⟨_, hb⟩ := csAt_bits xs f d h k hk
  apply List.ext_getElem?
  intro i
  by_cases hi : i < 8 * xs.length
  · rw [bitsOf_get _ i (by rw [csAt_length]; exact hi), hb i hi, List.getElem?_zipWith, bitsOf_get xs i hi, delta_get f k _ d hk i hi]
  · rw [List.getElem?_eq_none (by rw [bitsOf_length, csAt_length]; omega), List.getElem?_eq_none (by rw [List.length_zipWith, bitsOf_length]; omega)]
theorem feed_xor (r e : BitVec 32) (b c : Bool) : feed (r ^^^ e) (b ^^ c) = feed r b ^^^ feed e c := by
  unfold feed
  have hx : (r.getLsbD 0 ^^ e.getLsbD 0 ^^ (b ^^ c)) = ((r.getLsbD 0 ^^ b) ^^ (e.getLsbD 0 ^^ c)) := by
    cases r.getLsbD 0 <;> cases e.getLsbD 0 <;> cases b <;> cases c <;> rfl
  rw [BitVec.ushiftRight_xor_distrib, BitVec.getLsbD_xor, hx, msk_xor, xor4]
theorem feeds_xor (bs : List Bool) : ∀ (ds : List Bool) (r e : BitVec 32), bs.length = ds.length → (List.zipWith Bool.xor bs ds).foldl feed (r ^^^ e) = bs.foldl feed r ^^^ ds.foldl feed e := by
  induction bs with
  | nil => intro ds r e h; cases ds with
    | nil => rfl
    | cons _ _ => simp at h
  | cons b bs ih => intro ds r e h; cases ds with
    | nil => simp at h
    | cons c ds =>
      rw [List.zipWith_cons_cons, List.foldl_cons, List.foldl_cons, List.foldl_cons, feed_xor, ih ds _ _ (by simpa using h)]
theorem feed_false' (r : BitVec 32) : feed r false = stepB r := by unfold feed stepB; rw [Bool.xor_false]
theorem feeds_false' (k : Nat) : ∀ r, (List.replicate k false).foldl feed r = stepsB k r := by
  induction k with
  | zero => intro r; rfl
  | succ k ih => intro r; rw [List.replicate_succ, List.foldl_cons, feed_false', ih]; rfl
theorem stepB_zero_iff (x : BitVec 32) (h : stepB x = 0#32) : x = 0#32 := by
  unfold stepB at h
  have t : (x >>> 1 ^^^ msk (x.getLsbD 0)).getLsbD 31 = false := by rw [h]; rfl
  rw [BitVec.getLsbD_xor] at t
  have t1 : (x >>> 1).getLsbD 31 = false := by simp
  rw [t1, Bool.false_xor] at t
  have t0 : x.getLsbD 0 = false := by
    cases e : x.getLsbD 0 with
    | false => rfl
    | true => rw [e] at t; exact absurd t (by decide)
  rw [t0] at h
  have h2 : x >>> 1 = 0#32 := by simpa [msk] using h
  apply BitVec.eq_of_getLsbD_eq
  intro i hi
  rw [BitVec.getLsbD_zero]
  rcases Nat.eq_zero_or_pos i with rfl | hp
  · exact t0
  · have : (x >>> 1).getLsbD (i - 1) = false := by rw [h2]; simp
    rw [BitVec.getLsbD_ushiftRight] at this
    have e : 1 + (i - 1) = i := by omega
    rwa [e] at this
theorem stepsB_zero_iff (k : Nat) : ∀ x, stepsB k x = 0#32 → x = 0#32 := by
  induction k with
  | zero => intro x h; exact h
  | succ k ih => intro x h; exact stepB_zero_iff x (ih _ h)
/-- The low k bits alone. -/
def lowOf (d : BitVec 32) (k : Nat) : BitVec 32 := BitVec.ofNat 32 (d.toNat % 2 ^ k)
theorem lowOf_nat (d : BitVec 32) (k : Nat) : (lowOf d k).toNat = d.toNat % 2 ^ k := by
  unfold lowOf
  rw [BitVec.toNat_ofNat]
  exact Nat.mod_eq_of_lt (Nat.lt_of_le_of_lt (Nat.mod_le _ _) d.isLt)
theorem lowOf_bit (d : BitVec 32) (k i : Nat) : (lowOf d k).getLsbD i = (decide (i < k) && d.getLsbD i) := by
  rw [← BitVec.testBit_toNat, lowOf_nat, Nat.testBit_mod_two_pow, BitVec.testBit_toNat]
theorem lows_lowOf (d : BitVec 32) (k : Nat) : lows d k = lows (lowOf d k) k := by
  unfold lows
  apply List.map_congr_left
  intro i hi
  rw [lowOf_bit]
  have : decide (i < k) = true := decide_eq_true (List.mem_range.1 hi)
  rw [this, Bool.true_and]
theorem lowOf_shift (d : BitVec 32) (k : Nat) : lowOf d k >>> k = 0#32 := by
  apply BitVec.eq_of_toNat_eq
  rw [BitVec.toNat_ushiftRight, lowOf_nat, Nat.shiftRight_eq_div_pow]
  exact Nat.div_eq_of_lt (Nat.mod_lt _ (Nat.two_pow_pos k))
theorem feeds_low (d : BitVec 32) (k : Nat) : (lows d k).foldl feed 0#32 = stepsB k (lowOf d k) := by
  have := stepsB_feeds k 0#32 (lowOf d k)
  rw [lowOf_shift, BitVec.xor_zero, BitVec.zero_xor] at this
  rw [lows_lowOf, this]
theorem tAt_low (d : BitVec 32) : ∀ k, k ≤ 32 → (tAt (U d) k = true ↔ lowOf d k ≠ 0#32) := by
  intro k
  induction k with
  | zero =>
    intro _
    unfold tAt lowOf
    simp [Nat.mod_one]
  | succ k ih =>
    intro hk
    have ih := ih (by omega)
    unfold tAt
    by_cases hd : d.getLsbD k = true
    · rw [if_pos ((bit_told d k).2 hd)]
      refine ⟨fun _ h => ?_, fun _ => rfl⟩
      have := lowOf_bit d (k + 1) k
      rw [h, hd] at this
      simp at this
    · rw [if_neg (fun h => hd ((bit_told d k).1 h)), ih]
      have e : lowOf d (k + 1) = lowOf d k := by
        apply BitVec.eq_of_getLsbD_eq
        intro i _
        rw [lowOf_bit, lowOf_bit]
        by_cases e : i = k
        · subst e
          have hd0 : d.getLsbD i = false := by simpa using hd
          rw [hd0]; simp
        · have : decide (i < k + 1) = decide (i < k) := decide_eq_decide.2 (by omega)
          rw [this]
      rw [e]
theorem flips_pure (xs : List Int) (f : Nat) (D : Int) (k : Nat) (h : Bytes xs) (D0 : 0 ≤ D) (D1 : D < 4294967296) (hk : k ≤ 32) (hfk : f + k ≤ 8 * xs.length) :
    (sumOf (csAt xs f D k) != sumOf xs) = tAt D k := by
  obtain ⟨d, rfl⟩ : ∃ d, D = U d := ⟨BitVec.ofInt 32 D, (U_ofInt D D0 D1).symm⟩
  have hb := (csAt_bits xs f d h k hfk).1
  have hz := csAt_zip xs f d h k hfk
  have hl : (bitsOf xs).length = (delta f k (8 * xs.length) d).length := by rw [bitsOf_length, delta_length _ _ _ _ hfk]
  have hx := feeds_xor (bitsOf xs) (delta f k (8 * xs.length) d) F 0#32 hl
  rw [BitVec.xor_zero, ← hz] at hx
  have hd : (delta f k (8 * xs.length) d).foldl feed 0#32 = stepsB (8 * xs.length - f - k) (stepsB k (lowOf d k)) := by
    unfold delta
    rw [List.foldl_append, List.foldl_append, feeds_false', feeds_false', stepsB_zero, feeds_low]
  rw [hd] at hx
  rw [sum_U _ hb, sum_U _ h, hx]
  generalize (bitsOf xs).foldl feed F = r
  by_cases ht : tAt (U d) k = true
  · rw [ht, bne_iff_ne]
    intro hu
    have h2 := U_inj hu
    have h3 : F ^^^ (F ^^^ (r ^^^ stepsB (8 * xs.length - f - k) (stepsB k (lowOf d k)))) = F ^^^ (F ^^^ r) := by rw [h2]
    rw [← BitVec.xor_assoc, ← BitVec.xor_assoc F F r, BitVec.xor_self, BitVec.zero_xor, BitVec.zero_xor] at h3
    have h4 : r ^^^ (r ^^^ stepsB (8 * xs.length - f - k) (stepsB k (lowOf d k))) = r ^^^ r := by rw [h3]
    rw [← BitVec.xor_assoc, BitVec.xor_self, BitVec.zero_xor] at h4
    exact (tAt_low d k hk).1 ht (stepsB_zero_iff _ _ (stepsB_zero_iff _ _ h4))
  · have hn : lowOf d k = 0#32 := by
      rcases Classical.em (lowOf d k = 0#32) with h | h
      · exact h
      · exact absurd ((tAt_low d k hk).2 h) ht
    have ht' : tAt (U d) k = false := by simpa using ht
    rw [ht', hn, stepsB_zero, stepsB_zero, BitVec.xor_zero]
    simp
end Go.Proofs.Ytehndlafbbpofaa.Crc
