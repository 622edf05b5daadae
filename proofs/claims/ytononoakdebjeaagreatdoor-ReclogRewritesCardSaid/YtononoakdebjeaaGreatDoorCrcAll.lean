/- The plain law of chapter 1: the register of a sum as a shift register over bits; nothing of the program; The contracts of the functions of package crc (walks); The contracts of the references of chapter 1, and of the laws' helpers. -/
import Derived.Laws.BitsAllLaws
import Derived.Laws.Bits64
import Derived.Below
import Derived.Test.YtononoakdebjeaaGreatDoorBase
namespace Go.Proofs.YtononoakdebjeaaGreatDoor.Crc
open Go.RowKit
set_option linter.unusedVariables false
set_option linter.unusedSimpArgs false

/-! what the program computes -/
/-- One round of the register. -/
def step (r : Int) : Int := if Go.bits .and .u32 r 1 = 1 then Go.bits .xor .u32 (r / 2) 3988292384 else r / 2
def steps : Nat → Int → Int
  | 0, r => r
  | k + 1, r => steps k (step r)
def shifted (r c : Int) : Int := steps 8 (Go.bits .xor .u32 r (c % 4294967296))
def hashed (h c : Int) : Int := IntKind.u64.wrap ((Go.bits .xor .u64 h (IntKind.u64.wrap c)) * 1099511628211)
def flip32 (x : Int) : Int := Go.bits .xor .u32 IntKind.u32.max x
def moreOf (r : Int) (xs : List Int) : Int := flip32 (xs.foldl shifted (flip32 r))
def sumOf (xs : List Int) : Int := moreOf 0 xs
def hashOf (xs : List Int) : Int := xs.foldl hashed 14695981039346656037
theorem steps_succ (k : Nat) (r : Int) : steps (k + 1) r = steps k (step r) := rfl

/-! what the references compute -/
def refHashStep (h c : Int) : Int := IntKind.u64.wrap (IntKind.u64.wrap (IntKind.u64.wrap (h - h.tmod 256) + Go.bits .xor .u64 (h.tmod 256) (IntKind.u64.wrap c)) * 1099511628211)
def refHash (xs : List Int) : Int := xs.foldl refHashStep 14695981039346656037
def refBitOf (x : Int) (j : Nat) : Int := Go.bits .and .u32 (x / 2 ^ j % 4294967296) 1
def refBit (xs : List Int) (k : Nat) : Int := refBitOf (xs.getD ((k : Int) / 8).toNat 0) (k % 8)
def refStep (r b : Int) : Int := if (Go.bits .and .u32 r 1 != b) = true then Go.bits .xor .u32 (r.tdiv 2 % 4294967296) 3988292384 else r.tdiv 2 % 4294967296
def refTo (xs : List Int) : Nat → Int
  | 0 => 4294967295
  | k + 1 => refStep (refTo xs k) (refBit xs k)
def refSum (xs : List Int) : Int := (4294967295 - refTo xs (8 * xs.length)) % 4294967296

/-- All are bytes. -/
def Bytes (xs : List Int) : Prop := ∀ x ∈ xs, 0 ≤ x ∧ x < 256

/-! the register as a word -/
def U (x : BitVec 32) : Int := x.toNat
theorem U_range (x : BitVec 32) : 0 ≤ U x ∧ U x < 4294967296 := by have := x.isLt; unfold U; omega
theorem U_inj {x y : BitVec 32} (h : U x = U y) : x = y := BitVec.eq_of_toNat_eq (by unfold U at h; omega)
theorem xor_U (x y : BitVec 32) : Go.bits .xor .u32 (U x) (U y) = U (x ^^^ y) := by
  have := u32_xor_nat x.toNat y.toNat x.isLt y.isLt
  unfold U
  rw [this, BitVec.toNat_xor]
def P : BitVec 32 := 0xedb88320#32
theorem U_P : U P = 3988292384 := by decide
theorem U_div (x : BitVec 32) : U x / (2 : Int) = U (x >>> 1) := by
  unfold U
  rw [BitVec.toNat_ushiftRight, Nat.shiftRight_eq_div_pow]
  omega
theorem U_low (x : BitVec 32) : Go.bits .and .u32 (U x) 1 = if x.getLsbD 0 then 1 else 0 := by
  have := u32_and_nat x.toNat 1 x.isLt (by decide)
  unfold U
  have e : ((1 : Nat) : Int) = 1 := rfl
  rw [← e, this, Nat.and_one_is_mod, ← BitVec.testBit_toNat, Nat.testBit_zero]
  by_cases h : x.toNat % 2 = 1 <;> simp [h]
  omega

def msk (b : Bool) : BitVec 32 := if b then P else 0#32
def stepB (x : BitVec 32) : BitVec 32 := (x >>> 1) ^^^ msk (x.getLsbD 0)
def stepsB : Nat → BitVec 32 → BitVec 32
  | 0, r => r
  | k + 1, r => stepsB k (stepB r)
def feed (r : BitVec 32) (b : Bool) : BitVec 32 := (r >>> 1) ^^^ msk (r.getLsbD 0 ^^ b)

theorem step_U (x : BitVec 32) : step (U x) = U (stepB x) := by
  unfold step stepB msk
  rw [U_low, U_div, ← U_P, xor_U]
  cases x.getLsbD 0 <;> simp
theorem steps_U (k : Nat) : ∀ x, steps k (U x) = U (stepsB k x) := by
  induction k with
  | zero => intro x; rfl
  | succ k ih => intro x; rw [steps, step_U, ih]; rfl

theorem xor4 (a b c d : BitVec 32) : (a ^^^ b) ^^^ (c ^^^ d) = (a ^^^ c) ^^^ (b ^^^ d) := by
  rw [BitVec.xor_assoc, BitVec.xor_assoc, ← BitVec.xor_assoc b c d, BitVec.xor_comm b c, BitVec.xor_assoc]
theorem msk_xor (a b : Bool) : msk (a ^^ b) = msk a ^^^ msk b := by
  cases a <;> cases b <;> simp [msk]
theorem stepB_xor (x y : BitVec 32) : stepB (x ^^^ y) = stepB x ^^^ stepB y := by
  unfold stepB
  rw [BitVec.ushiftRight_xor_distrib, BitVec.getLsbD_xor, msk_xor, xor4]
theorem stepsB_xor (k : Nat) : ∀ x y, stepsB k (x ^^^ y) = stepsB k x ^^^ stepsB k y := by
  induction k with
  | zero => intros; rfl
  | succ k ih => intro x y; rw [stepsB, stepB_xor, ih]; rfl
theorem stepB_zero : stepB 0#32 = 0#32 := by decide
theorem stepsB_zero (k : Nat) : stepsB k 0#32 = 0#32 := by
  induction k with
  | zero => rfl
  | succ k ih => rw [stepsB, stepB_zero, ih]
theorem stepB_feed (r c : BitVec 32) : stepB (r ^^^ c) = feed r (c.getLsbD 0) ^^^ (c >>> 1) := by
  unfold stepB feed
  rw [BitVec.ushiftRight_xor_distrib, BitVec.getLsbD_xor, BitVec.xor_assoc, BitVec.xor_assoc, BitVec.xor_comm (c >>> 1)]
/-- The low k bits of a word, the lowest first. -/
def lows (c : BitVec 32) (k : Nat) : List Bool := (List.range k).map fun i => c.getLsbD i
theorem lows_succ (c : BitVec 32) (k : Nat) : lows c (k + 1) = c.getLsbD 0 :: lows (c >>> 1) k := by
  unfold lows
  rw [List.range_succ_eq_map, List.map_cons, List.map_map]
  congr 1
  apply List.map_congr_left
  intro i _
  simp [BitVec.getLsbD_ushiftRight, Nat.add_comm]
theorem stepsB_feeds (k : Nat) : ∀ r c, stepsB k (r ^^^ c) = (lows c k).foldl feed r ^^^ (c >>> k) := by
  induction k with
  | zero => intro r c; simp [stepsB, lows]
  | succ k ih =>
    intro r c
    rw [stepsB, stepB_feed, ih, lows_succ, List.foldl_cons, ← BitVec.shiftRight_add, Nat.add_comm 1 k]

/-- The bits of bytes. -/
def bitsOf (xs : List Int) : List Bool := xs.flatMap fun x => lows (BitVec.ofInt 32 x) 8
theorem U_ofInt (x : Int) (h0 : 0 ≤ x) (h1 : x < 4294967296) : U (BitVec.ofInt 32 x) = x := by
  unfold U
  rw [BitVec.toNat_ofInt]
  omega
theorem small_shift (x : Int) (h0 : 0 ≤ x) (h1 : x < 256) : BitVec.ofInt 32 x >>> 8 = 0#32 := by
  apply BitVec.eq_of_toNat_eq
  rw [BitVec.toNat_ushiftRight, Nat.shiftRight_eq_div_pow, BitVec.toNat_ofInt]
  simp
  omega
theorem shifted_U (r : BitVec 32) (x : Int) (h0 : 0 ≤ x) (h1 : x < 256) : shifted (U r) x = U ((lows (BitVec.ofInt 32 x) 8).foldl feed r) := by
  unfold shifted
  rw [Int.emod_eq_of_lt h0 (by omega)]
  conv => lhs; rw [← U_ofInt x h0 (by omega)]
  rw [xor_U, steps_U, stepsB_feeds, small_shift x h0 h1, BitVec.xor_zero]
theorem fold_U (xs : List Int) : ∀ r : BitVec 32, Bytes xs → xs.foldl shifted (U r) = U ((bitsOf xs).foldl feed r) := by
  induction xs with
  | nil => intros; rfl
  | cons x xs ih =>
    intro r h
    have hx := h x List.mem_cons_self
    rw [List.foldl_cons, shifted_U r x hx.1 hx.2, ih _ (fun y hy => h y (List.mem_cons_of_mem _ hy))]
    unfold bitsOf
    rw [List.flatMap_cons, List.foldl_append]
theorem flip_U (x : BitVec 32) : flip32 (U x) = U (0xffffffff#32 ^^^ x) := by
  unfold flip32
  have e : IntKind.u32.max = U 0xffffffff#32 := by decide
  rw [e, xor_U]
def F : BitVec 32 := 0xffffffff#32
theorem more_U (r : BitVec 32) (xs : List Int) (h : Bytes xs) : moreOf (U r) xs = U (F ^^^ (bitsOf xs).foldl feed (F ^^^ r)) := by
  unfold moreOf
  rw [flip_U, fold_U _ _ h, flip_U]; rfl
theorem sum_U (xs : List Int) (h : Bytes xs) : sumOf xs = U (F ^^^ (bitsOf xs).foldl feed F) := by
  have := more_U 0#32 xs h
  rw [BitVec.xor_zero] at this
  exact this

/-! CrcSums -/
theorem feed_ref (r : BitVec 32) (b : Bool) : refStep (U r) (if b then 1 else 0) = U (feed r b) := by
  unfold refStep feed msk
  have e : (U r).tdiv (2 : Int) % (4294967296 : Int) = U (r >>> 1) := by
    have := U_range r
    rw [← U_div, Int.tdiv_eq_ediv_of_nonneg this.1]
    exact Int.emod_eq_of_lt (by omega) (by omega)
  rw [U_low, e, ← U_P, xor_U]
  cases r.getLsbD 0 <;> cases b <;> simp
theorem refBitOf_eq (x : Int) (h0 : 0 ≤ x) (h1 : x < 256) (j : Nat) : refBitOf x j = if (BitVec.ofInt 32 x).getLsbD j then 1 else 0 := by
  unfold refBitOf
  have e : x / (2 : Int) ^ j % (4294967296 : Int) = U (BitVec.ofInt 32 x >>> j) := by
    obtain ⟨n, rfl⟩ := Int.eq_ofNat_of_zero_le h0
    have e1 : (n : Int) / (2 : Int) ^ j = ((n / 2 ^ j : Nat) : Int) := by simp
    have h2 : n / 2 ^ j ≤ n := Nat.div_le_self _ _
    have e2 : (BitVec.ofInt 32 (n : Int)).toNat = n := ofInt_u32 n (by omega)
    unfold U
    rw [BitVec.toNat_ushiftRight, e2, Nat.shiftRight_eq_div_pow, e1]
    generalize n / 2 ^ j = m at *
    omega
  rw [e, U_low]
  simp
theorem refTo_add (xs : List Int) (k : Nat) : ∀ j, refTo xs (k + j) = (((List.range j).map fun i => refBit xs (k + i))).foldl refStep (refTo xs k) := by
  intro j
  induction j with
  | zero => rfl
  | succ j ih => rw [List.range_succ, List.map_append, List.foldl_append, ← ih]; rfl
theorem feeds_ref (bs : List Bool) : ∀ r, (bs.map fun b => if b then (1 : Int) else 0).foldl refStep (U r) = U (bs.foldl feed r) := by
  induction bs with
  | nil => intro r; rfl
  | cons b bs ih => intro r; rw [List.map_cons, List.foldl_cons, feed_ref, ih]; rfl
theorem refTo_byte (xs : List Int) (h : Bytes xs) (i : Nat) (hi : i < xs.length) (r : BitVec 32) (hr : refTo xs (8 * i) = U r) :
    refTo xs (8 * (i + 1)) = U ((lows (BitVec.ofInt 32 xs[i]) 8).foldl feed r) := by
  have e : 8 * (i + 1) = 8 * i + 8 := by omega
  have hx := h _ (List.getElem_mem hi)
  rw [e, refTo_add, hr, ← feeds_ref]
  congr 1
  unfold lows
  rw [List.map_map]
  apply List.map_congr_left
  intro j hj
  have hj8 : j < 8 := List.mem_range.1 hj
  have e1 : (((8 * i + j : Nat) : Int) / 8).toNat = i := by omega
  have e2 : (8 * i + j) % 8 = j := by omega
  unfold refBit
  rw [e1, e2, List.getD_eq_getElem?_getD, List.getElem?_eq_getElem hi, Option.getD_some, refBitOf_eq _ hx.1 hx.2]
  rfl
theorem bitsOf_take (xs : List Int) (i : Nat) (hi : i < xs.length) : bitsOf (xs.take (i + 1)) = bitsOf (xs.take i) ++ lows (BitVec.ofInt 32 xs[i]) 8 := by
  rw [List.take_succ_eq_append_getElem hi]
  unfold bitsOf
  rw [List.flatMap_append]
  simp
theorem refTo_U (xs : List Int) (h : Bytes xs) : ∀ i, i ≤ xs.length → refTo xs (8 * i) = U ((bitsOf (xs.take i)).foldl feed F) := by
  intro i
  induction i with
  | zero => intro _; show (4294967295 : Int) = U F; decide
  | succ i ih =>
    intro hi
    rw [refTo_byte xs h i (by omega) _ (ih (by omega)), bitsOf_take xs i (by omega), List.foldl_append]
theorem F_sub (x : BitVec 32) : (4294967295 - U x) % (4294967296 : Int) = U (F ^^^ x) := by
  have e : F ^^^ x = ~~~ x := by
    have f : F = BitVec.allOnes 32 := by decide
    rw [f, BitVec.allOnes_xor]
  rw [e]
  unfold U
  rw [BitVec.toNat_not]
  have := x.isLt
  omega
theorem refSum_eq (xs : List Int) (h : Bytes xs) : refSum xs = sumOf xs := by
  unfold refSum
  rw [refTo_U xs h xs.length (Nat.le_refl _), List.take_length, F_sub, sum_U xs h]

theorem xor_low (h c : Nat) (hc : c < 256) : h - h % 256 + (h % 256 ^^^ c) = h ^^^ c := by
  have e1 : (h ^^^ c) % 2 ^ 8 = (h % 2 ^ 8) ^^^ (c % 2 ^ 8) := Nat.xor_mod_two_pow
  have e2 : (h ^^^ c) / 2 ^ 8 = (h / 2 ^ 8) ^^^ (c / 2 ^ 8) := Nat.xor_div_two_pow
  have e3 : c % 2 ^ 8 = c := Nat.mod_eq_of_lt hc
  have e4 : c / 2 ^ 8 = 0 := Nat.div_eq_of_lt hc
  rw [e3] at e1
  rw [e4, Nat.xor_zero] at e2
  have e5 : (2 : Nat) ^ 8 = 256 := rfl
  rw [e5] at e1 e2
  have := Nat.div_add_mod (h ^^^ c) 256
  rw [← e1]
  omega
theorem hashed_range (h c : Int) : 0 ≤ hashed h c ∧ hashed h c < 18446744073709551616 := by
  unfold hashed
  rw [IntKind.wrap_u64]
  omega
theorem hash_step_eq (h c : Int) (h0 : 0 ≤ h) (h1 : h < 18446744073709551616) (c0 : 0 ≤ c) (c1 : c < 256) : refHashStep h c = hashed h c := by
  obtain ⟨n, rfl⟩ := Int.eq_ofNat_of_zero_le h0
  obtain ⟨m, rfl⟩ := Int.eq_ofNat_of_zero_le c0
  unfold refHashStep hashed
  have e1 : ((n : Nat) : Int).tmod (256 : Int) = ((n % 256 : Nat) : Int) := by
    rw [Int.tmod_eq_emod_of_nonneg (by omega)]; omega
  have e2 : IntKind.u64.wrap (m : Int) = (m : Int) := by rw [IntKind.wrap_u64]; omega
  have e3 := bits_xor_u64_nat (n % 256) m (by omega) (by omega)
  have e4 := bits_xor_u64_nat n m (by omega) (by omega)
  have e5 := xor_low n m (by omega)
  have e6 : n ^^^ m < 2 ^ 64 := Nat.xor_lt_two_pow (by omega) (by omega)
  rw [e1, e2, e3, e4, ← e5]
  rw [← e5] at e6
  have e7 : IntKind.u64.wrap ((n : Int) - ((n % 256 : Nat) : Int)) = ((n - n % 256 : Nat) : Int) := by rw [IntKind.wrap_u64]; omega
  rw [e7]
  congr 2
  rw [IntKind.wrap_u64]
  generalize (n % 256 ^^^ m) = q at *
  omega
theorem hash_fold_eq (xs : List Int) : ∀ h : Int, 0 ≤ h → h < 18446744073709551616 → Bytes xs → xs.foldl refHashStep h = xs.foldl hashed h := by
  induction xs with
  | nil => intros; rfl
  | cons x xs ih =>
    intro h h0 h1 hb
    have hx := hb x List.mem_cons_self
    have hr := hashed_range h x
    rw [List.foldl_cons, List.foldl_cons, hash_step_eq h x h0 h1 hx.1 hx.2, ih _ hr.1 hr.2 (fun y hy => hb y (List.mem_cons_of_mem _ hy))]
theorem refHash_eq (xs : List Int) (h : Bytes xs) : refHash xs = hashOf xs := hash_fold_eq xs _ (by decide) (by decide) h
end Go.Proofs.YtononoakdebjeaaGreatDoor.Crc
namespace Go.Proofs.YtononoakdebjeaaGreatDoor.Crc
open Go.RowKit Go.Proofs.YtononoakdebjeaaGreatDoorW.PrintWords Go.Proofs.YtononoakdebjeaaGreatDoor.Base
set_option linter.unusedVariables false
set_option linter.unusedSimpArgs false


set_option maxHeartbeats 800000 in
theorem shifted_any (a0 a1 : Int) (w : World) :
    Calls Tryz.prog 109 #[.int .u32 a0, .int .u8 a1] w fun e w' => e = .returned (.int .u32 (shifted a0 a1)) ∧ w = w' := by
  have H0 : Hid (shifted a0 a1 = steps 8 (Go.bits .xor .u32 a0 (a1 % 4294967296))) := rfl
  go_enter Tryz.func109, Tryz.ntmps109
  go_wp2
  go_loop [0, 10] (fun r i => ∃ (k : Nat) (x : Int), k ≤ 8 ∧ i = .int .i64 k ∧ r = .int .u32 x ∧ Hid (steps (8 - k) x = shifted a0 a1)) (fun _ i => 8 - (intOf i).toNat)
  case atStart => exact ⟨0, _, by omega, rfl, rfl, H0.out.symm⟩
  case round =>
    obtain ⟨k, x, hk, rfl, rfl, hx⟩ := hrel
    by_cases hlt : k < 8
    · obtain ⟨j, hj⟩ : ∃ j, 8 - k = j + 1 := ⟨7 - k, by omega⟩
      have hj' : 8 - (k + 1) = j := by omega
      have HX : Hid (steps (8 - (k + 1)) (step x) = shifted a0 a1) := by
        have := hx.out
        rw [hj, steps_succ] at this
        rw [hj']; exact this
      clear hj hj' hx
      by_cases hb : Go.bits .and .u32 x 1 = 1
      · have hb1 : (Go.bits .and .u32 x 1 == 1) = true := beq_iff_eq.mpr hb
        have HS : Hid (step x = Go.bits .xor .u32 (x / 2) 3988292384) := if_pos hb
        clear hb
        go_wp2
        go_round
        case rel => exact ⟨k + 1, _, by omega, by go_num, rfl, by rw [← HS.out]; exact HX⟩
        case measure => simp [intOf]; omega
      · have hb1 : (Go.bits .and .u32 x 1 == 1) = false := beq_eq_false_iff_ne.mpr hb
        have HS : Hid (step x = x / 2) := if_neg hb
        clear hb
        go_wp2
        go_round
        case rel => exact ⟨k + 1, _, by omega, by go_num, rfl, by rw [← HS.out]; exact HX⟩
        case measure => simp [intOf]; omega
    · have h8 : 8 - k = 0 := by omega
      have HX : Hid (x = shifted a0 a1) := by have := hx.out; rw [h8] at this; exact this
      clear h8 hx H0
      go_wp2
      go_ret
      exact ⟨ret_int HX.out, rfl⟩


theorem take_snoc (xs : List Int) (k : Nat) (h : k < xs.length) : xs.take (k + 1) = xs.take k ++ [rd xs k] := by
  rw [List.take_succ_eq_append_getElem h]
  unfold rd
  rw [Int.toNat_natCast, List.getD_eq_getElem?_getD, List.getElem?_eq_getElem h]; rfl
theorem foldl_snoc (f : Int → Int → Int) (r : Int) (xs : List Int) (k : Nat) (h : k < xs.length) : (xs.take (k + 1)).foldl f r = f ((xs.take k).foldl f r) (rd xs k) := by
  rw [take_snoc xs k h, List.foldl_append]; rfl

set_option maxHeartbeats 800000 in
theorem fold32_any (r0 : Int) (v : Value) (xs : List Int) (w : World) (hv : Bs w v xs) :
    Calls Tryz.prog 108 #[.int .u32 r0, v, .func (.func 109) #[] #[]] w fun e w' => e = .returned (.int .u32 (xs.foldl shifted r0)) ∧ w = w' := by
  obtain ⟨A, c, rfl, hc, hr⟩ := hv
  have hm := hr.2.1
  have HR : Hid (ReadsInt w .u8 A xs.length xs) := hr
  clear hr
  go_enter Tryz.func108, Tryz.ntmps108
  go_wp2
  go_loop [0, 11] (fun r i => ∃ (k : Nat) , k ≤ xs.length ∧ i = .int .i64 k ∧ r = .int .u32 ((xs.take k).foldl shifted r0)) (fun _ i => xs.length - (intOf i).toNat)
  case atStart => exact ⟨0, by omega, rfl, rfl⟩
  case round =>
    obtain ⟨k, hk, rfl, rfl⟩ := hrel
    by_cases hlt : k < xs.length
    · have HS : Hid (_ = _) := foldl_snoc shifted r0 xs k hlt
      obtain ⟨ad, e1, hcell⟩ := at_nat HR.out k (by omega)
      cases e1
      go_wp2_with (go_at_call 109; refine (shifted_any _ _ _).mono ?_; rintro e w' ⟨rfl, rfl⟩)
      go_round
      case rel => exact ⟨k + 1, by omega, by go_num, by rw [HS.out]⟩
      case measure => simp [intOf]; omega
    · have h8 : k = xs.length := by omega
      have HX : Hid ((xs.take k).foldl shifted r0 = xs.foldl shifted r0) := by show _ = _; rw [h8, List.take_length]
      clear h8
      go_wp2
      go_ret
      exact ⟨ret_int HX.out, rfl⟩



set_option maxHeartbeats 800000 in
theorem more_any (r0 : Int) (v : Value) (xs : List Int) (w : World) (hv : Bs w v xs) :
    Calls Tryz.prog 88 #[.int .u32 r0, v] w fun e w' => e = .returned (.int .u32 (moreOf r0 xs)) ∧ w = w' := by
  have HV := Lib.hid hv
  clear hv
  have hs : ¬ IntKind.u32.signed = true := by decide
  go_enter Tryz.func88, Tryz.ntmps88
  go_wp2_with (go_at_call 108; refine (fold32_any _ _ _ _ HV.out).mono ?_; rintro e w' ⟨rfl, rfl⟩)
  go_ret
  exact ⟨ret_int rfl, rfl⟩

theorem sum_any (v : Value) (xs : List Int) (w : World) (hv : Bs w v xs) :
    Calls Tryz.prog 79 #[v] w fun e w' => e = .returned (.int .u32 (sumOf xs)) ∧ w = w' := by
  have HV := Lib.hid hv
  clear hv
  go_enter Tryz.func79, Tryz.ntmps79
  go_wp2_with (go_at_call 88; refine (more_any _ _ _ _ HV.out).mono ?_; rintro e w' ⟨rfl, rfl⟩)
  go_ret
  exact ⟨ret_int rfl, rfl⟩

end Go.Proofs.YtononoakdebjeaaGreatDoor.Crc
namespace Go.Proofs.YtononoakdebjeaaGreatDoor.Crc
open Go.RowKit Go.Proofs.YtononoakdebjeaaGreatDoorW.PrintWords Go.Proofs.YtononoakdebjeaaGreatDoor.Base
set_option linter.unusedVariables false
set_option linter.unusedSimpArgs false

end Go.Proofs.YtononoakdebjeaaGreatDoor.Crc
