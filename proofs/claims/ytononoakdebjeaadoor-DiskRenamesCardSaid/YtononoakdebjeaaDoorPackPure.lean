/- Plain laws on bytes, texts and little-endian numbers; nothing of the program. -/
import Derived.Laws.BytesArg
import Derived.Laws.BitsAllLaws
import Derived.Laws.Bits64
import Derived.Test.YtononoakdebjeaaDoorWWords
namespace Go.Proofs.YtononoakdebjeaaDoor.Pack
open Go.RowKit Go.Proofs.YtononoakdebjeaaDoorW.PrintWords
set_option linter.unusedVariables false
set_option linter.unusedSimpArgs false

/-- All are bytes. -/
def Bytes (xs : List Int) : Prop := ∀ x ∈ xs, 0 ≤ x ∧ x < 256
theorem Bytes.nil : Bytes [] := fun x hx => by cases hx
theorem Bytes.append {xs ys : List Int} (h1 : Bytes xs) (h2 : Bytes ys) : Bytes (xs ++ ys) := fun x hx => (List.mem_append.1 hx).elim (h1 x) (h2 x)
theorem Bytes.left {xs ys : List Int} (h : Bytes (xs ++ ys)) : Bytes xs := fun x hx => h x (List.mem_append_left _ hx)
theorem Bytes.right {xs ys : List Int} (h : Bytes (xs ++ ys)) : Bytes ys := fun x hx => h x (List.mem_append_right _ hx)
theorem Bytes.take {xs : List Int} (h : Bytes xs) (k : Nat) : Bytes (xs.take k) := fun x hx => h x (List.mem_of_mem_take hx)
theorem Bytes.drop {xs : List Int} (h : Bytes xs) (k : Nat) : Bytes (xs.drop k) := fun x hx => h x (List.mem_of_mem_drop hx)
theorem Bytes.of_wf {xs : List Int} (h : ∀ x ∈ xs, (Lit.int .u8 x).wf = true) : Bytes xs := fun x hx => by
  have := h x hx
  simp [Lit.wf, IntKind.min, IntKind.max, IntKind.bits, IntKind.signed] at this
  omega
theorem bytesOf_bytes (s : ByteArray) : Bytes (bytesOf s) := fun x hx => by
  obtain ⟨b, _, rfl⟩ := List.mem_map.1 hx
  have := b.toNat_lt
  omega

theorem str_toList (xs : List Int) : (strOfNums xs).toList = xs.map fun n => UInt8.ofNat n.toNat := by
  rw [ByteArray.toList_eq]; simp [strOfNums]
theorem bytesOf_str (xs : List Int) (h : Bytes xs) : bytesOf (strOfNums xs) = xs := by
  unfold bytesOf strOfNums
  simp only [List.map_map]
  conv => rhs; rw [← List.map_id xs]
  apply List.map_congr_left
  intro x hx
  have := h x hx
  simp only [Function.comp, id]
  rw [UInt8.toNat_ofNat']
  omega
theorem str_bytesOf (s : ByteArray) : strOfNums (bytesOf s) = s := by
  unfold bytesOf strOfNums
  have : ((s.data.toList.map fun b => (b.toNat : Int)).map fun n => UInt8.ofNat n.toNat) = s.data.toList := by
    rw [List.map_map]
    conv => rhs; rw [← List.map_id s.data.toList]
    apply List.map_congr_left
    intro b _
    simp [Function.comp]
  rw [this]
theorem str_inj {xs ys : List Int} (h1 : Bytes xs) (h2 : Bytes ys) (h : strOfNums xs = strOfNums ys) : xs = ys := by
  rw [← bytesOf_str xs h1, h, bytesOf_str ys h2]
theorem str_eql {xs ys : List Int} (h1 : Bytes xs) (h2 : Bytes ys) : ((strOfNums xs).toList == (strOfNums ys).toList) = decide (xs = ys) := by
  by_cases e : xs = ys
  · subst e; simp
  · rw [decide_eq_false e]
    apply beq_eq_false_iff_ne.2
    intro h
    rw [ByteArray.toList_eq, ByteArray.toList_eq] at h
    apply e
    apply str_inj h1 h2
    have := Array.toList_inj.1 h
    cases hx : strOfNums xs; cases hy : strOfNums ys
    rw [hx, hy] at this
    exact congrArg ByteArray.mk this
theorem str_size (xs : List Int) : (strOfNums xs).size = xs.length := by
  show (strOfNums xs).data.size = _
  simp [strOfNums]

/-- The m lowest bytes of a number, the lowest first. -/
def leBytes (n : Int) (m : Nat) : List Int := (List.range m).map fun i => n / 2 ^ (8 * i) % 256
theorem leBytes_zero (n : Int) : leBytes n 0 = [] := rfl
theorem leBytes_length (n : Int) (m : Nat) : (leBytes n m).length = m := by simp [leBytes]
theorem leBytes_succ (n : Int) (m : Nat) : leBytes n (m + 1) = leBytes n m ++ [n / 2 ^ (8 * m) % 256] := by
  unfold leBytes; rw [List.range_succ, List.map_append]; rfl
theorem leBytes_cons (n : Int) (m : Nat) : leBytes n (m + 1) = n % 256 :: leBytes (n / 256) m := by
  unfold leBytes
  rw [List.range_succ_eq_map, List.map_cons, List.map_map]
  congr 1
  · rw [Nat.mul_zero, Int.pow_zero, Int.ediv_one]
  · apply List.map_congr_left
    intro i _
    simp only [Function.comp]
    have e : (2 : Int) ^ (8 * (i + 1)) = 256 * 2 ^ (8 * i) := by
      rw [Nat.mul_succ, Int.pow_add, Int.mul_comm]; rfl
    rw [Nat.succ_eq_add_one, e, Int.ediv_ediv_of_nonneg (by decide)]
theorem leBytes_bytes (n : Int) (m : Nat) : Bytes (leBytes n m) := fun x hx => by
  obtain ⟨i, _, rfl⟩ := List.mem_map.1 hx
  exact ⟨Int.emod_nonneg _ (by decide), Int.emod_lt_of_pos _ (by decide)⟩
/-- The number of bytes, the lowest first. -/
def leVal : List Int → Int
  | [] => 0
  | c :: l => c + 256 * leVal l
theorem leVal_leBytes (m : Nat) : ∀ n : Int, 0 ≤ n → n < 256 ^ m → leVal (leBytes n m) = n := by
  induction m with
  | zero =>
    intro n h0 h1
    have : n < 1 := h1
    show (0 : Int) = n
    omega
  | succ m ih =>
    intro n h0 h1
    rw [leBytes_cons, leVal]
    have e : (256 : Int) ^ (m + 1) = 256 ^ m * 256 := Int.pow_succ 256 m
    rw [e] at h1
    rw [ih (n / 256) (by omega) (by omega)]
    omega
theorem leVal_range (xs : List Int) (h : Bytes xs) : 0 ≤ leVal xs ∧ leVal xs < 256 ^ xs.length := by
  induction xs with
  | nil => exact ⟨by simp [leVal], by simp [leVal]⟩
  | cons x xs ih =>
    have hx := h x List.mem_cons_self
    obtain ⟨h0, h1⟩ := ih (fun y hy => h y (List.mem_cons_of_mem _ hy))
    rw [leVal, List.length_cons, Int.pow_succ]
    omega
theorem leBytes_leVal (xs : List Int) (h : Bytes xs) : leBytes (leVal xs) xs.length = xs := by
  induction xs with
  | nil => rfl
  | cons x xs ih =>
    have hx := h x List.mem_cons_self
    have h' : Bytes xs := fun y hy => h y (List.mem_cons_of_mem _ hy)
    have hr := leVal_range xs h'
    rw [List.length_cons, leBytes_cons, leVal]
    have e1 : (x + 256 * leVal xs) % 256 = x := by omega
    have e2 : (x + 256 * leVal xs) / 256 = leVal xs := by omega
    rw [e1, e2, ih h']
theorem leBytes_inj (m : Nat) (a b : Int) (a0 : 0 ≤ a) (a1 : a < 256 ^ m) (b0 : 0 ≤ b) (b1 : b < 256 ^ m) (h : leBytes a m = leBytes b m) : a = b := by
  rw [← leVal_leBytes m a a0 a1, h, leVal_leBytes m b b0 b1]
/-- The bytes of a text: its length, and its own. -/
def textBytes (s : ByteArray) : List Int := leBytes s.size 2 ++ bytesOf s
theorem textBytes_length (s : ByteArray) : (textBytes s).length = s.size + 2 := by
  unfold textBytes; rw [List.length_append, leBytes_length, bytesOf_length]; omega
theorem textBytes_bytes (s : ByteArray) : Bytes (textBytes s) := (leBytes_bytes _ _).append (bytesOf_bytes s)
theorem take_snoc (xs : List Int) (k : Nat) (h : k < xs.length) : xs.take (k + 1) = xs.take k ++ [rd xs k] := by
  rw [List.take_succ_eq_append_getElem h]
  unfold rd
  rw [Int.toNat_natCast, List.getD_eq_getElem?_getD, List.getElem?_eq_getElem h]; rfl
theorem rd_byte {xs : List Int} (h : Bytes xs) (k : Nat) (hk : k < xs.length) : 0 ≤ rd xs k ∧ rd xs k < 256 := by
  have e : rd xs k = xs[k] := by
    unfold rd
    rw [Int.toNat_natCast, List.getD_eq_getElem?_getD, List.getElem?_eq_getElem hk]; rfl
  rw [e]
  exact h _ (List.getElem_mem hk)
theorem leVal_snoc (xs : List Int) (c : Int) : leVal (xs ++ [c]) = leVal xs + c * 256 ^ xs.length := by
  induction xs with
  | nil => simp [leVal]
  | cons x xs ih =>
    rw [List.cons_append, leVal, ih, leVal, List.length_cons, Int.pow_succ, Int.mul_add, ← Int.mul_assoc, ← Int.mul_assoc, Int.mul_comm 256 c, Int.mul_right_comm c 256, Int.add_assoc]
theorem or_nat (a c k : Nat) (ha : a < 256 ^ k) : a ||| c * 256 ^ k = a + c * 256 ^ k := by
  have e : (256 : Nat) ^ k = 2 ^ (8 * k) := by rw [Nat.pow_mul]
  rw [e] at ha ⊢
  rw [Nat.or_comm, nat_join (8 * k) _ _ (Nat.mul_mod_left _ _) ha, Nat.add_comm]
theorem pow_256 (k : Nat) : (2 : Int) ^ (8 * k) = 256 ^ k := by rw [Int.pow_mul]; rfl
/-- One byte more: as numbers of Nat. -/
theorem or_facts (xs : List Int) (k m : Nat) (hk : k < xs.length) (hm : xs.length ≤ m) (h : Bytes xs) : ∃ a c : Nat, leVal (xs.take k) = a ∧ rd xs k = c ∧ a < 256 ^ k ∧ c < 256 ∧ c * 256 ^ k < 256 ^ m ∧ a < 256 ^ m ∧ leVal (xs.take (k + 1)) = ((a + c * 256 ^ k : Nat) : Int) := by
  have hr := leVal_range (xs.take k) (h.take k)
  have hl : (xs.take k).length = k := by rw [List.length_take]; omega
  rw [hl] at hr
  have hc := rd_byte h k hk
  obtain ⟨a, ha⟩ := Int.eq_ofNat_of_zero_le hr.1
  obtain ⟨c, hc'⟩ := Int.eq_ofNat_of_zero_le hc.1
  have e2 : ((256 ^ k : Nat) : Int) = (256 : Int) ^ k := by simp
  have ha2 : a < 256 ^ k := by
    have := hr.2
    rw [ha, ← e2] at this
    omega
  have hc2 : c < 256 := by omega
  have h1 : c * 256 ^ k < 256 ^ (k + 1) := by
    rw [Nat.pow_succ, Nat.mul_comm]
    exact Nat.mul_lt_mul_of_pos_left hc2 (Nat.pow_pos (by decide))
  have h2 : (256 : Nat) ^ (k + 1) ≤ 256 ^ m := Nat.pow_le_pow_right (by decide) (by omega)
  have h3 : (256 : Nat) ^ k ≤ 256 ^ m := Nat.pow_le_pow_right (by decide) (by omega)
  refine ⟨a, c, ha, hc', ha2, hc2, by omega, by omega, ?_⟩
  rw [take_snoc xs k hk, leVal_snoc, hl, ha, hc']
  simp
theorem or32 (xs : List Int) (k : Nat) (hk : k < xs.length) (hm : xs.length ≤ 4) (h : Bytes xs) :
    Go.bits .or .u32 (leVal (xs.take k)) (rd xs k % 4294967296 * 2 ^ (8 * k) % 4294967296) = leVal (xs.take (k + 1)) := by
  obtain ⟨a, c, e1, e2, h1, h2, h3, h4, e3⟩ := or_facts xs k 4 hk hm h
  have e4 : (rd xs k % 4294967296 * 2 ^ (8 * k) % 4294967296 : Int) = ((c * 256 ^ k : Nat) : Int) := by
    rw [e2, pow_256, Int.emod_eq_of_lt (a := (c : Int)) (b := 4294967296) (by omega) (by omega)]
    have e5 : (c : Int) * 256 ^ k = ((c * 256 ^ k : Nat) : Int) := by simp
    have h6 : c * 256 ^ k < 4294967296 := h3
    rw [e5]
    generalize c * 256 ^ k = z at *
    omega
  rw [e4, e1, u32_or_nat a _ h4 h3, or_nat a c k h1, e3]
theorem or64 (xs : List Int) (k : Nat) (hk : k < xs.length) (hm : xs.length ≤ 8) (h : Bytes xs) :
    Go.bits .or .u64 (leVal (xs.take k)) (IntKind.u64.wrap (IntKind.u64.wrap (rd xs k) * 2 ^ (8 * k))) = leVal (xs.take (k + 1)) := by
  obtain ⟨a, c, e1, e2, h1, h2, h3, h4, e3⟩ := or_facts xs k 8 hk hm h
  have e4 : IntKind.u64.wrap (IntKind.u64.wrap (rd xs k) * 2 ^ (8 * k)) = ((c * 256 ^ k : Nat) : Int) := by
    rw [IntKind.wrap_u64, IntKind.wrap_u64, e2, pow_256, Int.emod_eq_of_lt (a := (c : Int)) (b := 18446744073709551616) (by omega) (by omega)]
    have e5 : (c : Int) * 256 ^ k = ((c * 256 ^ k : Nat) : Int) := by simp
    have h6 : c * 256 ^ k < 18446744073709551616 := h3
    rw [e5]
    generalize c * 256 ^ k = z at *
    omega
  rw [e4, e1, u64_or_nat a _ h4 h3, or_nat a c k h1, e3]
theorem or16 (xs : List Int) (k : Nat) (hk : k < xs.length) (hm : xs.length ≤ 2) (h : Bytes xs) :
    Go.bits .or .u16 (leVal (xs.take k)) (IntKind.u16.wrap (IntKind.u16.wrap (rd xs k) * 2 ^ (8 * k))) = leVal (xs.take (k + 1)) := by
  obtain ⟨a, c, e1, e2, h1, h2, h3, h4, e3⟩ := or_facts xs k 2 hk hm h
  have e4 : (IntKind.u16.wrap (IntKind.u16.wrap (rd xs k) * 2 ^ (8 * k)) : Int) = ((c * 256 ^ k : Nat) : Int) := by
    rw [IntKind.wrap_u16, IntKind.wrap_u16, e2, pow_256, Int.emod_eq_of_lt (a := (c : Int)) (b := 65536) (by omega) (by omega)]
    have e5 : (c : Int) * 256 ^ k = ((c * 256 ^ k : Nat) : Int) := by simp
    have h6 : c * 256 ^ k < 65536 := h3
    rw [e5]
    generalize c * 256 ^ k = z at *
    omega
  rw [e4, e1, u16_or_nat a _ h4 h3, or_nat a c k h1, e3]
end Go.Proofs.YtononoakdebjeaaDoor.Pack
