/- Plain laws on bytes, texts and little-endian numbers; nothing of the program; The contracts of the functions of package pack (walks); The contracts of U32, U64, Text of package pack, and of the chapter's example; The contracts of pack.Reader (walks); The contracts of pack.Reader's numbers and texts (walks); The contracts of the reference of chapter 2: numbers and texts; The contracts of the reference's reader of chapter 2. -/
import Derived.Laws.BytesArg
import Derived.Laws.BitsAllLaws
import Derived.Laws.Bits64
import Derived.Test.YtononoakdebjeaaGreatDoorWWords
import Derived.Test.YtononoakdebjeaaGreatDoorBase
import Derived.Test.YtononoakdebjeaaGreatDoorWZeros
namespace Go.Proofs.YtononoakdebjeaaGreatDoor.Pack
open Go.RowKit Go.Proofs.YtononoakdebjeaaGreatDoorW.PrintWords
set_option linter.unusedVariables false
set_option linter.unusedSimpArgs false

/-- All are bytes. -/
def Bytes (xs : List Int) : Prop := ∀ x ∈ xs, 0 ≤ x ∧ x < 256
theorem Bytes.nil : Bytes [] := fun x hx => by cases hx
theorem Bytes.append {xs ys : List Int} (h1 : Bytes xs) (h2 : Bytes ys) : Bytes (xs ++ ys) := fun x hx => (List.mem_append.1 hx).elim (h1 x) (h2 x)
theorem Bytes.left {xs ys : List Int} (h : Bytes (xs ++ ys)) : Bytes xs := fun x hx => h x (List.mem_append_left _ hx)
theorem Bytes.right {xs ys : List Int} (h : Bytes (xs ++ ys)) : Bytes ys := fun x hx => h x (List.mem_append_right _ hx)
theorem Bytes.take {xs : List Int} (h : Bytes xs) (k : Nat) : Bytes (xs.take k) := fun x hx => h x (List.mem_of_mem_take hx)
theorem Bytes.drop {xs : List Int} (h : Bytes xs) (k : Nat) : Bytes (xs.drop k) := fun x hx => h x (List.mem_of_mem_drop hx)
theorem Bytes.of_wf {xs : List Int} (h : ∀ x ∈ xs, (Lit.int .u8 x).wf = true) : Bytes xs := fun x hx => by
  have := h x hx
  simp [Lit.wf, IntKind.min, IntKind.max, IntKind.bits, IntKind.signed] at this
  omega
theorem bytesOf_bytes (s : ByteArray) : Bytes (bytesOf s) := fun x hx => by
  obtain ⟨b, _, rfl⟩ := List.mem_map.1 hx
  have := b.toNat_lt
  omega

theorem str_toList (xs : List Int) : (strOfNums xs).toList = xs.map fun n => UInt8.ofNat n.toNat := by
  rw [ByteArray.toList_eq]; simp [strOfNums]
theorem bytesOf_str (xs : List Int) (h : Bytes xs) : bytesOf (strOfNums xs) = xs := by
  unfold bytesOf strOfNums
  simp only [List.map_map]
  conv => rhs; rw [← List.map_id xs]
  apply List.map_congr_left
  intro x hx
  have := h x hx
  simp only [Function.comp, id]
  rw [UInt8.toNat_ofNat']
  omega
theorem str_bytesOf (s : ByteArray) : strOfNums (bytesOf s) = s := by
  unfold bytesOf strOfNums
  have : ((s.data.toList.map fun b => (b.toNat : Int)).map fun n => UInt8.ofNat n.toNat) = s.data.toList := by
    rw [List.map_map]
    conv => rhs; rw [← List.map_id s.data.toList]
    apply List.map_congr_left
    intro b _
    simp [Function.comp]
  rw [this]
theorem str_inj {xs ys : List Int} (h1 : Bytes xs) (h2 : Bytes ys) (h : strOfNums xs = strOfNums ys) : xs = ys := by
  rw [← bytesOf_str xs h1, h, bytesOf_str ys h2]
theorem str_eql {xs ys : List Int} (h1 : Bytes xs) (h2 : Bytes ys) : ((strOfNums xs).toList == (strOfNums ys).toList) = decide (xs = ys) := by
  by_cases e : xs = ys
  · subst e; simp
  · rw [decide_eq_false e]
    apply beq_eq_false_iff_ne.2
    intro h
    rw [ByteArray.toList_eq, ByteArray.toList_eq] at h
    apply e
    apply str_inj h1 h2
    have := Array.toList_inj.1 h
    cases hx : strOfNums xs; cases hy : strOfNums ys
    rw [hx, hy] at this
    exact congrArg ByteArray.mk this
theorem str_size (xs : List Int) : (strOfNums xs).size = xs.length := by
  show (strOfNums xs).data.size = _
  simp [strOfNums]

/-- The m lowest bytes of a number, the lowest first. -/
def leBytes (n : Int) (m : Nat) : List Int := (List.range m).map fun i => n / 2 ^ (8 * i) % 256
theorem leBytes_zero (n : Int) : leBytes n 0 = [] := rfl
theorem leBytes_length (n : Int) (m : Nat) : (leBytes n m).length = m := by simp [leBytes]
theorem leBytes_succ (n : Int) (m : Nat) : leBytes n (m + 1) = leBytes n m ++ [n / 2 ^ (8 * m) % 256] := by
  unfold leBytes; rw [List.range_succ, List.map_append]; rfl
theorem leBytes_cons (n : Int) (m : Nat) : leBytes n (m + 1) = n % 256 :: leBytes (n / 256) m := by
  unfold leBytes
  rw [List.range_succ_eq_map, List.map_cons, List.map_map]
  congr 1
  · rw [Nat.mul_zero, Int.pow_zero, Int.ediv_one]
  · apply List.map_congr_left
    intro i _
    simp only [Function.comp]
    have e : (2 : Int) ^ (8 * (i + 1)) = 256 * 2 ^ (8 * i) := by
      rw [Nat.mul_succ, Int.pow_add, Int.mul_comm]; rfl
    rw [Nat.succ_eq_add_one, e, Int.ediv_ediv_of_nonneg (by decide)]
theorem leBytes_bytes (n : Int) (m : Nat) : Bytes (leBytes n m) := fun x hx => by
  obtain ⟨i, _, rfl⟩ := List.mem_map.1 hx
  exact ⟨Int.emod_nonneg _ (by decide), Int.emod_lt_of_pos _ (by decide)⟩
/-- The number of bytes, the lowest first. -/
def leVal : List Int → Int
  | [] => 0
  | c :: l => c + 256 * leVal l
theorem leVal_leBytes (m : Nat) : ∀ n : Int, 0 ≤ n → n < 256 ^ m → leVal (leBytes n m) = n := by
  induction m with
  | zero =>
    intro n h0 h1
    have : n < 1 := h1
    show (0 : Int) = n
    omega
  | succ m ih =>
    intro n h0 h1
    rw [leBytes_cons, leVal]
    have e : (256 : Int) ^ (m + 1) = 256 ^ m * 256 := Int.pow_succ 256 m
    rw [e] at h1
    rw [ih (n / 256) (by omega) (by omega)]
    omega
theorem leVal_range (xs : List Int) (h : Bytes xs) : 0 ≤ leVal xs ∧ leVal xs < 256 ^ xs.length := by
  induction xs with
  | nil => exact ⟨by simp [leVal], by simp [leVal]⟩
  | cons x xs ih =>
    have hx := h x List.mem_cons_self
    obtain ⟨h0, h1⟩ := ih (fun y hy => h y (List.mem_cons_of_mem _ hy))
    rw [leVal, List.length_cons, Int.pow_succ]
    omega
theorem leBytes_leVal (xs : List Int) (h : Bytes xs) : leBytes (leVal xs) xs.length = xs := by
  induction xs with
  | nil => rfl
  | cons x xs ih =>
    have hx := h x List.mem_cons_self
    have h' : Bytes xs := fun y hy => h y (List.mem_cons_of_mem _ hy)
    have hr := leVal_range xs h'
    rw [List.length_cons, leBytes_cons, leVal]
    have e1 : (x + 256 * leVal xs) % 256 = x := by omega
    have e2 : (x + 256 * leVal xs) / 256 = leVal xs := by omega
    rw [e1, e2, ih h']
theorem leBytes_inj (m : Nat) (a b : Int) (a0 : 0 ≤ a) (a1 : a < 256 ^ m) (b0 : 0 ≤ b) (b1 : b < 256 ^ m) (h : leBytes a m = leBytes b m) : a = b := by
  rw [← leVal_leBytes m a a0 a1, h, leVal_leBytes m b b0 b1]
/-- The bytes of a text: its length, and its own. -/
def textBytes (s : ByteArray) : List Int := leBytes s.size 2 ++ bytesOf s
theorem textBytes_length (s : ByteArray) : (textBytes s).length = s.size + 2 := by
  unfold textBytes; rw [List.length_append, leBytes_length, bytesOf_length]; omega
theorem textBytes_bytes (s : ByteArray) : Bytes (textBytes s) := (leBytes_bytes _ _).append (bytesOf_bytes s)
theorem take_snoc (xs : List Int) (k : Nat) (h : k < xs.length) : xs.take (k + 1) = xs.take k ++ [rd xs k] := by
  rw [List.take_succ_eq_append_getElem h]
  unfold rd
  rw [Int.toNat_natCast, List.getD_eq_getElem?_getD, List.getElem?_eq_getElem h]; rfl
theorem rd_byte {xs : List Int} (h : Bytes xs) (k : Nat) (hk : k < xs.length) : 0 ≤ rd xs k ∧ rd xs k < 256 := by
  have e : rd xs k = xs[k] := by
    unfold rd
    rw [Int.toNat_natCast, List.getD_eq_getElem?_getD, List.getElem?_eq_getElem hk]; rfl
  rw [e]
  exact h _ (List.getElem_mem hk)
theorem leVal_snoc (xs : List Int) (c : Int) : leVal (xs ++ [c]) = leVal xs + c * 256 ^ xs.length := by
  induction xs with
  | nil => simp [leVal]
  | cons x xs ih =>
    rw [List.cons_append, leVal, ih, leVal, List.length_cons, Int.pow_succ, Int.mul_add, ← Int.mul_assoc, ← Int.mul_assoc, Int.mul_comm 256 c, Int.mul_right_comm c 256, Int.add_assoc]
theorem or_nat (a c k : Nat) (ha : a < 256 ^ k) : a ||| c * 256 ^ k = a + c * 256 ^ k := by
  have e : (256 : Nat) ^ k = 2 ^ (8 * k) := by rw [Nat.pow_mul]
  rw [e] at ha ⊢
  rw [Nat.or_comm, nat_join (8 * k) _ _ (Nat.mul_mod_left _ _) ha, Nat.add_comm]
theorem pow_256 (k : Nat) : (2 : Int) ^ (8 * k) = 256 ^ k := by rw [Int.pow_mul]; rfl
/-- One byte more: as numbers of Nat. -/
theorem or_facts (xs : List Int) (k m : Nat) (hk : k < xs.length) (hm : xs.length ≤ m) (h : Bytes xs) : ∃ a c : Nat, leVal (xs.take k) = a ∧ rd xs k = c ∧ a < 256 ^ k ∧ c < 256 ∧ c * 256 ^ k < 256 ^ m ∧ a < 256 ^ m ∧ leVal (xs.take (k + 1)) = ((a + c * 256 ^ k : Nat) : Int) := by
  have hr := leVal_range (xs.take k) (h.take k)
  have hl : (xs.take k).length = k := by rw [List.length_take]; omega
  rw [hl] at hr
  have hc := rd_byte h k hk
  obtain ⟨a, ha⟩ := Int.eq_ofNat_of_zero_le hr.1
  obtain ⟨c, hc'⟩ := Int.eq_ofNat_of_zero_le hc.1
  have e2 : ((256 ^ k : Nat) : Int) = (256 : Int) ^ k := by simp
  have ha2 : a < 256 ^ k := by
    have := hr.2
    rw [ha, ← e2] at this
    omega
  have hc2 : c < 256 := by omega
  have h1 : c * 256 ^ k < 256 ^ (k + 1) := by
    rw [Nat.pow_succ, Nat.mul_comm]
    exact Nat.mul_lt_mul_of_pos_left hc2 (Nat.pow_pos (by decide))
  have h2 : (256 : Nat) ^ (k + 1) ≤ 256 ^ m := Nat.pow_le_pow_right (by decide) (by omega)
  have h3 : (256 : Nat) ^ k ≤ 256 ^ m := Nat.pow_le_pow_right (by decide) (by omega)
  refine ⟨a, c, ha, hc', ha2, hc2, by omega, by omega, ?_⟩
  rw [take_snoc xs k hk, leVal_snoc, hl, ha, hc']
  simp
theorem or32 (xs : List Int) (k : Nat) (hk : k < xs.length) (hm : xs.length ≤ 4) (h : Bytes xs) :
    Go.bits .or .u32 (leVal (xs.take k)) (rd xs k % 4294967296 * 2 ^ (8 * k) % 4294967296) = leVal (xs.take (k + 1)) := by
  obtain ⟨a, c, e1, e2, h1, h2, h3, h4, e3⟩ := or_facts xs k 4 hk hm h
  have e4 : (rd xs k % 4294967296 * 2 ^ (8 * k) % 4294967296 : Int) = ((c * 256 ^ k : Nat) : Int) := by
    rw [e2, pow_256, Int.emod_eq_of_lt (a := (c : Int)) (b := 4294967296) (by omega) (by omega)]
    have e5 : (c : Int) * 256 ^ k = ((c * 256 ^ k : Nat) : Int) := by simp
    have h6 : c * 256 ^ k < 4294967296 := h3
    rw [e5]
    generalize c * 256 ^ k = z at *
    omega
  rw [e4, e1, u32_or_nat a _ h4 h3, or_nat a c k h1, e3]
theorem or64 (xs : List Int) (k : Nat) (hk : k < xs.length) (hm : xs.length ≤ 8) (h : Bytes xs) :
    Go.bits .or .u64 (leVal (xs.take k)) (IntKind.u64.wrap (IntKind.u64.wrap (rd xs k) * 2 ^ (8 * k))) = leVal (xs.take (k + 1)) := by
  obtain ⟨a, c, e1, e2, h1, h2, h3, h4, e3⟩ := or_facts xs k 8 hk hm h
  have e4 : IntKind.u64.wrap (IntKind.u64.wrap (rd xs k) * 2 ^ (8 * k)) = ((c * 256 ^ k : Nat) : Int) := by
    rw [IntKind.wrap_u64, IntKind.wrap_u64, e2, pow_256, Int.emod_eq_of_lt (a := (c : Int)) (b := 18446744073709551616) (by omega) (by omega)]
    have e5 : (c : Int) * 256 ^ k = ((c * 256 ^ k : Nat) : Int) := by simp
    have h6 : c * 256 ^ k < 18446744073709551616 := h3
    rw [e5]
    generalize c * 256 ^ k = z at *
    omega
  rw [e4, e1, u64_or_nat a _ h4 h3, or_nat a c k h1, e3]
theorem or16 (xs : List Int) (k : Nat) (hk : k < xs.length) (hm : xs.length ≤ 2) (h : Bytes xs) :
    Go.bits .or .u16 (leVal (xs.take k)) (IntKind.u16.wrap (IntKind.u16.wrap (rd xs k) * 2 ^ (8 * k))) = leVal (xs.take (k + 1)) := by
  obtain ⟨a, c, e1, e2, h1, h2, h3, h4, e3⟩ := or_facts xs k 2 hk hm h
  have e4 : (IntKind.u16.wrap (IntKind.u16.wrap (rd xs k) * 2 ^ (8 * k)) : Int) = ((c * 256 ^ k : Nat) : Int) := by
    rw [IntKind.wrap_u16, IntKind.wrap_u16, e2, pow_256, Int.emod_eq_of_lt (a := (c : Int)) (b := 65536) (by omega) (by omega)]
    have e5 : (c : Int) * 256 ^ k = ((c * 256 ^ k : Nat) : Int) := by simp
    have h6 : c * 256 ^ k < 65536 := h3
    rw [e5]
    generalize c * 256 ^ k = z at *
    omega
  rw [e4, e1, u16_or_nat a _ h4 h3, or_nat a c k h1, e3]
end Go.Proofs.YtononoakdebjeaaGreatDoor.Pack
namespace Go.Proofs.YtononoakdebjeaaGreatDoor.Pack
open Go.RowKit Go.Proofs.YtononoakdebjeaaGreatDoorW.PrintWords Go.Proofs.YtononoakdebjeaaGreatDoor.Base
set_option linter.unusedVariables false
set_option linter.unusedSimpArgs false

/-- s[:cap(s)] of a row of the call's own. -/
theorem own_full {w : World} {base n c : Nat} {e : TypeId} {A : Option Addr} {xs : List Value} (h : w.ownsRow base e 1 (.slice A n c) n xs) :
    ∃ ys, ys.length = c ∧ ys.take n = xs ∧ n ≤ c ∧ w.ownsRow base e 1 (.slice A c c) c ys := by
  obtain ⟨h1, h2⟩ := h
  rcases h2 with ⟨he, h0⟩ | ⟨g, cap, cur, he, hb, hh, hnc, hcm, hcs, ht⟩
  · injection he with h3 h4 h5
    subst h3 h4 h5
    refine ⟨[], rfl, ?_, Nat.le_refl _, by simp, .inl ⟨rfl, rfl⟩⟩
    simp at h1
    rw [h1]; rfl
  · injection he with h3 h4 h5
    subst h3 h5
    refine ⟨cur.toList, by simp [hcs], by simpa using ht, hnc, by simp [hcs], .inr ⟨g, c, cur, rfl, hb, hh, Nat.le_refl _, hcm, hcs, ?_⟩⟩
    rw [List.take_of_length_le (by simp [hcs])]

section
variable {ops : Array Oper} {rest : List Oper} {o : Oper} {a : Act} {Q : Exit → Act → World → Prop}
/-- append(v, make([]byte, m)...). -/
theorem app_zeros {w0 W : World} (hgd : o.guard = none) (s x : Operand) (t ti : TypeId)
    (ho : o.op = .call { callee := .builtin .append, args := #[s, x], argTypes := #[t, ti] })
    (ht : Tryz.prog.underlying t = some (.slice 5)) {kt : IntKind} (hti : Tryz.prog.underlying ti = some (.int kt))
    (v : Value) (n m : Nat) (ys : List Value) (hs : a.eval s = v) (hx : a.eval x = .int .i64 m)
    (HO : W.ownsRow w0.heap.size 5 1 v n ys) (hbase : w0.heap.size ≤ W.heap.size) (hl : n + m ≤ 140737488355328)
    (h : ∀ v1 w1 zs, w1.ownsRow w0.heap.size 5 1 v1 (n + m) (ys ++ zs) → W.grownBy w1 v.ownBlock → wpList Tryz.prog ops Q rest (a.put o.dst v1) w1) :
    Held (wpList Tryz.prog ops Q (o :: rest) a W) := by
  obtain ⟨i0, hi, hzz⟩ := Option.map_eq_some_iff.1 info_u8
  simp only [Prod.mk.injEq] at hzz
  obtain ⟨hz0, hz1, hz2⟩ := hzz
  obtain ⟨v1, w1, hr, hown, hg, hat⟩ := run_append_zeros (P := Tryz.prog) W w0.heap.size t ti o.type 5 i0 (.int .u8 0) 1 1 ht hti hi hz0 hz1 hz2 rfl (by decide) (by decide) v n ys HO .i64 m
    (by intro u hu; simp [Builtin.zeroCells, Value.cells] at hu; obtain ⟨i, _, rfl⟩ := hu; simp [Nat.mod_one, Value.oneCell']) (by omega) hbase
  refine Held.out (wpList_plain hgd fun K hK => ?_)
  unfold Oper.wp execOp
  simp only [ho, resolve, invoke, builtin, Sem.run_bind, Sem.run_pure, Result.andThen_ok, List.map_toArray, List.map_cons, List.map_nil, hs, hx, hr]
  exact hK _ _ (h v1 w1 _ hown hg)
end

/-- slices.Clone of bytes: nil stays nil; else a row of its own. -/
theorem clone_any (v : Value) (xs : List Int) (w : World) (hv : Bs w v xs) (hl : xs.length ≤ 140737488355328) :
    Calls Tryz.prog 49 #[v] w fun e w' => ∃ v', e = .returned v' ∧ Ow w w' v' xs := by
  obtain ⟨A, c, rfl, hc, hr⟩ := hv
  have hm := hr.2.1
  have hn := fun (w : World) (n c : Nat) (a : Option Addr) => Lib.run_eql_slice_nil (P := Tryz.prog) w 23 5 a n c 0 0 Tryz.underlying23
  have R := Lib.hid hr
  clear hr
  have HE := Lib.hid (Ow.lit (Below.refl w.heap.size w) [] (by simp))
  cases A with
  | none =>
    have hx : xs = [] := by
      rcases Nat.eq_zero_or_pos xs.length with h | h
      · exact List.eq_nil_of_length_eq_zero h
      · obtain ⟨_, h', _⟩ := R.out.2.2 h
        cases h'
    subst hx
    go_enter Tryz.func49, Tryz.ntmps49
    go_wp2
    go_ret
    exact ⟨_, rfl, Ow.nil (Below.refl _ _)⟩
  | some ad =>
    go_enter Tryz.func49, Tryz.ntmps49
    go_wp2_with (at_builtin; refine Held.of ?_)
    refine app_bytes rfl (.tmp 5) (.tmp 6) 23 rfl Tryz.underlying23 _ _ [] xs rfl rfl HE.out ((show Bs w _ xs from ⟨_, _, rfl, hc, R.out⟩).alloc _) (by (try simp only [List.length_append, List.length_nil, List.length_cons]); omega) ?_
    clear HE
    intro va w1 o1 _
    rw [List.nil_append] at o1
    have O1 := Lib.hid o1
    clear o1
    go_wp2
    go_ret
    exact ⟨_, rfl, O1.out⟩
theorem info_u8' : ∃ i, Tryz.prog.info? 5 = some i ∧ i.size = 1 := by
  obtain ⟨i0, hi, hzz⟩ := Option.map_eq_some_iff.1 info_u8
  simp only [Prod.mk.injEq] at hzz
  exact ⟨i0, hi, hzz.2.1⟩
theorem cut_cap (A : Option Addr) (n c m : Nat) (hm : m ≤ c) (W : World) : (Instr.slice 23 (.slice A n c) none (some (.int .i64 (m : Int))) none).run Tryz.prog W = .ok (.slice A m c) W := by
  obtain ⟨i0, hi, hz⟩ := info_u8'
  have hel : Tryz.prog.elem 23 = 5 := by simp [Program.elem, Tryz.underlying23]
  have hu : Tryz.prog.underlying 23 = some (.slice (Tryz.prog.elem 23)) := by rw [hel]; exact Tryz.underlying23
  have ha : (A.map fun x => x.add 0) = A := by cases A <;> simp [Addr.add]
  rw [run_slice_h W 23 A n c hu .i64 (m : Int) (by omega) (by omega), hel]
  simp [sizeOf, typeInfo, hi, hz, sliced, Result.andThen, ha]

set_option maxHeartbeats 800000 in
/-- slices.Grow of a row of the call's own. -/
theorem grow_any (w0 : World) (v : Value) (xs : List Int) (m : Nat) (w : World) (ho : Ow w0 w v xs) (hm : m ≤ 1000) (hl : xs.length ≤ 140737488300000) :
    Calls Tryz.prog 110 #[v, .int .i64 m] w fun e w' => ∃ v', e = .returned v' ∧ Ow w0 w' v' xs := by
  obtain ⟨A, n, c, rfl, hn⟩ := ho.slice
  obtain ⟨ys, hy1, hy2, hnc, hown⟩ := own_full (hn ▸ ho.own)
  have hcm : c ≤ 9223372036854775807 := by
    have := hown.2
    rcases this with ⟨he, _⟩ | ⟨_, _, _, he, _, _, _, h, _⟩
    · injection he with _ _ h5; omega
    · injection he with _ _ h5; rw [h5]; exact h
  have O := Lib.hid ho
  have F := Lib.hid hown
  have Hn := Lib.hid hn
  have hln : n ≤ 140737488300000 := by omega
  have hnc' : n ≤ c := by omega
  have k1 := cut_cap A n c c (Nat.le_refl _)
  clear ho hown hn
  by_cases hg : (m : Int) - ((c : Int) - (n : Int)) > 0
  · have hw1 : IntKind.i64.wrap ((c : Int) - n) = (c : Int) - n := IntWalk.i64_in _ (by omega)
    have hw2 : IntKind.i64.wrap ((m : Int) - ((c : Int) - n)) = (m : Int) - ((c : Int) - n) := IntWalk.i64_in _ (by omega)
    obtain ⟨j, hj⟩ : ∃ j : Nat, (m : Int) - ((c : Int) - (n : Int)) = (j : Int) := ⟨m - (c - n), by omega⟩
    go_enter Tryz.func110, Tryz.ntmps110
    go_wp2_with (at_builtin; refine Held.of ?_)
    refine app_zeros (w0 := w0) rfl (.tmp 20) (.tmp 21) 23 3 rfl Tryz.underlying23 Tryz.underlying3 _ c j ys rfl rfl F.out O.out.below.size (by omega) ?_
    intro v1 w1 zs hown1 hg1
    have hb1 := O.out.below.grown hg1 O.out.below.size (own_base F.out)
    obtain ⟨A', c', rfl⟩ := own_slice hown1
    have hle := own_le hown1
    have k2 := cut_cap A' (c + j) c' n (by omega)
    have ht := own_take hown1 (m := n) (by omega)
    have hz : (ys ++ zs).take (n * 1) = nums .u8 xs := by
      rw [Nat.mul_one, List.take_append_of_le_length (by omega), Hn.out]
      exact hy2
    rw [hz] at ht
    have hout : Ow w0 w1 (.slice A' n c') xs := ⟨by rw [Hn.out] at ht ⊢; exact ht, hb1⟩
    have OUT := Lib.hid hout
    clear hown1 hg1 hb1 ht hz hout hj
    go_wp2
    go_ret
    exact ⟨_, rfl, OUT.out⟩
  · go_enter Tryz.func110, Tryz.ntmps110
    go_wp2
    go_ret
    exact ⟨_, rfl, O.out⟩

set_option maxHeartbeats 800000 in
theorem put32_any (v : Value) (xs : List Int) (n : Int) (m : Nat) (w : World) (hv : Bs w v xs) (hl : xs.length ≤ 140737488000000) (hm : m ≤ 4) (n0 : 0 ≤ n) (n1 : n < 4294967296) :
    Calls Tryz.prog 89 #[v, .int .u32 n, .int .i64 m] w fun e w' => ∃ v', e = .returned v' ∧ Ow w w' v' (xs ++ leBytes n m) := by
  have HV := Lib.hid hv
  clear hv
  go_enter Tryz.func89, Tryz.ntmps89
  go_wp2_with fail
  refine (clone_any _ _ _ HV.out (by omega)).mono ?_
  rintro e w1 ⟨v1, rfl, o1⟩
  have O1 := Lib.hid o1
  clear o1
  go_wp2_with fail
  refine (grow_any w _ _ _ _ O1.out (by omega) (by omega)).mono ?_
  rintro e w2 ⟨v2, rfl, o2⟩
  have O2 := Lib.hid o2
  clear o2
  go_wp2
  go_loopw [7, 14] (fun v i wr => ∃ k : Nat, k ≤ m ∧ i = .int .i64 k ∧ Ow w wr v (xs ++ leBytes n k)) (fun _ i _ => m - (intOf i).toNat)
  case atStart => exact ⟨0, Nat.zero_le _, rfl, by rw [leBytes_zero, List.append_nil]; exact O2.out⟩
  case round =>
    obtain ⟨k, hk, rfl, ho⟩ := hrel
    have O := Lib.hid ho
    clear ho
    by_cases hlt : k < m
    · have hll : (xs ++ leBytes n k).length + 1 ≤ 140737488355328 := by rw [List.length_append, leBytes_length]; omega
      have HX : Hid (xs ++ leBytes n k ++ [n / 2 ^ (8 * k) % 256] = xs ++ leBytes n (k + 1)) := by
        show _ = _
        rw [leBytes_succ, List.append_assoc]
      go_wp2_with (at_builtin; refine Held.of ?_)
      refine app_byte rfl (.tmp 17) (.tmp 23) 23 rfl Tryz.underlying23 _ (xs ++ leBytes n k) _ rfl rfl O.out hll ?_
      intro v3 w3 o3 _
      rw [HX.out] at o3
      have O3 := Lib.hid o3
      clear o3
      go_wp2
      go_roundw
      case rel => exact ⟨k + 1, by omega, by go_num, O3.out⟩
      case measure => simp [intOf]; omega
    · have hkm : k = m := by omega
      have O4 := Lib.hid (hkm ▸ O.out)
      clear hkm
      go_wp2
      go_ret
      exact ⟨_, rfl, O4.out⟩

end Go.Proofs.YtononoakdebjeaaGreatDoor.Pack
namespace Go.Proofs.YtononoakdebjeaaGreatDoor.Pack
open Go.RowKit Go.Proofs.YtononoakdebjeaaGreatDoorW.PrintWords Go.Proofs.YtononoakdebjeaaGreatDoor.Base
set_option linter.unusedVariables false
set_option linter.unusedSimpArgs false

section
variable {ops : Array Oper} {rest : List Oper} {o : Oper} {a : Act} {Q : Exit → Act → World → Prop}
theorem app_str {w0 W : World} (hgd : o.guard = none) (s x : Operand) (t u : TypeId)
    (ho : o.op = .call { callee := .builtin .append, args := #[s, x], argTypes := #[t, u] })
    (ht : Tryz.prog.underlying t = some (.slice 5)) (hu : Tryz.prog.underlying u = some .string)
    (v : Value) (xs : List Int) (y : ByteArray) (hs : a.eval s = v) (hx : a.eval x = .string y)
    (HO : Ow w0 W v xs) (hl : xs.length + y.size ≤ 140737488355328)
    (h : ∀ v1 w1, Ow w0 w1 v1 (xs ++ bytesOf y) → W.grownBy w1 v.ownBlock → wpList Tryz.prog ops Q rest (a.put o.dst v1) w1) :
    Held (wpList Tryz.prog ops Q (o :: rest) a W) := by
  refine Held.out (print_append_str (P := Tryz.prog) w0.heap.size hgd s x t u 5 ho ht hu info_u8 v xs y hs hx HO.own HO.below HO.below.size hl ?_)
  intro v1 w1 h1 h2 h3
  exact h v1 w1 ⟨h1, h2⟩ h3
end

theorem u32_any (v : Value) (xs : List Int) (n : Int) (w : World) (hv : Bs w v xs) (hl : xs.length ≤ 140737488000000) (n0 : 0 ≤ n) (n1 : n < 4294967296) :
    Calls Tryz.prog 80 #[v, .int .u32 n] w fun e w' => ∃ v', e = .returned v' ∧ Ow w w' v' (xs ++ leBytes n 4) := by
  have HV := Lib.hid hv
  clear hv
  go_enter Tryz.func80, Tryz.ntmps80
  go_wp2_with fail
  refine (put32_any _ _ _ 4 _ HV.out hl (by omega) n0 n1).mono ?_
  rintro e w1 ⟨v1, rfl, o1⟩
  have O1 := Lib.hid o1
  clear o1
  go_wp2
  go_ret
  exact ⟨_, rfl, O1.out⟩
/-- string(b). -/
theorem str_of {w : World} {v : Value} {xs : List Int} (h : Bs w v xs) : (convert 23 9 v).run Tryz.prog w = .ok (.string (strOfNums xs)) w := by
  obtain ⟨A, c, rfl, _, hr⟩ := h
  exact string_of_reads Tryz.underlying23 Tryz.underlying5 Tryz.underlying9 hr

end Go.Proofs.YtononoakdebjeaaGreatDoor.Pack
namespace Go.Proofs.YtononoakdebjeaaGreatDoor.Pack
open Go.RowKit Go.Proofs.YtononoakdebjeaaGreatDoorW.PrintWords Go.Proofs.YtononoakdebjeaaGreatDoor.Base
set_option linter.unusedVariables false
set_option linter.unusedSimpArgs false

/-- What w had stands, but for the block g. -/
structure Only (g : Nat) (w w' : World) : Prop where
  os : w'.os = w.os
  tape : w'.tape = w.tape
  output : w'.output = w.output
  size : w.heap.size ≤ w'.heap.size
  block : ∀ k, k < w.heap.size → k ≠ g → w'.heap[k]? = w.heap[k]?
theorem Only.refl (g : Nat) (w : World) : Only g w w := ⟨rfl, rfl, rfl, Nat.le_refl _, fun _ _ _ => rfl⟩
theorem Only.trans {g : Nat} {a b c : World} (h : Only g a b) (k : Only g b c) : Only g a c :=
  ⟨k.os.trans h.os, k.tape.trans h.tape, k.output.trans h.output, Nat.le_trans h.size k.size, fun i hi hg => (k.block i (Nat.lt_of_lt_of_le hi h.size) hg).trans (h.block i hi hg)⟩
theorem Only.drew {g : Nat} {a w : World} (h : Only g a w) : Only g a w.drew := ⟨h.os, h.tape, h.output, h.size, h.block⟩
theorem Only.drewN {g : Nat} {a w : World} (h : Only g a w) (n : Nat) : Only g a (w.drewN n) := ⟨h.os, h.tape, h.output, h.size, h.block⟩
theorem Only.setCell {g : Nat} {a w : World} (h : Only g a w) (i : Nat) (u : Value) : Only g a (w.setCell ⟨g, i, none⟩ u) :=
  h.trans ⟨rfl, rfl, rfl, by simp [World.setCell], fun k _ hg => Below.heap_setCell _ _ _ _ hg⟩
theorem Only.alloc {g : Nat} {a w : World} (h : Only g a w) (o : Obj) : Only g a (w.alloc o) :=
  h.trans ⟨rfl, rfl, rfl, by simp, fun k hk _ => Below.heap_alloc _ _ _ hk⟩
theorem Only.of_below {g : Nat} {w w' : World} (h : Below w.heap.size w w') : Only g w w' := ⟨h.os, h.tape, h.output, h.size, fun k hk _ => h.block k hk⟩
theorem Only.below {g B : Nat} {w w' : World} (h : Only g w w') (hB : B ≤ g) (hs : B ≤ w.heap.size) : Below B w w' :=
  ⟨h.os, h.tape, h.output, h.size, fun k hk => h.block k (by omega) (by omega)⟩

/-- A reader at block g: what is left, and whether there was too little once. Its bytes lie in a row from block B on. -/
structure Rd (B : Nat) (w : World) (g : Nat) (rest : List Int) (bad : Bool) : Prop where
  cell : ∃ v, w.heap[g]? = some (.cells #[v, .bool bad] 124 (0, 0)) ∧ QRow w B 5 1 v rest.length (nums .u8 rest)
  base : B ≤ g
  none_ : bad = true → rest = []
theorem Rd.lt {B : Nat} {w : World} {g : Nat} {rest : List Int} {bad : Bool} (h : Rd B w g rest bad) : g < w.heap.size := by
  obtain ⟨_, hc, _⟩ := h.cell
  exact blk_lt hc
/-- A reader stands where its block and its row stand. -/
theorem Rd.move {B : Nat} {w w1 : World} {g : Nat} {rest : List Int} {bad : Bool} (h : Rd B w g rest bad) (hm : ∀ k, k < w.heap.size → B ≤ k → w1.heap[k]? = w.heap[k]?) : Rd B w1 g rest bad := by
  obtain ⟨v, hc, hq⟩ := h.cell
  exact ⟨⟨v, (hm g (blk_lt hc) h.base).trans hc, q_move hq fun k hk => hm k (q_lt hq k hk) (q_typed hq k hk).1⟩, h.base, h.none_⟩
theorem Rd.below {B : Nat} {w w1 : World} {g : Nat} {rest : List Int} {bad : Bool} (h : Rd B w g rest bad) (hb : Below w.heap.size w w1) : Rd B w1 g rest bad :=
  h.move fun k hk _ => hb.block k hk
theorem Rd.drewN {B : Nat} {w : World} {g : Nat} {rest : List Int} {bad : Bool} (h : Rd B w g rest bad) (n : Nat) : Rd B (w.drewN n) g rest bad := h.below (pw_below_drewN (Below.refl _ _) n)
/-- Another block, that is no row of bytes, has been written. -/
theorem Rd.only {B : Nat} {w w1 : World} {g g' t : Nat} {rest : List Int} {bad : Bool} {cs : Array Value} (h : Rd B w g rest bad) (ho : Only g' w w1) (hne : g ≠ g') (ht : w.heap[g']? = some (.cells cs t (0, 0))) (h8 : t ≠ 5) : Rd B w1 g rest bad := by
  obtain ⟨v, hc, hq⟩ := h.cell
  refine ⟨⟨v, (ho.block g (blk_lt hc) hne).trans hc, q_move hq fun k hk => ho.block k (q_lt hq k hk) ?_⟩, h.base, h.none_⟩
  obtain ⟨_, cells, hk2⟩ := q_typed hq k hk
  rintro rfl
  rw [ht] at hk2
  injection hk2 with hk2
  injection hk2 with _ e
  exact h8 e
theorem bs_of_q {w : World} {B n : Nat} {v : Value} {xs : List Int} (h : QRow w B 5 1 v n (nums .u8 xs)) (hn : n = xs.length) : Bs w v xs := by
  subst hn
  obtain ⟨A, c, rfl, hc⟩ := q_slice h
  refine ⟨A, c, rfl, hc, rfl, q_max h, fun hp => ?_⟩
  obtain ⟨ad, rfl, hcell⟩ := q_cells h hp
  refine ⟨ad, rfl, fun i hi => hcell i _ ?_⟩
  simp [nums, List.getElem?_eq_getElem hi, List.getD_eq_getElem?_getD]

set_option maxHeartbeats 800000 in
/-- pack.New. -/
theorem new_any (v : Value) (xs : List Int) (w : World) (hv : Bs w v xs) (hl : xs.length ≤ 140737488355328) :
    Calls Tryz.prog 75 #[v] w fun e w' => ∃ g, e = .returned (.pointer (some ⟨g, 0, none⟩)) ∧ Rd w.heap.size w' g xs false ∧ Below w.heap.size w w' := by
  have HV := Lib.hid hv
  clear hv
  go_enter Tryz.func75, Tryz.ntmps75
  go_wp2_with fail
  refine (clone_any _ _ _ HV.out hl).mono ?_
  rintro e w1 ⟨v1, rfl, o1⟩
  obtain ⟨A1, n1, c1, rfl, hn1⟩ := o1.slice
  have HN := Lib.hid hn1
  have O1 := Lib.hid o1
  clear o1 hn1
  go_wp2
  go_ret
  refine ⟨_, rfl, ⟨⟨_, blk_new w1 _, ?_⟩, O1.out.below.size, fun h => by cases h⟩, below_alloc O1.out.below _⟩
  exact q_of_own (O1.out.alloc _).own

theorem q_set {w : World} {B g n i : Nat} {v u : Value} {xs : List Value} {cs : Array Value} {t : TypeId} (h : QRow w B 5 1 v n xs) (hc : w.heap[g]? = some (.cells cs t (0, 0))) (h8 : t ≠ 5) : QRow (w.setCell ⟨g, i, none⟩ u) B 5 1 v n xs := by
  refine q_move h fun k hk => Below.heap_setCell _ _ _ _ ?_
  obtain ⟨_, cells, hk2⟩ := q_typed h k hk
  rintro rfl
  have e := hc.symm.trans hk2
  injection e with e
  injection e with _ e
  exact h8 e

set_option maxHeartbeats 800000 in
theorem take_ok (B g m : Nat) (rest : List Int) (w : World) (h : Rd B w g rest false) (hm : m ≤ rest.length) :
    Calls Tryz.prog 107 #[.pointer (some ⟨g, 0, none⟩), .int .i64 m] w fun e w' => ∃ u, e = .returned u ∧ Bs w' u (rest.take m) ∧ Rd B w' g (rest.drop m) false ∧ Only g w w' := by
  obtain ⟨v, hc, hq⟩ := h.cell
  obtain ⟨A, c, rfl, hle⟩ := q_slice hq
  have hmax := q_max hq
  have c0 := blk_cell hc 0
  have c1 := blk_cell hc 1
  have f0 := blk_frozen hc 0
  have f1 := blk_frozen hc 1
  have HC := Lib.hid hc
  have HQ := Lib.hid hq
  have HR := Lib.hid h
  clear hc hq h
  have ht := q_take HQ.out hm
  rw [Nat.mul_one] at ht
  have htl : (rest.take m).length = m := by rw [List.length_take]; omega
  have hu : QRow w B 5 1 (.slice A m c) m (nums .u8 (rest.take m)) := by
    rw [show nums .u8 (rest.take m) = (nums .u8 rest).take m from by simp [nums, List.map_take]]; exact ht
  have HU := Lib.hid hu
  have hd := q_drop HQ.out hm
  rw [Nat.mul_one] at hd
  have hdl : (rest.drop m).length = rest.length - m := List.length_drop
  have hd2 : QRow w B 5 1 (.slice (if c = m then A else A.map (·.add m)) (rest.length - m) (c - m)) (rest.drop m).length (nums .u8 (rest.drop m)) := by
    rw [hdl, show nums .u8 (rest.drop m) = (nums .u8 rest).drop m from by simp [nums, List.map_drop]]; exact hd
  have HD := Lib.hid hd2
  have HT := Lib.hid htl
  clear ht htl hu hd hdl hd2
  by_cases hcm : c = m
  · obtain rfl := hcm
    have HD2 : Hid (QRow w B 5 1 (.slice A (rest.length - c) (c - c)) (rest.drop c).length (nums .u8 (rest.drop c))) := by have := HD.out; rw [if_pos rfl] at this; exact this
    clear HD
    go_enter Tryz.func107, Tryz.ntmps107
    have hz : rest.length - c = 0 := by omega
    have HZ := Lib.hid hz
    clear hz
    go_wp2
    go_ret
    refine ⟨_, rfl, bs_of_q (q_set HU.out HC.out (by decide)) HT.out.symm, ⟨⟨_, blk_set HC.out 0 _, ?_⟩, HR.out.base, fun h => by cases h⟩, (Only.refl g w).setCell 0 _⟩
    have := q_set (i := 0) (u := .slice A 0 0) HD2.out HC.out (by decide)
    rw [HZ.out, Nat.sub_self] at this
    exact this
  · have HD2 : Hid (QRow w B 5 1 (.slice (A.map (·.add m)) (rest.length - m) (c - m)) (rest.drop m).length (nums .u8 (rest.drop m))) := by have := HD.out; rw [if_neg hcm] at this; exact this
    clear HD
    go_enter Tryz.func107, Tryz.ntmps107
    go_wp2
    go_ret
    exact ⟨_, rfl, bs_of_q (q_set HU.out HC.out (by decide)) HT.out.symm, ⟨⟨_, blk_set HC.out 0 _, q_set HD2.out HC.out (by decide)⟩, HR.out.base, fun h => by cases h⟩, (Only.refl g w).setCell 0 _⟩

theorem q_nil (w : World) (B : Nat) : QRow w B 5 1 (.slice none 0 0) ([] : List Int).length (nums .u8 []) := ⟨rfl, .inl ⟨rfl, none, rfl, fun a ha => by cases ha⟩⟩

set_option maxHeartbeats 800000 in
theorem take_short (B g m : Nat) (rest : List Int) (bad : Bool) (w : World) (h : Rd B w g rest bad) (hm : bad = true ∨ rest.length < m) :
    Calls Tryz.prog 107 #[.pointer (some ⟨g, 0, none⟩), .int .i64 m] w fun e w' => e = .returned (.slice none 0 0) ∧ Rd B w' g [] true ∧ Only g w w' := by
  obtain ⟨v, hc, hq⟩ := h.cell
  obtain ⟨A, c, rfl, hle⟩ := q_slice hq
  have hmax := q_max hq
  have c0 := blk_cell hc 0
  have c1 := blk_cell hc 1
  have f0 := blk_frozen hc 0
  have f1 := blk_frozen hc 1
  have HC := Lib.hid hc
  have HQ := Lib.hid hq
  have HR := Lib.hid h
  clear hc hq h
  cases bad with
  | true =>
    clear hm
    go_enter Tryz.func107, Tryz.ntmps107
    go_wp2
    go_ret
    exact ⟨rfl, ⟨⟨_, blk_set (blk_set HC.out 1 _) 0 _, q_nil _ _⟩, HR.out.base, fun _ => rfl⟩, ((Only.refl g w).setCell 1 _).setCell 0 _⟩
  | false =>
    have hm' : rest.length < m := hm.resolve_left (by simp)
    clear hm
    have HT := blk_set (blk_set HC.out 1 (.bool true)) 0 (.slice none 0 0)
    have HT' := Lib.hid HT
    clear HT
    go_enter Tryz.func107, Tryz.ntmps107
    go_wp2
    go_ret
    exact ⟨rfl, ⟨⟨_, HT'.out, q_nil _ _⟩, HR.out.base, fun _ => rfl⟩, ((Only.refl g w).setCell 1 _).setCell 0 _⟩
theorem take_nil (m : Int) (w : World) :
    Calls Tryz.prog 107 #[.pointer none, .int .i64 m] w fun e w' => e = .returned (.slice none 0 0) ∧ w = w' := by
  go_enter Tryz.func107, Tryz.ntmps107
  go_wp2
  go_ret
  exact ⟨rfl, rfl⟩
end Go.Proofs.YtononoakdebjeaaGreatDoor.Pack
namespace Go.Proofs.YtononoakdebjeaaGreatDoor.Pack
open Go.RowKit Go.Proofs.YtononoakdebjeaaGreatDoorW.PrintWords Go.Proofs.YtononoakdebjeaaGreatDoor.Base
set_option linter.unusedVariables false
set_option linter.unusedSimpArgs false

set_option maxHeartbeats 800000 in
theorem get32_ok (B g m : Nat) (rest : List Int) (w : World) (h : Rd B w g rest false) (hm : m ≤ rest.length) (h4 : m ≤ 4) (hb : Bytes rest) :
    Calls Tryz.prog 87 #[.pointer (some ⟨g, 0, none⟩), .int .i64 m] w fun e w' => e = .returned (.int .u32 (leVal (rest.take m))) ∧ Rd B w' g (rest.drop m) false ∧ Only g w w' := by
  have H := Lib.hid h
  clear h
  go_enter Tryz.func87, Tryz.ntmps87
  go_wp2_with fail
  refine (take_ok B g m rest _ H.out hm).mono ?_
  rintro e w1 ⟨u, rfl, hu, hr, ho⟩
  obtain ⟨xs, hxs⟩ : ∃ xs, rest.take m = xs := ⟨_, rfl⟩
  rw [hxs] at hu
  have hbx : Bytes xs := by rw [← hxs]; exact hb.take m
  have hlx : xs.length = m := by rw [← hxs, List.length_take]; omega
  obtain ⟨A, c, rfl, hc, hrd⟩ := hu
  have hm := hrd.2.1
  have HX := Lib.hid hxs
  have HL := Lib.hid hlx
  have HR := Lib.hid hrd
  have HD := Lib.hid hr
  have HO := Lib.hid ho
  have hx4 : xs.length ≤ 4 := by omega
  have HBX := Lib.hid hbx
  clear hxs hlx hrd hr ho hbx
  go_wp2
  go_loop [5, 13] (fun n i => ∃ k : Nat, k ≤ xs.length ∧ i = .int .i64 k ∧ n = .int .u32 (leVal (xs.take k))) (fun _ i => xs.length - (intOf i).toNat)
  case atStart => exact ⟨0, by omega, rfl, rfl⟩
  case round =>
    obtain ⟨k, hk, rfl, rfl⟩ := hrel
    by_cases hlt : k < xs.length
    · obtain ⟨ad, e1, hcell⟩ := at_nat HR.out k hlt
      cases e1
      have HS : Hid (Go.bits .or .u32 (leVal (xs.take k)) (rd xs k % 4294967296 * 2 ^ (8 * k) % 4294967296) = leVal (xs.take (k + 1))) := or32 xs k hlt hx4 HBX.out
      go_wp2
      rw [HS.out]
      go_round
      case rel => exact ⟨k + 1, by omega, by go_num, rfl⟩
      case measure => simp [intOf]; omega
    · have h8 : k = xs.length := by omega
      have HY : Hid (leVal (xs.take k) = leVal xs) := by show _ = _; rw [h8, List.take_length]
      clear h8
      go_wp2
      go_ret
      exact ⟨ret_int (by rw [HX.out]; exact HY.out), HD.out, HO.out⟩

theorem get32_short (B g m : Nat) (rest : List Int) (bad : Bool) (w : World) (h : Rd B w g rest bad) (hm : bad = true ∨ rest.length < m) :
    Calls Tryz.prog 87 #[.pointer (some ⟨g, 0, none⟩), .int .i64 m] w fun e w' => e = .returned (.int .u32 0) ∧ Rd B w' g [] true ∧ Only g w w' := by
  have H := Lib.hid h
  have HM := Lib.hid hm
  clear h hm
  go_enter Tryz.func87, Tryz.ntmps87
  go_wp2_with fail
  refine (take_short B g m rest bad _ H.out HM.out).mono ?_
  rintro e w1 ⟨rfl, hr, ho⟩
  have HR := Lib.hid hr
  have HO := Lib.hid ho
  clear hr ho
  go_wp2
  refine wp_loop_rounds 1 ?_
  rw [rounds_succ]
  go_wp2
  go_ret
  exact ⟨rfl, HR.out, HO.out⟩
theorem get32_nil (m : Nat) (w : World) :
    Calls Tryz.prog 87 #[.pointer none, .int .i64 m] w fun e w' => e = .returned (.int .u32 0) ∧ w = w' := by
  go_enter Tryz.func87, Tryz.ntmps87
  go_wp2_with fail
  refine (take_nil m _).mono ?_
  rintro e w1 ⟨rfl, rfl⟩
  go_wp2
  refine wp_loop_rounds 1 ?_
  rw [rounds_succ]
  go_wp2
  go_ret
  exact ⟨rfl, rfl⟩
theorem r32_ok (B g : Nat) (rest : List Int) (w : World) (h : Rd B w g rest false) (hm : 4 ≤ rest.length) (hb : Bytes rest) :
    Calls Tryz.prog 76 #[.pointer (some ⟨g, 0, none⟩)] w fun e w' => e = .returned (.int .u32 (leVal (rest.take 4))) ∧ Rd B w' g (rest.drop 4) false ∧ Only g w w' := by
  have H := Lib.hid h
  have HB := Lib.hid hb
  clear h hb
  go_enter Tryz.func76, Tryz.ntmps76
  go_wp2_with fail
  refine (get32_ok B g 4 rest _ H.out hm (by omega) HB.out).mono ?_
  rintro e w1 ⟨rfl, hr, ho⟩
  have HR := Lib.hid hr
  have HO := Lib.hid ho
  clear hr ho
  go_wp2
  go_ret
  exact ⟨rfl, HR.out, HO.out⟩
theorem r32_short (B g : Nat) (rest : List Int) (bad : Bool) (w : World) (h : Rd B w g rest bad) (hm : bad = true ∨ rest.length < 4) :
    Calls Tryz.prog 76 #[.pointer (some ⟨g, 0, none⟩)] w fun e w' => e = .returned (.int .u32 0) ∧ Rd B w' g [] true ∧ Only g w w' := by
  have H := Lib.hid h
  have HM := Lib.hid hm
  clear h hm
  go_enter Tryz.func76, Tryz.ntmps76
  go_wp2_with fail
  refine (get32_short B g 4 rest bad _ H.out HM.out).mono ?_
  rintro e w1 ⟨rfl, hr, ho⟩
  have HR := Lib.hid hr
  have HO := Lib.hid ho
  clear hr ho
  go_wp2
  go_ret
  exact ⟨rfl, HR.out, HO.out⟩
theorem r32_nil (w : World) :
    Calls Tryz.prog 76 #[.pointer none] w fun e w' => e = .returned (.int .u32 0) ∧ w = w' := by
  go_enter Tryz.func76, Tryz.ntmps76
  go_wp2_with fail
  refine (get32_nil 4 _).mono ?_
  rintro e w1 ⟨rfl, rfl⟩
  go_wp2
  go_ret
  exact ⟨rfl, rfl⟩

theorem left_any (B g : Nat) (rest : List Int) (bad : Bool) (w : World) (h : Rd B w g rest bad) :
    Calls Tryz.prog 78 #[.pointer (some ⟨g, 0, none⟩)] w fun e w' => e = .returned (.int .i64 rest.length) ∧ w = w' := by
  obtain ⟨v, hc, hq⟩ := h.cell
  obtain ⟨A, c, rfl, hle⟩ := q_slice hq
  have hmax := q_max hq
  have c0 := blk_cell hc 0
  clear hc hq h
  go_enter Tryz.func78, Tryz.ntmps78
  go_wp2
  go_ret
  exact ⟨rfl, rfl⟩
theorem left_nil (w : World) :
    Calls Tryz.prog 78 #[.pointer none] w fun e w' => e = .returned (.int .i64 0) ∧ w = w' := by
  go_enter Tryz.func78, Tryz.ntmps78
  go_wp2
  go_ret
  exact ⟨rfl, rfl⟩
theorem right_any (B g : Nat) (rest : List Int) (bad : Bool) (w : World) (h : Rd B w g rest bad) :
    Calls Tryz.prog 77 #[.pointer (some ⟨g, 0, none⟩)] w fun e w' => e = .returned (.bool (!bad)) ∧ w = w' := by
  obtain ⟨v, hc, hq⟩ := h.cell
  obtain ⟨A, c, rfl, hle⟩ := q_slice hq
  have c1 := blk_cell hc 1
  clear hc hq h
  go_enter Tryz.func77, Tryz.ntmps77
  go_wp2
  go_ret
  exact ⟨rfl, rfl⟩
theorem right_nil (w : World) :
    Calls Tryz.prog 77 #[.pointer none] w fun e w' => e = .returned (.bool false) ∧ w = w' := by
  go_enter Tryz.func77, Tryz.ntmps77
  go_wp2
  go_ret
  exact ⟨rfl, rfl⟩
end Go.Proofs.YtononoakdebjeaaGreatDoor.Pack
namespace Go.Proofs.YtononoakdebjeaaGreatDoor.Pack
open Go.RowKit Go.Proofs.YtononoakdebjeaaGreatDoorW.PrintWords Go.Proofs.YtononoakdebjeaaGreatDoor.Base
set_option linter.unusedVariables false
set_option linter.unusedSimpArgs false

end Go.Proofs.YtononoakdebjeaaGreatDoor.Pack
namespace Go.Proofs.YtononoakdebjeaaGreatDoor.Pack
open Go.RowKit Go.Proofs.YtononoakdebjeaaGreatDoorW.PrintWords Go.Proofs.YtononoakdebjeaaGreatDoor.Base
set_option linter.unusedVariables false
set_option linter.unusedSimpArgs false

theorem leVal_drop (xs : List Int) (k : Nat) (h : k < xs.length) : leVal (xs.drop k) = rd xs k + 256 * leVal (xs.drop (k + 1)) := by
  have e : xs.drop k = rd xs k :: xs.drop (k + 1) := by
    rw [List.drop_eq_getElem_cons h]
    unfold rd
    rw [Int.toNat_natCast, List.getD_eq_getElem?_getD, List.getElem?_eq_getElem h]; rfl
  rw [e, leVal]
theorem pow_8 (k : Nat) (h : k ≤ 7) : (256 : Int) ^ k ≤ 72057594037927936 := by
  rcases (by omega : k = 0 ∨ k = 1 ∨ k = 2 ∨ k = 3 ∨ k = 4 ∨ k = 5 ∨ k = 6 ∨ k = 7) with h | h | h | h | h | h | h | h <;> subst h <;> decide

end Go.Proofs.YtononoakdebjeaaGreatDoor.Pack
