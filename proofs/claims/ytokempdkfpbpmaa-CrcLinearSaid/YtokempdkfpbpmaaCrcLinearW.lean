/- The walk of the law CrcLinear. -/
import Derived.Test.YtokempdkfpbpmaaCrcLaws
import Derived.Deep.RegionLaw
import Derived.BigRegion
namespace Go.Proofs.Ytokempdkfpbpmaa.Crc
open Go.RowKit Go.Proofs.YtokempdkfpbpmaaW.PrintWords Go.Proofs.Ytokempdkfpbpmaa.Base
set_option linter.unusedVariables false
set_option linter.unusedSimpArgs false

def x8 (a b : Int) : Int := Go.bits .xor .u8 a b
def xor3 (xs ys zs : List Int) (i : Nat) : Int := x8 (x8 (rd xs i) (rd ys i)) (rd zs i)
def xors (xs ys zs : List Int) (k : Nat) : List Int := (List.range k).map (xor3 xs ys zs)
theorem xors_succ (xs ys zs : List Int) (k : Nat) : xors xs ys zs (k + 1) = xors xs ys zs k ++ [xor3 xs ys zs k] := by
  unfold xors; rw [List.range_succ, List.map_append]; rfl
theorem xors_length (xs ys zs : List Int) (k : Nat) : (xors xs ys zs k).length = k := by simp [xors]

def sh (r : BitVec 32) (x : Int) : BitVec 32 := stepsB 8 (r ^^^ BitVec.ofInt 32 x)
theorem shifted_sh (r : BitVec 32) (x : Int) (h0 : 0 ≤ x) (h1 : x < 256) : shifted (U r) x = U (sh r x) := by
  unfold shifted sh
  rw [Int.emod_eq_of_lt h0 (by omega)]
  conv => lhs; rw [← U_ofInt x h0 (by omega)]
  rw [xor_U, steps_U]
theorem fold_sh (xs : List Int) : ∀ r : BitVec 32, Bytes xs → xs.foldl shifted (U r) = U (xs.foldl sh r) := by
  induction xs with
  | nil => intros; rfl
  | cons x xs ih =>
    intro r h
    have hx := h x List.mem_cons_self
    rw [List.foldl_cons, shifted_sh r x hx.1 hx.2, ih _ (fun y hy => h y (List.mem_cons_of_mem _ hy))]; rfl
theorem sum_sh (xs : List Int) (h : Bytes xs) : sumOf xs = U (F ^^^ xs.foldl sh F) := by
  show flip32 (xs.foldl shifted (flip32 (U 0#32))) = _
  rw [flip_U, BitVec.xor_zero]
  show flip32 (xs.foldl shifted (U F)) = _
  rw [fold_sh xs F h, flip_U]; rfl
theorem ofInt_x8 (a b : Int) (a0 : 0 ≤ a) (a1 : a < 256) (b0 : 0 ≤ b) (b1 : b < 256) : BitVec.ofInt 32 (x8 a b) = BitVec.ofInt 32 a ^^^ BitVec.ofInt 32 b ∧ 0 ≤ x8 a b ∧ x8 a b < 256 := by
  obtain ⟨n, rfl⟩ := Int.eq_ofNat_of_zero_le a0
  obtain ⟨m, rfl⟩ := Int.eq_ofNat_of_zero_le b0
  unfold x8
  rw [u8_xor_nat n m (by omega) (by omega)]
  have : n ^^^ m < 2 ^ 8 := Nat.xor_lt_two_pow (by omega) (by omega)
  refine ⟨?_, by omega, by omega⟩
  apply BitVec.eq_of_toNat_eq
  rw [BitVec.toNat_xor, ofInt_u32 _ (by omega), ofInt_u32 _ (by omega), ofInt_u32 _ (by omega)]
theorem sh_xor (r s t : BitVec 32) (x y z : Int) (x0 : 0 ≤ x) (x1 : x < 256) (y0 : 0 ≤ y) (y1 : y < 256) (z0 : 0 ≤ z) (z1 : z < 256) : sh (r ^^^ s ^^^ t) (x8 (x8 x y) z) = sh r x ^^^ sh s y ^^^ sh t z := by
  obtain ⟨e1, h0, h1⟩ := ofInt_x8 x y x0 x1 y0 y1
  obtain ⟨e2, _, _⟩ := ofInt_x8 (x8 x y) z h0 h1 z0 z1
  unfold sh
  rw [← stepsB_xor, ← stepsB_xor, e2, e1, xor4 (r ^^^ s) t, xor4 r s]
theorem rd_byte {xs : List Int} (h : Bytes xs) (i : Nat) (hi : i < xs.length) : 0 ≤ rd xs i ∧ rd xs i < 256 := by
  have e : rd xs i = xs[i] := by
    unfold rd
    rw [Int.toNat_natCast, List.getD_eq_getElem?_getD, List.getElem?_eq_getElem hi]; rfl
  rw [e]
  exact h _ (List.getElem_mem hi)
theorem linear_fold (xs ys zs : List Int) (h1 : Bytes xs) (h2 : Bytes ys) (h3 : Bytes zs) (r s t : BitVec 32) : ∀ k, k ≤ xs.length → k ≤ ys.length → k ≤ zs.length →
    (xors xs ys zs k).foldl sh (r ^^^ s ^^^ t) = (xs.take k).foldl sh r ^^^ (ys.take k).foldl sh s ^^^ (zs.take k).foldl sh t ∧ Bytes (xors xs ys zs k) := by
  intro k
  induction k with
  | zero => intros; exact ⟨rfl, fun x hx => by cases hx⟩
  | succ k ih =>
    intro k1 k2 k3
    obtain ⟨e, hb⟩ := ih (by omega) (by omega) (by omega)
    have a1 := rd_byte h1 k (by omega)
    have a2 := rd_byte h2 k (by omega)
    have a3 := rd_byte h3 k (by omega)
    constructor
    · rw [xors_succ, List.foldl_append, e, take_snoc xs k k1, take_snoc ys k k2, take_snoc zs k k3, List.foldl_append, List.foldl_append, List.foldl_append]
      exact sh_xor _ _ _ _ _ _ a1.1 a1.2 a2.1 a2.2 a3.1 a3.2
    · rw [xors_succ]
      intro x hx
      rcases List.mem_append.1 hx with hx | hx
      · exact hb x hx
      · rw [List.mem_singleton.1 hx]
        obtain ⟨_, h0, h1⟩ := ofInt_x8 (rd xs k) (rd ys k) a1.1 a1.2 a2.1 a2.2
        exact (ofInt_x8 _ _ h0 h1 a3.1 a3.2).2
theorem linear_pure (xs ys zs : List Int) (h1 : Bytes xs) (h2 : Bytes ys) (h3 : Bytes zs) (g2 : xs.length ≤ ys.length) (g3 : xs.length ≤ zs.length) :
    (sumOf (xors xs ys zs xs.length) == Go.bits .xor .u32 (Go.bits .xor .u32 (sumOf xs) (sumOf (ys.take xs.length))) (sumOf (zs.take xs.length))) = true := by
  obtain ⟨e, hb⟩ := linear_fold xs ys zs h1 h2 h3 F F F xs.length (Nat.le_refl _) g2 g3
  have t2 : Bytes (ys.take xs.length) := fun x hx => h2 x (List.mem_of_mem_take hx)
  have t3 : Bytes (zs.take xs.length) := fun x hx => h3 x (List.mem_of_mem_take hx)
  have hF : F ^^^ F ^^^ F = F := by decide
  rw [hF, List.take_length] at e
  rw [sum_sh _ hb, sum_sh _ h1, sum_sh _ t2, sum_sh _ t3, xor_U, xor_U, e, beq_iff_eq]
  congr 1
  generalize xs.foldl sh F = a
  generalize (ys.take xs.length).foldl sh F = b
  generalize (zs.take xs.length).foldl sh F = c
  rw [xor4 F a F b, xor4 (F ^^^ F) (a ^^^ b), hF]

set_option maxHeartbeats 1600000 in
theorem CrcLinear_any (v1 v2 v3 : Value) (xs ys zs : List Int) (w : World) (h1 : Bs w v1 xs) (h2 : Bs w v2 ys) (h3 : Bs w v3 zs) (b1 : Bytes xs) (b2 : Bytes ys) (b3 : Bytes zs) :
    Calls Try.prog 6 #[v1, v2, v3] w fun e w' => e = .returned (.bool true) ∧ Below w.heap.size w w' := by
  obtain ⟨A1, c1, rfl, hc1, r1⟩ := h1
  obtain ⟨A2, c2, rfl, hc2, r2⟩ := h2
  obtain ⟨A3, c3, rfl, hc3, r3⟩ := h3
  have hm1 := r1.2.1
  have hm2 := r2.2.1
  have hm3 := r3.2.1
  have R1 := Lib.hid r1
  have R2 := Lib.hid r2
  have R3 := Lib.hid r3
  clear r1 r2 r3
  by_cases g1 : xs.length ≤ 1000
  · by_cases g2 : xs.length ≤ ys.length
    · by_cases g3 : xs.length ≤ zs.length
      · by_cases g4 : ys.length ≤ 1000
        · by_cases g5 : zs.length ≤ 1000
          · have P1 := Lib.hid (linear_pure xs ys zs b1 b2 b3 g2 g3)
            have R1' : Hid (Bs w (.slice A1 xs.length c1) xs) := ⟨_, _, rfl, hc1, R1.out⟩
            have l2 : (ys.take xs.length).length = xs.length := by rw [List.length_take]; omega
            have l3 : (zs.take xs.length).length = xs.length := by rw [List.length_take]; omega
            have R2' : Hid (Bs w (.slice A2 xs.length c2) (ys.take xs.length)) := ⟨A2, c2, by rw [l2], by rw [l2]; omega, by rw [l2]; exact R2.out.take_ _ g2⟩
            have R3' : Hid (Bs w (.slice A3 xs.length c3) (zs.take xs.length)) := ⟨A3, c3, by rw [l3], by rw [l3]; omega, by rw [l3]; exact R3.out.take_ _ g3⟩
            clear l2 l3
            have d1 : decide ((1000 : Int) < (xs.length : Int)) = false := decide_eq_false (by omega)
            have d2 : decide ((1000 : Int) < (ys.length : Int)) = false := decide_eq_false (by omega)
            have d3 : decide ((1000 : Int) < (zs.length : Int)) = false := decide_eq_false (by omega)
            have d4 : decide (ys.length < xs.length) = false := decide_eq_false (by omega)
            have d5 : decide (zs.length < xs.length) = false := decide_eq_false (by omega)
            go_enter Try.func6, Try.ntmps6
            go_wp2
            go_quiet (fail)
            go_wp2
            go_loopw [7, 8] (fun v i wr => ∃ k : Nat, k ≤ xs.length ∧ i = .int .i64 k ∧ Ow w wr v (xors xs ys zs k)) (fun _ i _ => xs.length - (intOf i).toNat)
            case atStart => exact ⟨0, Nat.zero_le _, rfl, Ow.nil (pw_below_drewN (Below.refl _ _) _)⟩
            case round =>
              obtain ⟨k, hk, rfl, ho⟩ := hrel
              have O := Lib.hid ho
              by_cases hlt : k < xs.length
              · obtain ⟨a1, e1, cell1⟩ := at_nat (R1.out.below ho.below) k hlt
                obtain ⟨a2, e2, cell2⟩ := at_nat (R2.out.below ho.below) k (by omega)
                obtain ⟨a3, e3, cell3⟩ := at_nat (R3.out.below ho.below) k (by omega)
                cases e1
                cases e2
                cases e3
                clear ho
                go_wp2
                go_region_law (refine app_byte_step rfl (.tmp 50) (.tmp 65) 22 rfl Try.underlying22 _ _ _ (by simp [Act.eval, Act.put]) (by simp [Act.eval, Act.put]) O.out.drew (by rw [xors_length]; omega) ?_; intro v1 w1 o1 _)
                all_goals
                  have HX : Hid (xors xs ys zs k ++ [Go.bits .xor .u8 (Go.bits .xor .u8 (rd xs k) (rd ys k)) (rd zs k)] = xors xs ys zs (k + 1)) := (xors_succ xs ys zs k).symm
                  rw [HX.out] at o1
                  have O1 := Lib.hid o1
                  clear o1
                  go_wp2
                  go_roundw
                  case rel => exact ⟨k + 1, by omega, by go_num, O1⟩
                  case measure => simp [intOf]; omega
              · have h8 : k = xs.length := by omega
                have O2 := Lib.hid (h8 ▸ ho)
                clear h8 ho O
                obtain ⟨Ad, nd, cd, rfl, hnd⟩ := O2.out.slice
                have Hnd := Lib.hid hnd
                clear hnd
                go_wp2_with fail
                refine (sum_any _ _ _ O2.out.bs).mono ?_
                rintro e w' ⟨rfl, rfl⟩
                go_wp2_with fail
                refine (sum_any _ _ _ (R1'.out.below O2.out.below)).mono ?_
                rintro e w' ⟨rfl, rfl⟩
                go_wp2_with fail
                refine (sum_any _ _ _ (R2'.out.below O2.out.below)).mono ?_
                rintro e w' ⟨rfl, rfl⟩
                go_wp2_with fail
                refine (sum_any _ _ _ (R3'.out.below O2.out.below)).mono ?_
                rintro e w' ⟨rfl, rfl⟩
                have hp := P1.out
                go_wp2_with fail
                refine (awake_any _).mono ?_
                rintro e w' ⟨rfl, hb⟩
                go_wp2_with fail
                go_ret
                exact ⟨rfl, O2.out.below.trans (hb.mono O2.out.below.size)⟩
          · go_enter Try.func6, Try.ntmps6
            go_wp2
            go_ret
            exact ⟨rfl, Below.refl _ _⟩
        · go_enter Try.func6, Try.ntmps6
          go_wp2
          go_ret
          exact ⟨rfl, Below.refl _ _⟩
      · go_enter Try.func6, Try.ntmps6
        go_wp2
        go_ret
        exact ⟨rfl, Below.refl _ _⟩
    · go_enter Try.func6, Try.ntmps6
      go_wp2
      go_ret
      exact ⟨rfl, Below.refl _ _⟩
  · go_enter Try.func6, Try.ntmps6
    go_wp2
    go_ret
    exact ⟨rfl, Below.refl _ _⟩
end Go.Proofs.Ytokempdkfpbpmaa.Crc
