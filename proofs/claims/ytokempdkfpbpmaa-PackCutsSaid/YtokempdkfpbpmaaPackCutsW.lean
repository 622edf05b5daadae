/- The walk of the law PackCuts. -/
import Derived.Test.YtokempdkfpbpmaaPackGet
namespace Go.Proofs.Ytokempdkfpbpmaa.Pack
open Go.RowKit Go.Proofs.YtokempdkfpbpmaaW.PrintWords Go.Proofs.Ytokempdkfpbpmaa.Base
set_option linter.unusedVariables false
set_option linter.unusedSimpArgs false

def le8 (l : List Int) : List Int := l.flatMap fun n => leBytes n 8
theorem le8_length (l : List Int) : (le8 l).length = 8 * l.length := by
  induction l with
  | nil => rfl
  | cons n l ih => unfold le8 at ih ⊢; rw [List.flatMap_cons, List.length_append, ih, leBytes_length, List.length_cons]; omega
theorem le8_bytes (l : List Int) : Bytes (le8 l) := fun x hx => by
  obtain ⟨n, _, h⟩ := List.mem_flatMap.1 hx
  exact leBytes_bytes n 8 x h
theorem le8_snoc (l : List Int) (k : Nat) (h : k < l.length) : le8 (l.take (k + 1)) = le8 (l.take k) ++ leBytes (rd l k) 8 := by
  rw [take_snoc l k h]
  unfold le8
  rw [List.flatMap_append]; simp
theorem le8_drop (l : List Int) (k : Nat) : (le8 l).drop (8 * k) = le8 (l.drop k) := by
  induction l generalizing k with
  | nil => simp [le8]
  | cons n l ih =>
    cases k with
    | zero => rfl
    | succ k =>
      unfold le8 at ih ⊢
      rw [List.flatMap_cons, List.drop_succ_cons, ← ih k]
      have e : 8 * (k + 1) = (leBytes n 8).length + 8 * k := by rw [leBytes_length]; omega
      rw [e, List.drop_append, List.drop_of_length_le (by omega), List.nil_append]
      congr 1; omega
/-- What is left of the cut bytes behind k numbers. -/
def restOf (l : List Int) (cut k : Nat) : List Int := if cut / 8 < k then [] else ((le8 l).take cut).drop (8 * k)
theorem restOf_bytes (l : List Int) (cut k : Nat) : Bytes (restOf l cut k) := by
  unfold restOf
  split
  · exact Bytes.nil
  · exact ((le8_bytes l).take _).drop _
theorem restOf_length (l : List Int) (cut k : Nat) (h : ¬ cut / 8 < k) (hc : cut ≤ 8 * l.length) : (restOf l cut k).length = cut - 8 * k := by
  unfold restOf
  rw [if_neg h, List.length_drop, List.length_take, le8_length]; omega
theorem restOf_take (l : List Int) (cut k : Nat) (h : k < cut / 8) (hk : k < l.length) : (restOf l cut k).take 8 = leBytes (rd l k) 8 := by
  unfold restOf
  rw [if_neg (by omega), List.drop_take, List.take_take, Nat.min_eq_left (by omega), le8_drop]
  have e : l.drop k = rd l k :: l.drop (k + 1) := by
    rw [List.drop_eq_getElem_cons hk]
    unfold rd
    rw [Int.toNat_natCast, List.getD_eq_getElem?_getD, List.getElem?_eq_getElem hk]; rfl
  rw [e]
  unfold le8
  rw [List.flatMap_cons, List.take_append_of_le_length (by rw [leBytes_length]; omega), List.take_of_length_le (by rw [leBytes_length]; omega)]
theorem restOf_drop (l : List Int) (cut k : Nat) (h : k < cut / 8) : (restOf l cut k).drop 8 = restOf l cut (k + 1) := by
  unfold restOf
  rw [if_neg (by omega), if_neg (by omega), List.drop_drop]
  rfl

set_option maxHeartbeats 3200000 in
theorem PackCuts_any (v1 : Value) (l : List Int) (a : Nat) (w : World) (A1 : Option Addr) (c1 : Nat) (hv1 : v1 = .slice A1 l.length c1) (r1 : ReadsInt w .u64 A1 l.length l) (hl : ∀ n ∈ l, 0 ≤ n ∧ n < 18446744073709551616) (ha : a < 65536) :
    Calls Try.prog 14 #[v1, .int .u16 a] w fun e w' => e = .returned (.bool true) ∧ Below w.heap.size w w' := by
  subst hv1
  have hm1 := r1.2.1
  have R1 := Lib.hid r1
  have HL := Lib.hid hl
  clear r1 hl
  by_cases g1 : l.length ≤ 50
  · by_cases g2 : l.length = 0
    · have d1 : decide ((50 : Int) < (l.length : Int)) = false := decide_eq_false (by omega)
      have d2 : ((l.length : Int) == 0) = true := beq_iff_eq.2 (by omega)
      clear g2
      go_enter Try.func14, Try.ntmps14
      go_wp2
      go_ret
      exact ⟨rfl, Below.refl _ _⟩
    · have d1 : decide ((50 : Int) < (l.length : Int)) = false := decide_eq_false (by omega)
      have d2 : ((l.length : Int) == 0) = false := beq_eq_false_iff_ne.2 (by omega)
      have hp : 0 < l.length := by omega
      clear g2
      go_enter Try.func14, Try.ntmps14
      go_wp2
      go_loopw [5, 6] (fun v i wr => ∃ k : Nat, k ≤ l.length ∧ i = .int .i64 k ∧ Ow w wr v (le8 (l.take k))) (fun _ i _ => l.length - (intOf i).toNat)
      case atStart => exact ⟨0, Nat.zero_le _, rfl, Ow.nil (Below.refl _ _)⟩
      case round =>
        obtain ⟨k, hk, rfl, ho⟩ := hrel
        have O := Lib.hid ho
        clear ho
        by_cases hlt : k < l.length
        · obtain ⟨ad, e1, hcell⟩ := at_nat (R1.out.below O.out.below) k hlt
          cases e1
          have hn : 0 ≤ rd l k ∧ rd l k < 18446744073709551616 := by
            have e : rd l k = l[k] := by
              unfold rd
              rw [Int.toNat_natCast, List.getD_eq_getElem?_getD, List.getElem?_eq_getElem hlt]; rfl
            rw [e]; exact HL.out _ (List.getElem_mem hlt)
          have HX := Lib.hid (le8_snoc l k hlt)
          have hlen : (le8 (l.take k)).length ≤ 140737488000000 := by rw [le8_length, List.length_take]; omega
          go_wp2_with fail
          refine (u64_any _ _ _ _ O.out.bs hlen hn.1 hn.2).mono ?_
          rintro e w2 ⟨v2, rfl, o2⟩
          rw [← HX.out] at o2
          have O2 := Lib.hid (o2.lower O.out.below)
          clear o2
          go_wp2
          go_roundw
          case rel => exact ⟨k + 1, by omega, by go_num, O2.out⟩
          case measure => simp [intOf]; omega
        · have hkl : k = l.length := by omega
          have O2 : Hid (Ow w wr u5 (le8 l)) := by have := O.out; rw [hkl, List.take_length] at this; exact this
          clear hkl O
          obtain ⟨A, n, c, rfl, hn⟩ := O2.out.slice
          rw [le8_length] at hn
          have hnc := own_le O2.out.own
          have hown := O2.out.own
          rw [le8_length, ← hn] at hown
          obtain ⟨cut, hcut, hcl⟩ : ∃ cut : Nat, (a : Int) % (n : Int) = (cut : Int) ∧ cut < n := ⟨a % n, (Int.natCast_emod _ _).symm, Nat.mod_lt _ (by omega)⟩
          have htk := own_take hown (m := cut) (by omega)
          have e1 : (nums .u8 (le8 l)).take (cut * 1) = nums .u8 ((le8 l).take cut) := by simp [nums, List.map_take]
          rw [e1] at htk
          have etl : ((le8 l).take cut).length = cut := by rw [List.length_take, le8_length]; omega
          have hbs : Bs wr (.slice A cut c) ((le8 l).take cut) := Bs.of_own htk etl.symm
          have BS := Lib.hid hbs
          have HN := Lib.hid hn
          have HC := Lib.hid hcut
          have ETL := Lib.hid etl
          have hn8 : n ≤ 400 := by omega
          have hn0 : 0 < n := by omega
          have d3 : ((n : Int) == 8 * (l.length : Int)) = true := beq_iff_eq.2 (by omega)
          have d4 : ((n : Int) != 8 * (l.length : Int)) = false := by rw [bne_eq_false_iff_eq]; omega
          have hcn : cut ≤ c := by omega
          have k1 := hcut
          clear hn hown htk e1 etl hbs hcut
          go_wp2_with fail
          refine (new_any _ _ _ BS.out (by rw [ETL.out]; omega)).mono ?_
          rintro e w3 ⟨g, rfl, hr, hb⟩
          have hg0 : w.heap.size ≤ g := Nat.le_trans O2.out.below.size hr.base
          have hc8 : cut / 8 < l.length := by have := HN.out; omega
          have hcl2 : cut ≤ 8 * l.length := by have := HN.out; omega
          have HB := Lib.hid (O2.out.below.trans (hb.mono O2.out.below.size))
          obtain ⟨B, hB⟩ : ∃ B, wr.heap.size = B := ⟨_, rfl⟩
          rw [hB] at hr
          have HR : Hid (Rd B w3 g (restOf l cut 0) (decide (cut / 8 < 0))) := by
            have e1 : restOf l cut 0 = (le8 l).take cut := by unfold restOf; rw [if_neg (by omega), Nat.mul_zero, List.drop_zero]
            have e2 : decide (cut / 8 < 0) = false := decide_eq_false (by omega)
            show Rd _ _ _ _ _
            rw [e1, e2]; exact hr
          clear hr hb O2 BS hB
          go_wp2
          go_loopw [9] (fun i wx => ∃ k : Nat, k ≤ l.length ∧ i = .int .i64 k ∧ Below w.heap.size w wx ∧ Rd B wx g (restOf l cut k) (decide (cut / 8 < k))) (fun i _ => l.length - (intOf i).toNat)
          case atStart => exact ⟨0, Nat.zero_le _, rfl, HB.out, HR.out⟩
          case round =>
            obtain ⟨k, hk, rfl, hbelow, hrd⟩ := hrel
            have HBW := Lib.hid hbelow
            have HRD := Lib.hid hrd
            clear HB HR hbelow hrd
            by_cases hlt : k < l.length
            · by_cases hq : k < cut / 8
              · have dq : decide ((k : Int) < (cut : Int) / 8) = true := decide_eq_true (by omega)
                have dq2 : decide ((cut : Int) / 8 ≤ (k : Int)) = false := decide_eq_false (by omega)
                have hbad : decide (cut / 8 < k) = false := decide_eq_false (by omega)
                have hbad2 : decide (cut / 8 < k + 1) = false := decide_eq_false (by omega)
                have HR1 : Hid (Rd B wr g (restOf l cut k) false) := by have := HRD.out; rw [hbad] at this; exact this
                have hlen : 8 ≤ (restOf l cut k).length := by rw [restOf_length l cut k (by omega) hcl2]; omega
                have hnn : 0 ≤ rd l k ∧ rd l k < 18446744073709551616 := by
                  have e : rd l k = l[k] := by
                    unfold rd
                    rw [Int.toNat_natCast, List.getD_eq_getElem?_getD, List.getElem?_eq_getElem hlt]; rfl
                  rw [e]; exact HL.out _ (List.getElem_mem hlt)
                have HV : Hid (leVal ((restOf l cut k).take 8) = rd l k) := by
                  show _ = _
                  rw [restOf_take l cut k hq hlt, leVal_leBytes 8 _ hnn.1 hnn.2]
                have HDR := Lib.hid (restOf_drop l cut k hq)
                have HBD := Lib.hid hbad2
                clear hbad hbad2 hnn HRD
                go_wp2_with fail
                refine (r64_ok _ g _ _ HR1.out hlen (restOf_bytes _ _ _)).mono ?_
                rintro e w5 ⟨rfl, hr, ho⟩
                rw [HV.out]
                rw [HDR.out] at hr
                have HR5 := Lib.hid hr
                have HB5 := Lib.hid (HBW.out.trans (ho.below hg0 HBW.out.size))
                clear hr ho
                obtain ⟨ad, e1, hcell⟩ := at_nat (R1.out.below HB5.out) k hlt
                cases e1
                go_wp2_with fail
                refine (right_any _ g _ _ _ HR5.out).mono ?_
                rintro e w6 ⟨rfl, rfl⟩
                go_wp2
                go_roundw
                case rel => exact ⟨k + 1, by omega, by go_num, HB5.out, by rw [HBD.out]; exact HR5.out⟩
                case measure => simp [intOf]; omega
              · have dq : decide ((k : Int) < (cut : Int) / 8) = false := decide_eq_false (by omega)
                have dq2 : decide ((cut : Int) / 8 ≤ (k : Int)) = true := decide_eq_true (by omega)
                have HBD : Hid (decide (cut / 8 < k + 1) = true) := decide_eq_true (by omega)
                have HRE : Hid (restOf l cut (k + 1) = []) := if_pos (by omega)
                have hshort : decide (cut / 8 < k) = true ∨ (restOf l cut k).length < 8 := by
                  by_cases h : cut / 8 < k
                  · exact .inl (decide_eq_true h)
                  · exact .inr (by rw [restOf_length l cut k h hcl2]; omega)
                have HSH := Lib.hid hshort
                clear hshort
                go_wp2_with fail
                refine (r64_short _ g _ _ _ HRD.out HSH.out).mono ?_
                rintro e w5 ⟨rfl, hr, ho⟩
                have HR5 := Lib.hid hr
                have HB5 := Lib.hid (HBW.out.trans (ho.below hg0 HBW.out.size))
                clear hr ho
                go_wp2_with fail
                refine (right_any _ g _ _ _ HR5.out).mono ?_
                rintro e w6 ⟨rfl, rfl⟩
                go_wp2_with fail
                refine (left_any _ g _ _ _ HR5.out).mono ?_
                rintro e w6 ⟨rfl, rfl⟩
                go_wp2
                go_roundw
                case rel => exact ⟨k + 1, by omega, by go_num, HB5.out, by rw [HBD.out, HRE.out]; exact HR5.out⟩
                case measure => simp [intOf]; omega
            · have hbt : decide (cut / 8 < k) = true := decide_eq_true (by omega)
              have HBT := Lib.hid hbt
              have hes : ((strOfNums []).toList == []) = true := by decide +kernel
              clear hbt
              go_wp2_with fail
              refine (r32_short _ g _ _ _ HRD.out (.inl HBT.out)).mono ?_
              rintro e w5 ⟨rfl, hr, ho⟩
              have HR5 := Lib.hid hr
              have HB5 := Lib.hid (HBW.out.trans (ho.below hg0 HBW.out.size))
              clear hr ho
              go_wp2_with fail
              refine (rtext_short _ g _ _ _ HR5.out Bytes.nil (.inl rfl)).mono ?_
              rintro e w6 ⟨rfl, hr, ho⟩
              have HB6 := Lib.hid (HB5.out.trans (ho.below hg0 HB5.out.size))
              clear hr ho
              go_wp2_with fail
              refine (awake_any _).mono ?_
              rintro e w7 ⟨rfl, hba⟩
              go_wp2_with fail
              go_ret
              exact ⟨rfl, HB6.out.trans (hba.mono HB6.out.size)⟩
  · go_enter Try.func14, Try.ntmps14
    go_wp2
    go_ret
    exact ⟨rfl, Below.refl _ _⟩
theorem PackCuts_int (l : List Int) (a : Int) (w : World) (A1 : Option Addr) (c1 : Nat) (r1 : ReadsInt w .u64 A1 l.length l) (hl : ∀ n ∈ l, (Lit.int .u64 n).wf = true) (ha : (Lit.int .u16 a).wf = true) :
    Calls Try.prog 14 #[.slice A1 l.length c1, .int .u16 a] w fun e w' => e = .returned (.bool true) ∧ Below w.heap.size w w' := by
  simp [Lit.wf, IntKind.min, IntKind.max, IntKind.bits, IntKind.signed] at ha hl
  obtain ⟨n, rfl⟩ := Int.eq_ofNat_of_zero_le ha.1
  exact PackCuts_any _ l n w A1 c1 rfl r1 (fun x hx => ⟨(hl x hx).1, by have := (hl x hx).2; omega⟩) (by omega)
end Go.Proofs.Ytokempdkfpbpmaa.Pack
