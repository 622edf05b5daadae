/- slices.BinarySearch of texts (walk). -/
import Derived.Sort.Walk0
import Derived.Sort.LotA
import Derived.Test.YtifbkojapfighaaGrKit
namespace Go.Proofs.Ytifbkojapfighaa.Gr
open Go.RowKit Go.Proofs.YtifbkojapfighaaW.PrintWords Go.Proofs.YtifbkojapfighaaW.PrintLast Go.Proofs.Ytifbkojapfighaa.Base Go.Maps Go.Sort
set_option linter.unusedVariables false
set_option linter.unusedSimpArgs false

def slt (x y : ByteArray) : Bool := Op.bytesLess x.toList y.toList
theorem slt_eq (x y : ByteArray) : slt x y = ltStr x.toList y.toList := bytesLess_eq _ _
theorem slt_irrefl (x : ByteArray) : slt x x = false := by rw [slt_eq]; exact swo_ltStr.irrefl _
theorem slt_trans (x y z : ByteArray) (h1 : slt x y = true) (h2 : slt y z = true) : slt x z = true := by rw [slt_eq] at *; exact swo_ltStr.trans _ _ _ h1 h2
theorem slt_ntrans (x y z : ByteArray) (h1 : slt x y = false) (h2 : slt y z = false) : slt x z = false := by rw [slt_eq] at *; exact swo_ltStr.ntrans _ _ _ h1 h2
theorem slt_total (x y : ByteArray) (h1 : slt x y = false) (h2 : slt y x = false) : x = y := by
  rw [slt_eq] at *
  simp only [ltStr, decide_eq_false_iff_not, List.not_lt] at h1 h2
  have h3 := List.le_antisymm h2 h1
  rw [ByteArray.toList_eq, ByteArray.toList_eq] at h3
  cases x
  cases y
  exact congrArg ByteArray.mk (Array.toList_inj.1 h3)
theorem isNaN_any (s : ByteArray) (w : World) : Calls Try.prog 54 #[.string s] w fun e w' => e = .returned (.bool false) ∧ w' = w := by
  have hb : (s.toList != s.toList) = false := by simp
  go_enter Try.func54, Try.ntmps54
  go_wp2
  go_ret
  exact ⟨rfl, rfl⟩
theorem cNaN_any (s : ByteArray) (w : World) : Calls Try.prog 66 #[.string s] w fun e w' => e = .returned (.bool false) ∧ w' = w := by
  have hb : (s.toList != s.toList) = false := by simp
  go_enter Try.func66, Try.ntmps66
  go_wp2
  go_ret
  exact ⟨rfl, rfl⟩
theorem less_any (s t : ByteArray) (w : World) : Calls Try.prog 53 #[.string s, .string t] w fun e w' => e = .returned (.bool (slt s t)) ∧ w' = w := by
  have HE : Hid (Op.bytesLess s.toList t.toList = slt s t) := rfl
  go_enter Try.func53, Try.ntmps53
  go_wp2_with fail
  refine (cNaN_any s _).mono ?_
  rintro e w1 ⟨rfl, rfl⟩
  go_wp2
  go_ret
  exact ⟨rfl, rfl⟩
/-- A row that rises. -/
def Up (l : List ByteArray) : Prop := l.Pairwise fun a b => slt a b = true
theorem Up.get {l : List ByteArray} (h : Up l) {i j : Nat} (hij : i < j) (hj : j < l.length) : slt (l.getD i ByteArray.empty) (l.getD j ByteArray.empty) = true := by
  have h1 := List.pairwise_iff_getElem.1 h i j (by omega) hj hij
  rw [List.getD_eq_getElem?_getD, List.getD_eq_getElem?_getD, List.getElem?_eq_getElem hj, List.getElem?_eq_getElem (show i < l.length by omega)]
  exact h1
set_option maxRecDepth 100000 in
set_option maxHeartbeats 2000000 in
theorem search_any (v : Value) (l : List ByteArray) (s : ByteArray) (w : World) (h : Ss w v l) (hu : Up l) (hl : l.length ≤ 4000000000) :
    Calls Try.prog 42 #[v, .string s] w fun e w' => (∃ i : Nat, e = .returned (.tuple #[.int .i64 i, .bool (decide (s ∈ l))])) ∧ w' = w := by
  obtain ⟨A, c, rfl, hc, hm⟩ := ss_len h
  obtain ⟨n, hn⟩ : ∃ n, n = l.length := ⟨_, rfl⟩
  rw [← hn] at hc hm h hl ⊢
  have HSS := Lib.hid h
  have HN := Lib.hid hn
  have HU := Lib.hid hu
  clear h hn hu
  go_enter Try.func42, Try.ntmps42
  go_wp2
  go_loopw [7, 8] (fun i j wr => ∃ p q : Nat, p ≤ q ∧ q ≤ n ∧ i = .int .i64 p ∧ j = .int .i64 q ∧ wr = w ∧ Hid (∀ z, z < p → slt (l.getD z ByteArray.empty) s = true) ∧ Hid (∀ z, q ≤ z → z < n → slt (l.getD z ByteArray.empty) s = false)) (fun i j _ => (intOf j).toNat - (intOf i).toNat)
  case atStart => exact ⟨0, n, by omega, by omega, rfl, rfl, rfl, fun z hz => absurd hz (Nat.not_lt_zero _), fun z h1 h2 => by omega⟩
  case round =>
    obtain ⟨p, q, hpq, hqn, rfl, rfl, hwr, HP, HQ⟩ := hrel
    have hwr := hwr.symm; subst hwr
    by_cases l1 : p < q
    · obtain ⟨m, hm2⟩ : ∃ m : Nat, ((p : Int) + (q : Int)) / 2 = (m : Int) := ⟨(p + q) / 2, by omega⟩
      have hpm : p ≤ m := by omega
      have hmq : m < q := by omega
      have hml : m < l.length := by have := HN.out; omega
      obtain ⟨Ax, cx, ex, _, _, hcel⟩ := HSS.out
      injection ex with ex1 ex2 ex3
      subst ex1
      obtain ⟨ad, ead, hcell⟩ := hcel (by omega)
      subst ead
      have qc := hcell m hml
      obtain ⟨y, hy⟩ : ∃ y, y = l.getD m ByteArray.empty := ⟨_, rfl⟩
      rw [← hy] at qc
      have HY := Lib.hid hy
      have HM2 := Lib.hid hm2
      clear hcel hcell ex2 ex3 hy hm2
      go_upto_region 5 with (fail)
      rw [HM2.out]
      go_wp2_with fail
      refine (less_any y s _).mono ?_
      rintro e w1 ⟨rfl, hw1⟩
      have hw1 := hw1.symm; subst hw1
      cases hb : slt y s with
      | true =>
        have HP2 : Hid (∀ z, z < m + 1 → slt (l.getD z ByteArray.empty) s = true) := fun z hz => by
          by_cases hzm : z = m
          · rw [hzm, ← HY.out]; exact hb
          · have h1 := HU.out.get (i := z) (j := m) (by omega) (by have := HN.out; omega)
            rw [← HY.out] at h1
            exact slt_trans _ _ _ h1 hb
        clear hb
        go_wp2
        go_roundw
        case rel => exact ⟨m + 1, q, by omega, by omega, by go_num, rfl, trivial, HP2.out, HQ.out⟩
        case measure => simp [intOf]; omega
      | false =>
        have HQ2 : Hid (∀ z, m ≤ z → z < n → slt (l.getD z ByteArray.empty) s = false) := fun z h1 h2 => by
          by_cases hzm : z = m
          · rw [hzm, ← HY.out]; exact hb
          · have h3 := HU.out.get (i := m) (j := z) (by omega) (by have := HN.out; omega)
            rw [← HY.out] at h3
            cases h4 : slt (l.getD z ByteArray.empty) s with
            | false => rfl
            | true =>
              have := slt_trans _ _ _ h3 h4
              rw [hb] at this
              cases this
        clear hb
        go_wp2
        go_roundw
        case rel => exact ⟨p, m, by omega, by omega, rfl, rfl, trivial, HP.out, HQ2.out⟩
        case measure => simp [intOf]; omega
    · have hpq2 : q = p := by omega
      subst hpq2
      have HMEM : Hid (s ∈ l ↔ q < n ∧ l.getD q ByteArray.empty = s) := by
        constructor
        · intro hs
          obtain ⟨z, hz, e⟩ := List.mem_iff_getElem.1 hs
          have e2 : l.getD z ByteArray.empty = s := by rw [List.getD_eq_getElem?_getD, List.getElem?_eq_getElem hz]; exact e
          have hzq : q ≤ z := by
            refine Nat.le_of_not_lt fun hlt => ?_
            have := HP.out z hlt
            rw [e2, slt_irrefl] at this
            cases this
          have hqn2 : q < n := by have := HN.out; omega
          refine ⟨hqn2, ?_⟩
          by_cases hqz : q = z
          · rw [hqz]; exact e2
          · have h1 := HU.out.get (i := q) (j := z) (by omega) hz
            rw [e2, HQ.out q (Nat.le_refl _) hqn2] at h1
            cases h1
        · rintro ⟨h1, h2⟩
          have hql : q < l.length := by have := HN.out; omega
          rw [← h2]
          exact (take_at l ByteArray.empty q hql).2
      by_cases hqn2 : q < n
      · have hql : q < l.length := by have := HN.out; omega
        obtain ⟨Ax, cx, ex, _, _, hcel⟩ := HSS.out
        injection ex with ex1 ex2 ex3
        subst ex1
        obtain ⟨ad, ead, hcell⟩ := hcel (by omega)
        subst ead
        have qc := hcell q hql
        obtain ⟨y, hy⟩ : ∃ y, y = l.getD q ByteArray.empty := ⟨_, rfl⟩
        rw [← hy] at qc
        have HY := Lib.hid hy
        clear hcel hcell ex2 ex3 hql hy
        by_cases hys : y = s
        · have HD : Hid (decide (s ∈ l) = true) := decide_eq_true (HMEM.out.2 ⟨hqn2, by rw [← HY.out]; exact hys⟩)
          have hb : (y.toList == s.toList) = true := by rw [str_eqb]; exact decide_eq_true hys
          clear hys
          go_wp2
          go_ret2
          exact ⟨⟨q, by rw [HD.out]; rfl⟩, rfl⟩
        · have HD : Hid (decide (s ∈ l) = false) := decide_eq_false (fun h => hys (by rw [HY.out]; exact (HMEM.out.1 h).2))
          have hb : (y.toList == s.toList) = false := by rw [str_eqb]; exact decide_eq_false hys
          clear hys
          go_wp2_with fail
          refine (isNaN_any y _).mono ?_
          rintro e w1 ⟨rfl, rfl⟩
          go_wp2
          go_ret2
          exact ⟨⟨q, by rw [HD.out]; rfl⟩, rfl⟩
      · have HD : Hid (decide (s ∈ l) = false) := decide_eq_false (fun h => hqn2 (HMEM.out.1 h).1)
        go_wp2
        go_ret2
        exact ⟨⟨q, by rw [HD.out]; rfl⟩, rfl⟩
end Go.Proofs.Ytifbkojapfighaa.Gr
