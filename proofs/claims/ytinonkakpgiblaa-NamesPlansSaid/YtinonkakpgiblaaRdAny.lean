/- Readers by what is left: one contract for each method, whether there is enough or not. -/
import Derived.Test.YtinonkakpgiblaaPackRefRead
namespace Go.Proofs.Ytinonkakpgiblaa.Pack
open Go.RowKit Go.Proofs.YtinonkakpgiblaaW.PrintWords Go.Proofs.Ytinonkakpgiblaa.Base
set_option linter.unusedVariables false
set_option linter.unusedSimpArgs false

/-- What is left of the bytes, and whether there was too little once. -/
abbrev RS := List Int × Bool
def num (m : Nat) (s : RS) : Int := if s.2 = true ∨ s.1.length < m then 0 else leVal (s.1.take m)
def numS (m : Nat) (s : RS) : RS := if s.2 = true ∨ s.1.length < m then ([], true) else (s.1.drop m, false)
def txtLen (s : RS) : Nat := (leVal (s.1.take 2)).toNat
def txtBad (s : RS) : Prop := s.2 = true ∨ s.1.length < 2 ∨ (s.1.drop 2).length < txtLen s
instance (s : RS) : Decidable (txtBad s) := by unfold txtBad; infer_instance
def txt (s : RS) : ByteArray := if txtBad s then strOfNums [] else strOfNums ((s.1.drop 2).take (txtLen s))
def txtS (s : RS) : RS := if txtBad s then ([], true) else ((s.1.drop 2).drop (txtLen s), false)
theorem numS_bytes {m : Nat} {s : RS} (h : Bytes s.1) : Bytes (numS m s).1 := by
  unfold numS
  split
  · exact Bytes.nil
  · exact h.drop m
theorem txtS_bytes {s : RS} (h : Bytes s.1) : Bytes (txtS s).1 := by
  unfold txtS
  split
  · exact Bytes.nil
  · exact (h.drop 2).drop _
theorem num_range {m : Nat} {s : RS} (h : Bytes s.1) (h8 : m ≤ 8) : 0 ≤ num m s ∧ num m s < 18446744073709551616 := by
  unfold num
  split
  · omega
  · have h1 := leVal_range (s.1.take m) (h.take m)
    have h2 : (256 : Int) ^ (s.1.take m).length ≤ 18446744073709551616 := by
      have hl : (s.1.take m).length ≤ 8 := by rw [List.length_take]; omega
      generalize (s.1.take m).length = k at hl
      rcases (by omega : k = 8 ∨ k ≤ 7) with h | h
      · subst h; decide
      · have := pow_8 k h; omega
    omega
theorem num4_range {s : RS} (h : Bytes s.1) : 0 ≤ num 4 s ∧ num 4 s < 4294967296 := by
  unfold num
  split
  · omega
  · rename_i hn
    have h1 := leVal_range (s.1.take 4) (h.take 4)
    have h2 : (s.1.take 4).length = 4 := by rw [List.length_take]; omega
    rw [h2] at h1
    omega
theorem numS_len {m : Nat} {s : RS} (h : (numS m s).2 = false) : (numS m s).1.length + m = s.1.length ∧ s.2 = false := by
  unfold numS at h ⊢
  split at h
  · cases h
  · rename_i hn
    rw [if_neg hn]
    simp only [not_or, Bool.not_eq_true] at hn
    exact ⟨by rw [List.length_drop]; omega, hn.1⟩
theorem numS_bad {m : Nat} {s : RS} (h : s.2 = true) : numS m s = ([], true) ∧ num m s = 0 := by
  unfold numS num
  rw [if_pos (Or.inl h), if_pos (Or.inl h)]
  exact ⟨rfl, rfl⟩
theorem txtS_bad {s : RS} (h : s.2 = true) : txtS s = ([], true) ∧ txt s = strOfNums [] := by
  have hb : txtBad s := Or.inl h
  unfold txtS txt
  rw [if_pos hb, if_pos hb]
  exact ⟨rfl, rfl⟩
theorem strOfNums_size (xs : List Int) : (strOfNums xs).size = xs.length := by
  simp [strOfNums, ByteArray.size]
theorem txt_size (s : RS) (h : Bytes s.1) : (txt s).size ≤ s.1.length ∧ (txt s).size ≤ 65535 := by
  unfold txt
  split
  · rw [strOfNums_size]; simp
  · rename_i hn
    unfold txtBad at hn
    rw [strOfNums_size, List.length_take, List.length_drop]
    have h1 := leVal_range (s.1.take 2) (h.take 2)
    have h2 : (s.1.take 2).length = 2 := by rw [List.length_take]; omega
    rw [h2] at h1
    unfold txtLen
    omega

section
variable (B g : Nat) (s : RS) (w : World)
theorem r64_g (h : Rd B w g s.1 s.2) (hb : Bytes s.1) :
    Calls Try.prog 61 #[.pointer (some ⟨g, 0, none⟩)] w fun e w' => e = .returned (.int .u64 (num 8 s)) ∧ Rd B w' g (numS 8 s).1 (numS 8 s).2 ∧ Only g w w' := by
  obtain ⟨rest, bad⟩ := s
  unfold num numS
  by_cases hm : bad = true ∨ rest.length < 8
  · rw [if_pos hm, if_pos hm]
    exact r64_short B g rest bad w h hm
  · rw [if_neg hm, if_neg hm]
    simp only [not_or, Bool.not_eq_true] at hm
    obtain ⟨rfl, hm⟩ := hm
    exact r64_ok B g rest w h (by omega) hb
theorem r32_g (h : Rd B w g s.1 s.2) (hb : Bytes s.1) :
    Calls Try.prog 60 #[.pointer (some ⟨g, 0, none⟩)] w fun e w' => e = .returned (.int .u32 (num 4 s)) ∧ Rd B w' g (numS 4 s).1 (numS 4 s).2 ∧ Only g w w' := by
  obtain ⟨rest, bad⟩ := s
  unfold num numS
  by_cases hm : bad = true ∨ rest.length < 4
  · rw [if_pos hm, if_pos hm]
    exact r32_short B g rest bad w h hm
  · rw [if_neg hm, if_neg hm]
    simp only [not_or, Bool.not_eq_true] at hm
    obtain ⟨rfl, hm⟩ := hm
    exact r32_ok B g rest w h (by omega) hb
theorem rtxt_g (h : Rd B w g s.1 s.2) (hb : Bytes s.1) :
    Calls Try.prog 56 #[.pointer (some ⟨g, 0, none⟩)] w fun e w' => e = .returned (.string (txt s)) ∧ Rd B w' g (txtS s).1 (txtS s).2 ∧ Only g w w' := by
  obtain ⟨rest, bad⟩ := s
  unfold txt txtS
  by_cases hm : txtBad (rest, bad)
  · rw [if_pos hm, if_pos hm]
    exact rtext_short B g rest bad w h hb hm
  · rw [if_neg hm, if_neg hm]
    unfold txtBad txtLen at hm
    simp only [not_or, Bool.not_eq_true, Nat.not_lt] at hm
    obtain ⟨rfl, hm1, hm2⟩ := hm
    exact rtext_two B g rest w h hm1 hb hm2
end
/-- The reference's reader, by what is left. -/
def RRa (w0 w : World) (g : Nat) (data : List Int) (s : RS) : Prop := ∃ at_, RRd w0 w g data at_ s.2 ∧ (s.2 = false → s.1 = data.drop at_) ∧ (s.2 = true → s.1 = [])
theorem RRa.move {w0 w w1 : World} {g : Nat} {data : List Int} {s : RS} (h : RRa w0 w g data s) (hb : Below w0.heap.size w0 w1) (hm : w1.heap[g]? = w.heap[g]?) : RRa w0 w1 g data s := by
  obtain ⟨a, h1, h2⟩ := h
  exact ⟨a, h1.move hb hm, h2⟩
theorem RRa.below {w0 w : World} {g : Nat} {data : List Int} {s : RS} (h : RRa w0 w g data s) : Below w0.heap.size w0 w := by
  obtain ⟨a, h1, _⟩ := h
  exact h1.below
theorem RRa.cell {w0 w : World} {g : Nat} {data : List Int} {s : RS} (h : RRa w0 w g data s) : ∃ v at_, w.heap[g]? = some (.cells #[v, .int .i64 at_, .bool s.2] 96 (0, 0)) := by
  obtain ⟨a, h1, _⟩ := h
  obtain ⟨v, hc, _⟩ := h1.cell
  exact ⟨v, a, hc⟩
section
variable (w0 : World) (g : Nat) (data : List Int) (s : RS) (w : World)
theorem rnum_g (m : Nat) (h : RRa w0 w g data s) (h9 : data.length ≤ 9223372036854775807) (h8 : m ≤ 8) (hb : Bytes data) :
    Calls Try.prog 46 #[.pointer (some ⟨g, 0, none⟩), .int .i64 m] w fun e w' => e = .returned (.int .u64 (num m s)) ∧ RRa w0 w' g data (numS m s) ∧ Only g w w' := by
  obtain ⟨rest, bad⟩ := s
  obtain ⟨a, h1, h2, h3⟩ := h
  simp only at h1 h2 h3
  unfold num numS
  by_cases hm : bad = true ∨ rest.length < m
  · rw [if_pos hm, if_pos hm]
    have hm2 : bad = true ∨ data.length < a + m := by
      rcases hm with hm | hm
      · exact Or.inl hm
      · cases bad with
        | true => exact Or.inl rfl
        | false =>
          rw [h2 rfl, List.length_drop] at hm
          exact Or.inr (by omega)
    refine (rnumber_short w0 w g m a data bad h1 hm2 h9).mono ?_
    rintro e w' ⟨he, hr, ho⟩
    exact ⟨he, ⟨a, hr, (fun h => by cases h), fun _ => rfl⟩, ho⟩
  · rw [if_neg hm, if_neg hm]
    simp only [not_or, Bool.not_eq_true] at hm
    obtain ⟨rfl, hm⟩ := hm
    have hle := h1.le
    have e1 := h2 rfl
    subst e1
    rw [List.length_drop] at hm
    refine (rnumber_ok w0 w g m a data h1 (by omega) h9 h8 hb).mono ?_
    rintro e w' ⟨he, hr, ho⟩
    exact ⟨he, ⟨a + m, hr, fun _ => by simp only [List.drop_drop], fun h => by cases h⟩, ho⟩
theorem rreft_g (h : RRa w0 w g data s) (h9 : data.length ≤ 9223372036854775807) (hb : Bytes data) :
    Calls Try.prog 43 #[.pointer (some ⟨g, 0, none⟩)] w fun e w' => e = .returned (.string (txt s)) ∧ RRa w0 w' g data (txtS s) ∧ Only g w w' := by
  obtain ⟨rest, bad⟩ := s
  obtain ⟨a, h1, h2, h3⟩ := h
  simp only at h1 h2 h3
  unfold txt txtS
  by_cases hm : txtBad (rest, bad)
  · rw [if_pos hm, if_pos hm]
    unfold txtBad txtLen at hm
    simp only at hm
    have hm2 : bad = true ∨ data.length < a + 2 ∨ data.length < a + 2 + (leVal ((data.drop a).take 2)).toNat := by
      cases bad with
      | true => exact Or.inl rfl
      | false =>
        rw [h2 rfl] at hm
        simp only [List.length_drop, Bool.false_eq_true, false_or] at hm ⊢
        omega
    refine (rreft_short w0 w g a data bad h1 h9 hb hm2).mono ?_
    rintro e w' ⟨he, ⟨a2, hr⟩, ho⟩
    exact ⟨he, ⟨a2, hr, (fun h => by cases h), fun _ => rfl⟩, ho⟩
  · rw [if_neg hm, if_neg hm]
    unfold txtBad txtLen at hm
    simp only [not_or, Bool.not_eq_true, Nat.not_lt] at hm
    obtain ⟨rfl, hm1, hm2⟩ := hm
    have hle := h1.le
    have e1 := h2 rfl
    subst e1
    simp only [List.length_drop] at hm1 hm2
    refine (rreft_ok w0 w g a data h1 (by omega) h9 hb (by omega)).mono ?_
    rintro e w' ⟨he, hr, ho⟩
    refine ⟨?_, ⟨a + 2 + (leVal ((data.drop a).take 2)).toNat, hr, fun _ => ?_, fun h => by cases h⟩, ho⟩
    · rw [he]; simp only [List.drop_drop, txtLen]
    · simp only [List.drop_drop, txtLen, Nat.add_assoc]
theorem rleft_g (h : RRa w0 w g data s) (h9 : data.length ≤ 9223372036854775807) :
    Calls Try.prog 44 #[.pointer (some ⟨g, 0, none⟩)] w fun e w' => e = .returned (.int .i64 s.1.length) ∧ Drawn0 w w' := by
  obtain ⟨rest, bad⟩ := s
  obtain ⟨a, h1, h2, h3⟩ := h
  simp only at h1 h2 h3
  refine (rleft_any w0 w g a data bad h1 h9).mono ?_
  rintro e w' ⟨he, hd⟩
  refine ⟨?_, hd⟩
  rw [he]
  have hle := h1.le
  cases bad with
  | true => rw [h3 rfl]; rfl
  | false =>
    refine ret_int ?_
    rw [h2 rfl, List.length_drop]
    simp only [Bool.false_eq_true, if_false]
    omega
end
end Go.Proofs.Ytinonkakpgiblaa.Pack
