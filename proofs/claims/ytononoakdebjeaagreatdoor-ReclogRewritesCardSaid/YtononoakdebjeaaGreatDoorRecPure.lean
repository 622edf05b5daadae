/- The plain law of chapter 5's frames: what is scanned of bytes. -/
import Derived.Test.YtononoakdebjeaaGreatDoorPackAll
import Derived.Test.YtononoakdebjeaaGreatDoorCrcAll
namespace Go.Proofs.YtononoakdebjeaaGreatDoor.Rec
open Go.RowKit Go.Proofs.YtononoakdebjeaaGreatDoorW.PrintWords Go.Proofs.YtononoakdebjeaaGreatDoor.Pack
set_option linter.unusedVariables false
set_option linter.unusedSimpArgs false

def headBytes (k : Int) : List Int := [66, 76, 87, 49, k, 0, 0, 0]
def frameBytes (xs : List Int) : List Int := Pack.leBytes xs.length 4 ++ Pack.leBytes (Crc.sumOf xs) 4 ++ xs
def sizeAt (rest : List Int) : Nat := (leVal (rest.take 4)).toNat
def sumAt (rest : List Int) : Int := leVal ((rest.drop 4).take 4)
def recAt (rest : List Int) : List Int := (rest.drop 8).take (sizeAt rest)
/-- Is there a good frame at the beginning? -/
def good (rest : List Int) : Prop := 8 ≤ rest.length ∧ sizeAt rest ≤ 4096 ∧ sizeAt rest + 8 ≤ rest.length ∧ Crc.sumOf (recAt rest) = sumAt rest
instance (rest : List Int) : Decidable (good rest) := by unfold good; infer_instance
def scanAll (rest : List Int) : List (List Int) :=
  if h : good rest then recAt rest :: scanAll (rest.drop (8 + sizeAt rest)) else []
termination_by rest.length
decreasing_by
  have := h.1
  rw [List.length_drop]; omega
def scanEnd (rest : List Int) : Nat :=
  if h : good rest then 8 + sizeAt rest + scanEnd (rest.drop (8 + sizeAt rest)) else 0
termination_by rest.length
decreasing_by
  have := h.1
  rw [List.length_drop]; omega
theorem scanAll_good {rest : List Int} (h : good rest) : scanAll rest = recAt rest :: scanAll (rest.drop (8 + sizeAt rest)) := by
  rw [scanAll, dif_pos h]
theorem scanAll_bad {rest : List Int} (h : ¬ good rest) : scanAll rest = [] := by
  rw [scanAll, dif_neg h]
theorem scanEnd_good {rest : List Int} (h : good rest) : scanEnd rest = 8 + sizeAt rest + scanEnd (rest.drop (8 + sizeAt rest)) := by
  rw [scanEnd, dif_pos h]
theorem scanEnd_bad {rest : List Int} (h : ¬ good rest) : scanEnd rest = 0 := by
  rw [scanEnd, dif_neg h]
/-- A scan under way: the records so far, and the place. -/
structure Under (data : List Int) (rs : List (List Int)) (p : Nat) : Prop where
  le : p ≤ data.length
  low : 8 ≤ p
  all : scanAll (data.drop 8) = rs ++ scanAll (data.drop p)
  endp : 8 + scanEnd (data.drop 8) = p + scanEnd (data.drop p)
  few : 8 * rs.length + 8 ≤ p
theorem Under.start {data : List Int} (h : 8 ≤ data.length) : Under data [] 8 := ⟨h, Nat.le_refl _, rfl, rfl, by simp⟩
theorem Under.next {data : List Int} {rs : List (List Int)} {p : Nat} (h : Under data rs p) (hg : good (data.drop p)) : Under data (rs ++ [recAt (data.drop p)]) (p + (8 + sizeAt (data.drop p))) := by
  have h3 := hg.2.2.1
  rw [List.length_drop] at h3
  refine ⟨by omega, by have := h.low; omega, ?_, ?_, ?_⟩
  · rw [h.all, scanAll_good hg, List.append_assoc, List.drop_drop]; rfl
  · rw [h.endp, scanEnd_good hg, List.drop_drop]; omega
  · have := h.few
    rw [List.length_append, List.length_singleton]; omega
theorem Under.stop {data : List Int} {rs : List (List Int)} {p : Nat} (h : Under data rs p) (hg : ¬ good (data.drop p)) : scanAll (data.drop 8) = rs ∧ 8 + scanEnd (data.drop 8) = p := by
  have h1 := h.all
  have h2 := h.endp
  rw [scanAll_bad hg, List.append_nil] at h1
  rw [scanEnd_bad hg, Nat.add_zero] at h2
  exact ⟨h1, h2⟩
theorem sizeAt_range (rest : List Int) (h : Bytes rest) : leVal (rest.take 4) = (sizeAt rest : Int) ∧ sizeAt rest < 4294967296 := by
  have hr := leVal_range (rest.take 4) (h.take 4)
  have h4 : (256 : Int) ^ (rest.take 4).length ≤ 4294967296 := by
    have hl : (rest.take 4).length ≤ 4 := by rw [List.length_take]; omega
    generalize (rest.take 4).length = k at hl
    rcases (by omega : k = 0 ∨ k = 1 ∨ k = 2 ∨ k = 3 ∨ k = 4) with h | h | h | h | h <;> subst h <;> decide
  unfold sizeAt
  constructor
  · omega
  · omega
theorem sumAt_range (rest : List Int) (h : Bytes rest) : 0 ≤ sumAt rest ∧ sumAt rest < 4294967296 := by
  have hr := leVal_range ((rest.drop 4).take 4) ((h.drop 4).take 4)
  have h4 : (256 : Int) ^ ((rest.drop 4).take 4).length ≤ 4294967296 := by
    have hl : ((rest.drop 4).take 4).length ≤ 4 := by rw [List.length_take]; omega
    generalize ((rest.drop 4).take 4).length = k at hl
    rcases (by omega : k = 0 ∨ k = 1 ∨ k = 2 ∨ k = 3 ∨ k = 4) with h | h | h | h | h <;> subst h <;> decide
  unfold sumAt
  omega
theorem sumOf_range (xs : List Int) (h : Bytes xs) : 0 ≤ Crc.sumOf xs ∧ Crc.sumOf xs < 4294967296 := by
  rw [Crc.sum_U xs h]; exact Crc.U_range _
theorem recAt_bytes (rest : List Int) (h : Bytes rest) : Bytes (recAt rest) := (h.drop 8).take _
theorem recAt_length {rest : List Int} (h : good rest) : (recAt rest).length = sizeAt rest := by
  unfold recAt
  rw [List.length_take, List.length_drop]
  have := h.2.2.1
  omega
/-- How a scan ends: an error's number, the records, the end. -/
def headOk (k : Int) (data : List Int) : Prop := data.take 8 = (headBytes k).take data.length
instance (k : Int) (data : List Int) : Decidable (headOk k data) := by unfold headOk; infer_instance
/-- What Scan answers: the records, the end, the error's number. -/
def scanRes (k : Int) (data : List Int) : List (List Int) × Nat × Int :=
  if data.length < 8 ∧ (headBytes k).take data.length = data then ([], 0, 0)
  else if data.take 8 = headBytes k then (scanAll (data.drop 8), 8 + scanEnd (data.drop 8), 0) else ([], 0, 9)
theorem scanRes_short {k : Int} {data : List Int} (h : data.length < 8) (h1 : (headBytes k).take data.length = data) : scanRes k data = ([], 0, 0) := if_pos ⟨h, h1⟩
theorem scanRes_bad {k : Int} {data : List Int} (h : ¬ (data.length < 8 ∧ (headBytes k).take data.length = data)) (h1 : data.take 8 ≠ headBytes k) : scanRes k data = ([], 0, 9) := by
  unfold scanRes; rw [if_neg h, if_neg h1]
theorem scanRes_good {k : Int} {data : List Int} (h1 : data.take 8 = headBytes k) : 8 ≤ data.length ∧ scanRes k data = (scanAll (data.drop 8), 8 + scanEnd (data.drop 8), 0) := by
  have hl := congrArg List.length h1
  rw [List.length_take, show (headBytes k).length = 8 from rfl] at hl
  refine ⟨by omega, ?_⟩
  unfold scanRes; rw [if_neg (by omega), if_pos h1]
theorem headBytes_bytes {k : Int} (h0 : 0 ≤ k) (h1 : k < 256) : Bytes (headBytes k) := by
  intro x hx
  simp only [headBytes, List.mem_cons, List.not_mem_nil, or_false] at hx
  omega
end Go.Proofs.YtononoakdebjeaaGreatDoor.Rec
