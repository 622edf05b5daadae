/- bellowslaw13.name (walk). -/
import Derived.Test.YtifbkojapfighaaGrChainP
namespace Go.Proofs.Ytifbkojapfighaa.Gr
open Go.RowKit Go.Proofs.YtifbkojapfighaaW.PrintWords Go.Proofs.YtifbkojapfighaaW.PrintLast Go.Proofs.Ytifbkojapfighaa.Base Go.Maps
set_option linter.unusedVariables false
set_option linter.unusedSimpArgs false
theorem name_str {i q r : Nat} (hq : q = i / 26) (hr : r = i % 26) : (⟨#[102]⟩ : ByteArray) ++ strOfNums [97 + (q : Int), 97 + (r : Int)] = nameV i := by
  subst hq hr
  have e1 : (97 + ((i / 26 : Nat) : Int)).toNat = 97 + i / 26 := by omega
  have e2 : (97 + ((i % 26 : Nat) : Int)).toNat = 97 + i % 26 := by omega
  unfold strOfNums nameV
  simp only [List.map_cons, List.map_nil, e1, e2]
  apply ByteArray.ext
  rw [ByteArray.data_append]
  rfl
set_option maxRecDepth 20000 in
theorem name_any (i : Nat) (hi : i ≤ 30) (w : World) : Calls Try.prog 23 #[.int .i64 i] w fun e w' => e = .returned (.string (nameV i)) ∧ Below w.heap.size w w' := by
  obtain ⟨q, hq⟩ : ∃ q, q = i / 26 := ⟨_, rfl⟩
  obtain ⟨r, hr⟩ : ∃ r, r = i % 26 := ⟨_, rfl⟩
  have h1 : (i : Int) / 26 = (q : Int) := by rw [hq]; simp
  have h2 : (i : Int) % 26 = (r : Int) := by rw [hr]; simp
  have hq1 : q ≤ 1 := by omega
  have hr1 : r ≤ 25 := by omega
  have HQ := Lib.hid hq
  have HR := Lib.hid hr
  clear hq hr
  have kr : (convert 85 9 (.slice (some ⟨w.heap.size, 0, none⟩) 2 2)).run Try.prog (w.alloc (.cells #[.int .u8 (97 + (q : Int)), .int .u8 (97 + (r : Int))] 5)) = .ok (.string (strOfNums [97 + (q : Int), 97 + (r : Int)])) (w.alloc (.cells #[.int .u8 (97 + (q : Int)), .int .u8 (97 + (r : Int))] 5)) := by
    obtain ⟨A, c, e, _, hr⟩ := Bs.lit w 5 [97 + (q : Int), 97 + (r : Int)] (by simp)
    injection e with e1 _ _
    subst e1
    exact string_of_reads Try.underlying85 Try.underlying5 Try.underlying9 hr
  go_enter Try.func23, Try.ntmps23
  go_wp2
  go_ret
  exact ⟨by rw [← name_str HQ.out HR.out]; rfl, below_alloc (Below.refl _ _) _⟩
end Go.Proofs.Ytifbkojapfighaa.Gr
