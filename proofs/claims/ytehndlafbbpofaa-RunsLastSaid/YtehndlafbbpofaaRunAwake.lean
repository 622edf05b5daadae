/- The example of chapter 6. -/
import Derived.Test.YtehndlafbbpofaaRunWrite
import Derived.Test.YtehndlafbbpofaaCut
namespace Go.Proofs.Ytehndlafbbpofaa.Run
open Go.RowKit Go.Proofs.YtehndlafbbpofaaW.PrintWords Go.Proofs.Ytehndlafbbpofaa.Base Go.Proofs.Ytehndlafbbpofaa.Pack
set_option linter.unusedVariables false
set_option linter.unusedSimpArgs false

def r0 : RunV := ⟨⟨#[111]⟩, ⟨#[99]⟩, 5, 0, [], []⟩
theorem r0_bytes : runBytes r0 = Pack.leBytes (Crc.hashOf (bytesOf r0.cmd)) 8 ++ ([1, 0, 111, 1, 0, 99, 5] ++ [0, 0, 0, 0, 0, 0, 0, 0, 0, 0, 0, 0, 0, 0, 0, 0, 0, 0, 0, 0, 0, 0, 0]) := by
  unfold runBytes headOf
  simp only [List.append_assoc]
  congr 1
theorem r0_len : (runBytes r0).length = 38 := by rw [r0_bytes]; simp only [List.length_append, leBytes_length]; rfl
theorem r0_res : writeRes r0 = (runBytes r0, 0) := by
  rw [writeRes_of r0 (by intro t ht; simp [timesOf, r0] at ht; omega), if_neg (by rw [r0_len]; omega)]
theorem r0_mid : ((runBytes r0).drop 8).take (15 - 8) = [1, 0, 111, 1, 0, 99, 5] := by
  rw [r0_bytes, List.drop_left' (leBytes_length _ _)]
  rfl
theorem r0_str : ((strOfNums [1, 0, 111, 1, 0, 99, 5]).toList == [1, 0, 111, 1, 0, 99, 5]) = true := by decide +kernel
set_option maxRecDepth 100000 in
set_option maxHeartbeats 800000 in
theorem awake_any (w : World) :
    Calls Try.prog 17 #[] w fun e w' => e = .returned (.bool true) ∧ Below w.heap.size w w' := by
  have h1 := r0_str
  have HI : Hid (Is w (.slice none 0 0) []) := ⟨none, 0, rfl, Nat.le_refl _, by simp, fun h => absurd h (Nat.lt_irrefl 0)⟩
  have HF : Hid (Fs w (.slice none 0 0) []) := ⟨none, 0, rfl, Nat.le_refl _, rfl, by simp, fun h => absurd h (Nat.lt_irrefl 0)⟩
  go_enter Try.func17, Try.ntmps17
  go_wp2_with fail
  refine (write_any _ r0 _ ⟨_, _, rfl, HI.out, HF.out⟩ ⟨by decide, by decide, by decide, by decide, fun p hp => by cases hp⟩ (by intro t ht; simp [timesOf, r0] at ht; omega)).mono ?_
  rintro e w1 ⟨v1, rfl, o1⟩
  rw [r0_res] at o1 ⊢
  have hl := r0_len
  have hm := r0_mid
  simp only at o1 ⊢
  generalize runBytes r0 = xs at o1 hl hm
  obtain ⟨u, ku, hu⟩ := cut_mid o1.bs 8 15 (by omega) (by omega)
  rw [hm] at hu
  have k2 := str_of hu
  obtain ⟨A1, n1, c1, rfl, hn1⟩ := o1.slice
  obtain ⟨A2, c2, rfl, _, _⟩ := hu.len
  have ku' : ∀ W, (Instr.slice 27 (.slice A1 n1 c1) (some (.int .i64 8)) (some (.int .i64 15)) none).run Try.prog W = .ok _ W := ku
  have HB := Lib.hid o1.below
  have hn : n1 = 38 := by rw [hn1, hl]
  subst hn
  have k3 : (convert 27 9 (.slice A2 7 c2)).run Try.prog w1 = .ok (.string (strOfNums [1, 0, 111, 1, 0, 99, 5])) w1 := k2
  clear o1 hl hm hu ku hn1 k2
  go_wp2
  go_ret
  exact ⟨rfl, HB.out⟩
end Go.Proofs.Ytehndlafbbpofaa.Run
