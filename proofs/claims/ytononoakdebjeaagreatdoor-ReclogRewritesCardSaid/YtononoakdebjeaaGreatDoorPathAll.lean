/- path.plain at every rune; strings.IndexRune over the five signs (walks); path.plain at every rune (walk), case by case; path.Clean's test of a name's runes (walk); Names, plainly: a name is cut at its slashes, its parts are folded, and joined; strings.SplitSeq at a slash: what it hands to a loop (walk); What holds between the rounds of path.Clean; path.Clean (walk); path.Right, and whether all of a row of names are paths (walks). -/
import Derived.Test.YtononoakdebjeaaGreatDoorDkLay
import Derived.Test.YtononoakdebjeaaGreatDoorBase
import Derived.WalkKit
import Derived.WalkMore
import Derived.Test.YtononoakdebjeaaGreatDoorWLast
import Derived.Test.YtononoakdebjeaaGreatDoorSeqBox
import Derived.RangeFuncNested
import Derived.RangeFuncBound
import Derived.RangeFuncCalls
import Derived.RangeFuncLeaves
import Derived.OwnWalkIn
import Derived.TacticsInMore
import Derived.RegionIn
import Derived.LoopNIn
import Derived.LoopIn
import Derived.Test.YtononoakdebjeaaGreatDoorArgs
namespace Go.Proofs.YtononoakdebjeaaGreatDoor.Path
open Go.RowKit Go.Proofs.YtononoakdebjeaaGreatDoorW.PrintWords Go.Proofs.YtononoakdebjeaaGreatDoorW.PrintLast Go.Proofs.YtononoakdebjeaaGreatDoor.Base
set_option linter.unusedVariables false
set_option linter.unusedSimpArgs false
abbrev signs : ByteArray := ⟨#[46, 95, 45, 43, 47]⟩
/-- May a rune be in a name? -/
def plainB (x : Nat) : Bool := decide (97 ≤ x ∧ x ≤ 122) || decide (65 ≤ x ∧ x ≤ 90) || decide (48 ≤ x ∧ x ≤ 57) || decide (x = 46 ∨ x = 95 ∨ x = 45 ∨ x = 43 ∨ x = 47)
/-- A rune's bytes, the last of which is none of the signs. -/
structure Enc (x : Nat) (e : ByteArray) (n : Nat) (b : UInt8) : Prop where
  size : e.size = n + 1
  n1 : 1 ≤ n
  n3 : n ≤ 3
  last : e.data.toList[n]? = some b
  big : 128 ≤ b.toNat
theorem enc_some {x : Nat} (h : 128 ≤ x) (hx : Utf8.valid (x : Int) = true) : ∃ n b, Enc x (Utf8.encode (x : Int)) n b := by
  have hb : ∀ r : Nat, (UInt8.ofNat (0x80 + r % 64)).toNat = 128 + r % 64 := fun r => by
    rw [UInt8.toNat_ofNat']
    omega
  unfold Utf8.encode
  simp only [hx, if_true, Int.toNat_natCast]
  rw [if_neg (by omega)]
  split
  · exact ⟨1, UInt8.ofNat (0x80 + x % 64), rfl, by omega, by omega, rfl, by rw [hb]; omega⟩
  · split
    · exact ⟨2, UInt8.ofNat (0x80 + x % 64), rfl, by omega, by omega, rfl, by rw [hb]; omega⟩
    · exact ⟨3, UInt8.ofNat (0x80 + x % 64), rfl, by omega, by omega, rfl, by rw [hb]; omega⟩
set_option maxRecDepth 100000 in
set_option maxHeartbeats 2000000 in
theorem rune_bad (x : Nat) (w : World) (h1 : 128 ≤ x) (h2 : x ≤ 1114111) (h3 : x ≠ 65533) (hv : Lib.validRune (x : Int) = false) :
    Calls Tryz.prog 124 #[.string signs, .int .i32 x] w fun e w' => e = .returned (.int .i64 (-1)) ∧ w' = w := by
  have d1 : decide ((0 : Int) ≤ (x : Int)) = true := decide_eq_true (by omega)
  have d2 : decide ((x : Int) < 128) = false := decide_eq_false (by omega)
  have d3 : ((x : Int) == 65533) = false := by rw [beq_eq_false_iff_ne]; omega
  have hvr := Tryz.utf8_ValidRune (x : Int) w
  rw [hv] at hvr
  go_enter Tryz.func124, Tryz.ntmps124
  go_wp2_with (go_at_call 132; refine hvr.mono ?_; rintro e w' ⟨rfl, rfl⟩)
  go_ret
  exact ⟨rfl, rfl⟩
theorem signs_decode (pos : Nat) (h : pos < 5) : ∃ R : Nat, Utf8.decode signs pos = (R, 1) ∧ ((R : Int) == 65533) = false := by
  match pos, h with
  | 0, _ => exact ⟨46, by decide, by decide⟩
  | 1, _ => exact ⟨95, by decide, by decide⟩
  | 2, _ => exact ⟨45, by decide, by decide⟩
  | 3, _ => exact ⟨43, by decide, by decide⟩
  | 4, _ => exact ⟨47, by decide, by decide⟩
  | k + 5, h => omega
set_option maxRecDepth 100000 in
set_option maxHeartbeats 4000000 in
theorem rune_err (w : World) :
    Calls Tryz.prog 124 #[.string signs, .int .i32 65533] w fun e w' => e = .returned (.int .i64 (-1)) ∧ Below w.heap.size w w' := by
  go_enter Tryz.func124, Tryz.ntmps124
  go_wp2
  go_loopg [5, 6] 6 (fun gf _ _ wx => ∃ pos : Nat, wx.heap[w.heap.size]? = some (.stringIter signs pos) ∧ Below w.heap.size w wx ∧ pos ≤ 5 ∧ 5 < pos + gf)
  case atStart => exact ⟨0, World.iter_heap w signs 0, (Below.refl _ w).alloc (Nat.le_refl _) _, by omega, by omega⟩
  case round =>
    obtain ⟨pos, hit, hbw, hp5, hfu⟩ := hrel
    by_cases hps : pos < 5
    · obtain ⟨g', rfl⟩ : ∃ g', gk = g' + 1 := ⟨gk - 1, by omega⟩
      have hnx : ∀ ty, (Instr.next (.pointer (some ⟨w.heap.size, 0, none⟩)) true ty).run Tryz.prog wr = _ := fun ty => Lib.run_next_any_at wr w.heap.size signs pos ty hit hps
      obtain ⟨R, hR, hne⟩ := signs_decode pos hps
      rw [hR] at hnx
      have hit2 := Lib.iterAt_heap wr w.heap.size signs pos (pos + 1) hit
      have hbw2 := Lib.below_iterAt hbw (k := w.heap.size) (Nat.le_refl _) signs (pos + 1)
      obtain ⟨W, hWd⟩ : ∃ W, wr.iterAt w.heap.size signs (pos + 1) = W := ⟨_, rfl⟩
      simp only at hnx
      rw [hWd] at hnx hit2 hbw2
      clear hR hWd
      go_wp2
      go_roundg g'
      case measure => omega
      case rel => exact ⟨pos + 1, hit2, hbw2, by omega, by omega⟩
    · have hnx : ∀ ty, (Instr.next (.pointer (some ⟨w.heap.size, 0, none⟩)) true ty).run Tryz.prog wr = _ := fun ty => Lib.run_next_end_at wr w.heap.size signs pos ty hit hps
      go_wp2
      go_ret
      exact ⟨rfl, hbw⟩
theorem idx_far : ∀ (l : List UInt8) (b : UInt8), (∀ c ∈ l, c ≠ b) → Lib.indexByte l b = -1
  | [], _, _ => rfl
  | c :: l, b, h => by
    have h1 : (c == b) = false := beq_eq_false_iff_ne.2 (h c (.head _))
    unfold Lib.indexByte
    rw [h1, idx_far l b (fun d hd => h d (.tail _ hd))]
    rfl
theorem str_at {E : ByteArray} {n : Nat} {b : UInt8} (h : E.data.toList[n]? = some b) (W : World) : (Instr.index 9 (.string E) (.int .i64 (n : Int))).run Tryz.prog W = .ok (.int .u8 (b.toNat : Int)) W := by
  have hb : E[n]? = some b := by
    have hn : n < E.size := by
      have := (List.getElem?_eq_some_iff.1 h).1
      simpa using this
    rw [getElem?_pos E n hn]
    refine congrArg some ?_
    have h2 := (List.getElem?_eq_some_iff.1 h).2
    have h3 : E.data[n]'hn = b := by simpa using h2
    exact h3
  have hu := Tryz.underlying9
  simp [Instr.index, go_sem, run_underlying hu, Result.andThen, hb]
set_option maxRecDepth 1000000 in
set_option maxHeartbeats 4000000 in
theorem far_1 (x : Nat) (w : World) (E : ByteArray) (b : UInt8) (h1 : 128 ≤ x) (h3 : x ≠ 65533) (hv : Lib.validRune (x : Int) = true) (he : Enc x E 1 b) (hcv : ∀ W, (convert 21 9 (.int .i32 (x : Int))).run Tryz.prog W = .ok (.string E) W) :
    Calls Tryz.prog 124 #[.string signs, .int .i32 x] w fun e w' => e = .returned (.int .i64 (-1)) ∧ Below w.heap.size w w' := by
  have d1 : decide ((0 : Int) ≤ (x : Int)) = true := decide_eq_true (by omega)
  have d2 : decide ((x : Int) < 128) = false := decide_eq_false (by omega)
  have d3 : ((x : Int) == 65533) = false := by rw [beq_eq_false_iff_ne]; omega
  have hvr := Tryz.utf8_ValidRune (x : Int) w
  rw [hv] at hvr
  have hes := he.size
  have hix : ∀ W, (Instr.index 9 (.string E) (.int .i64 1)).run Tryz.prog W = .ok (.int .u8 (b.toNat : Int)) W := fun W => str_at he.last _
  have HE := Lib.hid he
  have hs1 : (((signs[1]'(by decide)).toNat : Nat) : Int) = 95 := rfl
  have hbn : ((95 : Int) == (b.toNat : Int)) = false := by rw [beq_eq_false_iff_ne]; have := he.big; omega
  have hbn2 : ((95 : Int) != (b.toNat : Int)) = true := by rw [bne, hbn]; rfl
  have hwn : wrap64 2 = 2 := IntWalk.wrap64_in _ (by omega)
  have hsm : ∀ c ∈ ([45, 43, 47] : List UInt8), c.toNat < 128 := by decide
  have hib : Lib.indexByte [45, 43, 47] b = -1 := idx_far _ b (fun c hc e => by have h4 := hsm c hc; have h5 := he.big; rw [e] at h4; omega)
  clear he hbn hsm
  go_enter Tryz.func124, Tryz.ntmps124
  go_wp2_with (go_at_call 132; refine hvr.mono ?_; rintro e w1 ⟨rfl, hw1⟩; obtain rfl := hw1.symm)
  go_step3
  go_wp2
  refine wp_loop_rounds 1 ?_
  rw [rounds_succ]
  go_upto_region 6 with (fail)
  go_step3
  go_wp2
  --S1
  refine start_ (n := 7) (S := fun w' => Below w.heap.size w w') (ds := []) #[false, false, false, false, false, false, false] (by kernel_rfl) rfl rfl (Below.drew (Below.refl _ _)) (fun hHeld => ?_)
  refine pure_ (i := 0) (N := some 27) (v := ?_) (a' := ?_) #[true, false, false, false, false, false, false] rfl rfl (by kernel_rfl) (fun _ _ _ h => h) (Or.inl ⟨by rfl, ?_⟩) ?_ ?_
  rotate_left
  · intro w'
    go_simp
    with_reducible rfl
  rotate_left
  · simp only [Act.put, List.setIfInBounds_toArray, List.set_cons_zero, List.set_cons_succ, i64_w, i32_w]
    rfl
  refine pure_ (i := 1) (N := some 28) (v := ?_) (a' := ?_) #[true, true, false, false, false, false, false] rfl rfl (by kernel_rfl) (fun _ _ _ h => h) (Or.inl ⟨by rfl, ?_⟩) ?_ ?_
  rotate_left
  · intro w'
    go_simp
    with_reducible rfl
  rotate_left
  · simp only [Act.put, List.setIfInBounds_toArray, List.set_cons_zero, List.set_cons_succ, i64_w, i32_w]
    rfl
  refine pure_ (i := 3) (N := some 30) (v := ?_) (a' := ?_) #[true, true, false, true, false, false, false] rfl rfl (by kernel_rfl) (fun _ _ _ h => h) (Or.inl ⟨by rfl, ?_⟩) ?_ ?_
  rotate_left
  · intro w'
    go_simp
    with_reducible rfl
  rotate_left
  · simp only [Act.put, List.setIfInBounds_toArray, List.set_cons_zero, List.set_cons_succ, i64_w, i32_w]
    rfl
  refine pure_ (i := 4) (N := some 31) (v := ?_) (a' := ?_) #[true, true, false, true, true, false, false] rfl rfl (by kernel_rfl) (fun _ _ _ h => h) (Or.inl ⟨by rfl, ?_⟩) ?_ ?_
  rotate_left
  · intro w'
    go_simp
    with_reducible rfl
  rotate_left
  · simp only [Act.put, List.setIfInBounds_toArray, List.set_cons_zero, List.set_cons_succ, i64_w, i32_w]
    rfl
  refine take_ (i := 2) (N := some 29) (v := ?_) (a' := ?_) #[true, true, true, true, true, false, false] rfl rfl (by kernel_rfl) (fun _ _ _ h => h) (Or.inl ⟨by rfl, ?_⟩) hHeld ?_ ?_
  rotate_left
  · intro w' s0
    go_simp
    with_reducible rfl
  rotate_left
  · simp only [Act.put, List.setIfInBounds_toArray, List.set_cons_zero, List.set_cons_succ, i64_w, i32_w]
    rfl
  refine take_ (i := 5) (N := some 32) (v := ?_) (a' := ?_) #[true, true, true, true, true, true, false] rfl rfl (by kernel_rfl) (fun _ _ _ h => h) (Or.inl ⟨by rfl, ?_⟩) hHeld ?_ ?_
  rotate_left
  · intro w' s0
    go_simp
    with_reducible rfl
  rotate_left
  · simp only [Act.put, List.setIfInBounds_toArray, List.set_cons_zero, List.set_cons_succ, i64_w, i32_w]
    rfl
  refine pure_ (i := 6) (N := some 33) (v := ?_) (a' := ?_) #[true, true, true, true, true, true, true] rfl rfl (by kernel_rfl) (fun _ _ _ h => h) (Or.inl ⟨by rfl, ?_⟩) ?_ ?_
  rotate_left
  · intro w'
    go_simp
    with_reducible rfl
  rotate_left
  · simp only [Act.put, List.setIfInBounds_toArray, List.set_cons_zero, List.set_cons_succ, i64_w, i32_w]
    rfl
  refine done_ (by kernel_rfl) ?_
  --S2
  clear hHeld
  go_wp2
  --S3
  refine start_ (n := 9) (S := fun w' => Below w.heap.size w w') (ds := []) #[false, false, false, false, false, false, false, false, false] (by kernel_rfl) rfl rfl (Below.drew (Below.drew (Below.refl _ _))) (fun hHeld => ?_)
  refine pure_ (i := 0) (N := some 34) (v := ?_) (a' := ?_) #[true, false, false, false, false, false, false, false, false] rfl rfl (by kernel_rfl) (fun _ _ _ h => h) (Or.inl ⟨by rfl, ?_⟩) ?_ ?_
  rotate_left
  · intro w'
    go_simp
    with_reducible rfl
  rotate_left
  · simp only [Act.put, List.setIfInBounds_toArray, List.set_cons_zero, List.set_cons_succ, i64_w, i32_w]
    rfl
  refine pure_ (i := 1) (N := some 35) (v := ?_) (a' := ?_) #[true, true, false, false, false, false, false, false, false] rfl rfl (by kernel_rfl) (fun _ _ _ h => h) (Or.inl ⟨by rfl, ?_⟩) ?_ ?_
  rotate_left
  · intro w'
    go_simp
    with_reducible rfl
  rotate_left
  · simp only [Act.put, List.setIfInBounds_toArray, List.set_cons_zero, List.set_cons_succ, i64_w, i32_w]
    rfl
  refine pure_ (i := 2) (N := some 36) (v := ?_) (a' := ?_) #[true, true, true, false, false, false, false, false, false] rfl rfl (by kernel_rfl) (fun _ _ _ h => h) (Or.inl ⟨by rfl, ?_⟩) ?_ ?_
  rotate_left
  · intro w'
    go_simp
    with_reducible rfl
  rotate_left
  · simp only [Act.put, List.setIfInBounds_toArray, List.set_cons_zero, List.set_cons_succ, i64_w, i32_w]
    rfl
  refine pure_ (i := 3) (N := some 37) (v := ?_) (a' := ?_) #[true, true, true, true, false, false, false, false, false] rfl rfl (by kernel_rfl) (fun _ _ _ h => h) (Or.inl ⟨by rfl, ?_⟩) ?_ ?_
  rotate_left
  · intro w'
    go_simp
    with_reducible rfl
  rotate_left
  · simp only [Act.put, List.setIfInBounds_toArray, List.set_cons_zero, List.set_cons_succ, i64_w, i32_w]
    rfl
  refine pure_ (i := 4) (N := some 38) (v := ?_) (a' := ?_) #[true, true, true, true, true, false, false, false, false] rfl rfl (by kernel_rfl) (fun _ _ _ h => h) (Or.inl ⟨by rfl, ?_⟩) ?_ ?_
  rotate_left
  · intro w'
    go_simp
    with_reducible rfl
  rotate_left
  · simp only [Act.put, List.setIfInBounds_toArray, List.set_cons_zero, List.set_cons_succ, i64_w, i32_w]
    rfl
  refine pure_ (i := 5) (N := some 39) (v := ?_) (a' := ?_) #[true, true, true, true, true, true, false, false, false] rfl rfl (by kernel_rfl) (fun _ _ _ h => h) (Or.inl ⟨by rfl, ?_⟩) ?_ ?_
  rotate_left
  · intro w'
    go_simp
    with_reducible rfl
  rotate_left
  · simp only [Act.put, List.setIfInBounds_toArray, List.set_cons_zero, List.set_cons_succ, i64_w, i32_w]
    rfl
  refine take_ (i := 6) (N := some 40) (v := ?_) (a' := ?_) #[true, true, true, true, true, true, true, false, false] rfl rfl (by kernel_rfl) (fun _ _ _ h => h) (Or.inl ⟨by rfl, ?_⟩) hHeld ?_ ?_
  rotate_left
  · intro w' s0
    go_simp
    with_reducible rfl
  rotate_left
  · simp only [Act.put, List.setIfInBounds_toArray, List.set_cons_zero, List.set_cons_succ, i64_w, i32_w]
    rfl
  refine one_ (i := 7) (N := some 41) #[true, true, true, true, true, true, true, true, false] rfl rfl (by kernel_rfl) (by decide) (fun K hK => ?_)
  refine goes_ Tryz.func131 (by kernel_rfl) rfl #[.string ⟨signs.data.extract 2 5⟩, .int .u8 (b.toNat : Int)] (by rfl) rfl rfl (by first | (simp only [List.map_toArray, List.map_cons, List.map_nil]; done) | (simp only [List.map_toArray, List.map_cons, List.map_nil]; rfl) | rfl) ?_
  with_reducible refine (Tryz.strings_IndexByte _ _ _).mono ?_
  rintro e w5 ⟨rfl, hw5⟩
  refine ⟨_, rfl, ?_⟩
  obtain rfl := hw5.symm
  have HB1 := Lib.hid hHeld
  refine hK.out _ _ (hHeld) (fun hHeld => ?_)
  clear hK K
  refine norm_ (a' := ?_) ?_ ?_
  rotate_left
  · show Act.put _ (some 41) _ = _
    simp only [Act.put, List.setIfInBounds_toArray, List.set_cons_zero, List.set_cons_succ, i64_w, i32_w]
    rfl
  refine pure_ (i := 8) (N := some 11) (v := ?_) (a' := ?_) #[true, true, true, true, true, true, true, true, true] rfl rfl (by kernel_rfl) (fun _ _ _ h => h) (Or.inl ⟨by rfl, ?_⟩) ?_ ?_
  rotate_left
  · intro w'
    go_simp
    with_reducible rfl
  rotate_left
  · simp only [Act.put, List.setIfInBounds_toArray, List.set_cons_zero, List.set_cons_succ, i64_w, i32_w]
    rfl
  refine done_ (by kernel_rfl) ?_
  --S4
  clear hHeld
  go_wp2
  go_ret
  exact ⟨rfl, HB1.out⟩
set_option maxRecDepth 1000000 in
set_option maxHeartbeats 4000000 in
theorem far_2 (x : Nat) (w : World) (E : ByteArray) (b : UInt8) (h1 : 128 ≤ x) (h3 : x ≠ 65533) (hv : Lib.validRune (x : Int) = true) (he : Enc x E 2 b) (hcv : ∀ W, (convert 21 9 (.int .i32 (x : Int))).run Tryz.prog W = .ok (.string E) W) :
    Calls Tryz.prog 124 #[.string signs, .int .i32 x] w fun e w' => e = .returned (.int .i64 (-1)) ∧ Below w.heap.size w w' := by
  have d1 : decide ((0 : Int) ≤ (x : Int)) = true := decide_eq_true (by omega)
  have d2 : decide ((x : Int) < 128) = false := decide_eq_false (by omega)
  have d3 : ((x : Int) == 65533) = false := by rw [beq_eq_false_iff_ne]; omega
  have hvr := Tryz.utf8_ValidRune (x : Int) w
  rw [hv] at hvr
  have hes := he.size
  have hix : ∀ W, (Instr.index 9 (.string E) (.int .i64 2)).run Tryz.prog W = .ok (.int .u8 (b.toNat : Int)) W := fun W => str_at he.last _
  have HE := Lib.hid he
  have hs1 : (((signs[2]'(by decide)).toNat : Nat) : Int) = 45 := rfl
  have hbn : ((45 : Int) == (b.toNat : Int)) = false := by rw [beq_eq_false_iff_ne]; have := he.big; omega
  have hbn2 : ((45 : Int) != (b.toNat : Int)) = true := by rw [bne, hbn]; rfl
  have hwn : wrap64 3 = 3 := IntWalk.wrap64_in _ (by omega)
  have hsm : ∀ c ∈ ([43, 47] : List UInt8), c.toNat < 128 := by decide
  have hib : Lib.indexByte [43, 47] b = -1 := idx_far _ b (fun c hc e => by have h4 := hsm c hc; have h5 := he.big; rw [e] at h4; omega)
  clear he hbn hsm
  go_enter Tryz.func124, Tryz.ntmps124
  go_wp2_with (go_at_call 132; refine hvr.mono ?_; rintro e w1 ⟨rfl, hw1⟩; obtain rfl := hw1.symm)
  go_step3
  go_wp2
  refine wp_loop_rounds 1 ?_
  rw [rounds_succ]
  go_upto_region 6 with (fail)
  go_step3
  go_wp2
  --S1
  refine start_ (n := 7) (S := fun w' => Below w.heap.size w w') (ds := []) #[false, false, false, false, false, false, false] (by kernel_rfl) rfl rfl (Below.drew (Below.refl _ _)) (fun hHeld => ?_)
  refine pure_ (i := 0) (N := some 27) (v := ?_) (a' := ?_) #[true, false, false, false, false, false, false] rfl rfl (by kernel_rfl) (fun _ _ _ h => h) (Or.inl ⟨by rfl, ?_⟩) ?_ ?_
  rotate_left
  · intro w'
    go_simp
    with_reducible rfl
  rotate_left
  · simp only [Act.put, List.setIfInBounds_toArray, List.set_cons_zero, List.set_cons_succ, i64_w, i32_w]
    rfl
  refine pure_ (i := 1) (N := some 28) (v := ?_) (a' := ?_) #[true, true, false, false, false, false, false] rfl rfl (by kernel_rfl) (fun _ _ _ h => h) (Or.inl ⟨by rfl, ?_⟩) ?_ ?_
  rotate_left
  · intro w'
    go_simp
    with_reducible rfl
  rotate_left
  · simp only [Act.put, List.setIfInBounds_toArray, List.set_cons_zero, List.set_cons_succ, i64_w, i32_w]
    rfl
  refine pure_ (i := 3) (N := some 30) (v := ?_) (a' := ?_) #[true, true, false, true, false, false, false] rfl rfl (by kernel_rfl) (fun _ _ _ h => h) (Or.inl ⟨by rfl, ?_⟩) ?_ ?_
  rotate_left
  · intro w'
    go_simp
    with_reducible rfl
  rotate_left
  · simp only [Act.put, List.setIfInBounds_toArray, List.set_cons_zero, List.set_cons_succ, i64_w, i32_w]
    rfl
  refine pure_ (i := 4) (N := some 31) (v := ?_) (a' := ?_) #[true, true, false, true, true, false, false] rfl rfl (by kernel_rfl) (fun _ _ _ h => h) (Or.inl ⟨by rfl, ?_⟩) ?_ ?_
  rotate_left
  · intro w'
    go_simp
    with_reducible rfl
  rotate_left
  · simp only [Act.put, List.setIfInBounds_toArray, List.set_cons_zero, List.set_cons_succ, i64_w, i32_w]
    rfl
  refine take_ (i := 2) (N := some 29) (v := ?_) (a' := ?_) #[true, true, true, true, true, false, false] rfl rfl (by kernel_rfl) (fun _ _ _ h => h) (Or.inl ⟨by rfl, ?_⟩) hHeld ?_ ?_
  rotate_left
  · intro w' s0
    go_simp
    with_reducible rfl
  rotate_left
  · simp only [Act.put, List.setIfInBounds_toArray, List.set_cons_zero, List.set_cons_succ, i64_w, i32_w]
    rfl
  refine take_ (i := 5) (N := some 32) (v := ?_) (a' := ?_) #[true, true, true, true, true, true, false] rfl rfl (by kernel_rfl) (fun _ _ _ h => h) (Or.inl ⟨by rfl, ?_⟩) hHeld ?_ ?_
  rotate_left
  · intro w' s0
    go_simp
    with_reducible rfl
  rotate_left
  · simp only [Act.put, List.setIfInBounds_toArray, List.set_cons_zero, List.set_cons_succ, i64_w, i32_w]
    rfl
  refine pure_ (i := 6) (N := some 33) (v := ?_) (a' := ?_) #[true, true, true, true, true, true, true] rfl rfl (by kernel_rfl) (fun _ _ _ h => h) (Or.inl ⟨by rfl, ?_⟩) ?_ ?_
  rotate_left
  · intro w'
    go_simp
    with_reducible rfl
  rotate_left
  · simp only [Act.put, List.setIfInBounds_toArray, List.set_cons_zero, List.set_cons_succ, i64_w, i32_w]
    rfl
  refine done_ (by kernel_rfl) ?_
  --S2
  clear hHeld
  go_wp2
  --S3
  refine start_ (n := 9) (S := fun w' => Below w.heap.size w w') (ds := []) #[false, false, false, false, false, false, false, false, false] (by kernel_rfl) rfl rfl (Below.drew (Below.drew (Below.refl _ _))) (fun hHeld => ?_)
  refine pure_ (i := 0) (N := some 34) (v := ?_) (a' := ?_) #[true, false, false, false, false, false, false, false, false] rfl rfl (by kernel_rfl) (fun _ _ _ h => h) (Or.inl ⟨by rfl, ?_⟩) ?_ ?_
  rotate_left
  · intro w'
    go_simp
    with_reducible rfl
  rotate_left
  · simp only [Act.put, List.setIfInBounds_toArray, List.set_cons_zero, List.set_cons_succ, i64_w, i32_w]
    rfl
  refine pure_ (i := 1) (N := some 35) (v := ?_) (a' := ?_) #[true, true, false, false, false, false, false, false, false] rfl rfl (by kernel_rfl) (fun _ _ _ h => h) (Or.inl ⟨by rfl, ?_⟩) ?_ ?_
  rotate_left
  · intro w'
    go_simp
    with_reducible rfl
  rotate_left
  · simp only [Act.put, List.setIfInBounds_toArray, List.set_cons_zero, List.set_cons_succ, i64_w, i32_w]
    rfl
  refine pure_ (i := 2) (N := some 36) (v := ?_) (a' := ?_) #[true, true, true, false, false, false, false, false, false] rfl rfl (by kernel_rfl) (fun _ _ _ h => h) (Or.inl ⟨by rfl, ?_⟩) ?_ ?_
  rotate_left
  · intro w'
    go_simp
    with_reducible rfl
  rotate_left
  · simp only [Act.put, List.setIfInBounds_toArray, List.set_cons_zero, List.set_cons_succ, i64_w, i32_w]
    rfl
  refine pure_ (i := 3) (N := some 37) (v := ?_) (a' := ?_) #[true, true, true, true, false, false, false, false, false] rfl rfl (by kernel_rfl) (fun _ _ _ h => h) (Or.inl ⟨by rfl, ?_⟩) ?_ ?_
  rotate_left
  · intro w'
    go_simp
    with_reducible rfl
  rotate_left
  · simp only [Act.put, List.setIfInBounds_toArray, List.set_cons_zero, List.set_cons_succ, i64_w, i32_w]
    rfl
  refine pure_ (i := 4) (N := some 38) (v := ?_) (a' := ?_) #[true, true, true, true, true, false, false, false, false] rfl rfl (by kernel_rfl) (fun _ _ _ h => h) (Or.inl ⟨by rfl, ?_⟩) ?_ ?_
  rotate_left
  · intro w'
    go_simp
    with_reducible rfl
  rotate_left
  · simp only [Act.put, List.setIfInBounds_toArray, List.set_cons_zero, List.set_cons_succ, i64_w, i32_w]
    rfl
  refine pure_ (i := 5) (N := some 39) (v := ?_) (a' := ?_) #[true, true, true, true, true, true, false, false, false] rfl rfl (by kernel_rfl) (fun _ _ _ h => h) (Or.inl ⟨by rfl, ?_⟩) ?_ ?_
  rotate_left
  · intro w'
    go_simp
    with_reducible rfl
  rotate_left
  · simp only [Act.put, List.setIfInBounds_toArray, List.set_cons_zero, List.set_cons_succ, i64_w, i32_w]
    rfl
  refine take_ (i := 6) (N := some 40) (v := ?_) (a' := ?_) #[true, true, true, true, true, true, true, false, false] rfl rfl (by kernel_rfl) (fun _ _ _ h => h) (Or.inl ⟨by rfl, ?_⟩) hHeld ?_ ?_
  rotate_left
  · intro w' s0
    go_simp
    with_reducible rfl
  rotate_left
  · simp only [Act.put, List.setIfInBounds_toArray, List.set_cons_zero, List.set_cons_succ, i64_w, i32_w]
    rfl
  refine one_ (i := 7) (N := some 41) #[true, true, true, true, true, true, true, true, false] rfl rfl (by kernel_rfl) (by decide) (fun K hK => ?_)
  refine goes_ Tryz.func131 (by kernel_rfl) rfl #[.string ⟨signs.data.extract 3 5⟩, .int .u8 (b.toNat : Int)] (by rfl) rfl rfl (by first | (simp only [List.map_toArray, List.map_cons, List.map_nil]; done) | (simp only [List.map_toArray, List.map_cons, List.map_nil]; rfl) | rfl) ?_
  with_reducible refine (Tryz.strings_IndexByte _ _ _).mono ?_
  rintro e w5 ⟨rfl, hw5⟩
  refine ⟨_, rfl, ?_⟩
  obtain rfl := hw5.symm
  have HB1 := Lib.hid hHeld
  refine hK.out _ _ (hHeld) (fun hHeld => ?_)
  clear hK K
  refine norm_ (a' := ?_) ?_ ?_
  rotate_left
  · show Act.put _ (some 41) _ = _
    simp only [Act.put, List.setIfInBounds_toArray, List.set_cons_zero, List.set_cons_succ, i64_w, i32_w]
    rfl
  refine pure_ (i := 8) (N := some 11) (v := ?_) (a' := ?_) #[true, true, true, true, true, true, true, true, true] rfl rfl (by kernel_rfl) (fun _ _ _ h => h) (Or.inl ⟨by rfl, ?_⟩) ?_ ?_
  rotate_left
  · intro w'
    go_simp
    with_reducible rfl
  rotate_left
  · simp only [Act.put, List.setIfInBounds_toArray, List.set_cons_zero, List.set_cons_succ, i64_w, i32_w]
    rfl
  refine done_ (by kernel_rfl) ?_
  --S4
  clear hHeld
  go_wp2
  go_ret
  exact ⟨rfl, HB1.out⟩
set_option maxRecDepth 1000000 in
set_option maxHeartbeats 4000000 in
theorem far_3 (x : Nat) (w : World) (E : ByteArray) (b : UInt8) (h1 : 128 ≤ x) (h3 : x ≠ 65533) (hv : Lib.validRune (x : Int) = true) (he : Enc x E 3 b) (hcv : ∀ W, (convert 21 9 (.int .i32 (x : Int))).run Tryz.prog W = .ok (.string E) W) :
    Calls Tryz.prog 124 #[.string signs, .int .i32 x] w fun e w' => e = .returned (.int .i64 (-1)) ∧ Below w.heap.size w w' := by
  have d1 : decide ((0 : Int) ≤ (x : Int)) = true := decide_eq_true (by omega)
  have d2 : decide ((x : Int) < 128) = false := decide_eq_false (by omega)
  have d3 : ((x : Int) == 65533) = false := by rw [beq_eq_false_iff_ne]; omega
  have hvr := Tryz.utf8_ValidRune (x : Int) w
  rw [hv] at hvr
  have hes := he.size
  have hix : ∀ W, (Instr.index 9 (.string E) (.int .i64 3)).run Tryz.prog W = .ok (.int .u8 (b.toNat : Int)) W := fun W => str_at he.last _
  have HE := Lib.hid he
  have hs1 : (((signs[3]'(by decide)).toNat : Nat) : Int) = 43 := rfl
  have hbn : ((43 : Int) == (b.toNat : Int)) = false := by rw [beq_eq_false_iff_ne]; have := he.big; omega
  have hbn2 : ((43 : Int) != (b.toNat : Int)) = true := by rw [bne, hbn]; rfl
  have hwn : wrap64 4 = 4 := IntWalk.wrap64_in _ (by omega)
  have hsm : ∀ c ∈ ([47] : List UInt8), c.toNat < 128 := by decide
  have hib : Lib.indexByte [47] b = -1 := idx_far _ b (fun c hc e => by have h4 := hsm c hc; have h5 := he.big; rw [e] at h4; omega)
  clear he hbn hsm
  go_enter Tryz.func124, Tryz.ntmps124
  go_wp2_with (go_at_call 132; refine hvr.mono ?_; rintro e w1 ⟨rfl, hw1⟩; obtain rfl := hw1.symm)
  go_step3
  go_wp2
  refine wp_loop_rounds 1 ?_
  rw [rounds_succ]
  go_upto_region 6 with (fail)
  go_step3
  go_wp2
  --S1
  refine start_ (n := 7) (S := fun w' => Below w.heap.size w w') (ds := []) #[false, false, false, false, false, false, false] (by kernel_rfl) rfl rfl (Below.drew (Below.refl _ _)) (fun hHeld => ?_)
  refine pure_ (i := 0) (N := some 27) (v := ?_) (a' := ?_) #[true, false, false, false, false, false, false] rfl rfl (by kernel_rfl) (fun _ _ _ h => h) (Or.inl ⟨by rfl, ?_⟩) ?_ ?_
  rotate_left
  · intro w'
    go_simp
    with_reducible rfl
  rotate_left
  · simp only [Act.put, List.setIfInBounds_toArray, List.set_cons_zero, List.set_cons_succ, i64_w, i32_w]
    rfl
  refine pure_ (i := 1) (N := some 28) (v := ?_) (a' := ?_) #[true, true, false, false, false, false, false] rfl rfl (by kernel_rfl) (fun _ _ _ h => h) (Or.inl ⟨by rfl, ?_⟩) ?_ ?_
  rotate_left
  · intro w'
    go_simp
    with_reducible rfl
  rotate_left
  · simp only [Act.put, List.setIfInBounds_toArray, List.set_cons_zero, List.set_cons_succ, i64_w, i32_w]
    rfl
  refine pure_ (i := 3) (N := some 30) (v := ?_) (a' := ?_) #[true, true, false, true, false, false, false] rfl rfl (by kernel_rfl) (fun _ _ _ h => h) (Or.inl ⟨by rfl, ?_⟩) ?_ ?_
  rotate_left
  · intro w'
    go_simp
    with_reducible rfl
  rotate_left
  · simp only [Act.put, List.setIfInBounds_toArray, List.set_cons_zero, List.set_cons_succ, i64_w, i32_w]
    rfl
  refine pure_ (i := 4) (N := some 31) (v := ?_) (a' := ?_) #[true, true, false, true, true, false, false] rfl rfl (by kernel_rfl) (fun _ _ _ h => h) (Or.inl ⟨by rfl, ?_⟩) ?_ ?_
  rotate_left
  · intro w'
    go_simp
    with_reducible rfl
  rotate_left
  · simp only [Act.put, List.setIfInBounds_toArray, List.set_cons_zero, List.set_cons_succ, i64_w, i32_w]
    rfl
  refine take_ (i := 2) (N := some 29) (v := ?_) (a' := ?_) #[true, true, true, true, true, false, false] rfl rfl (by kernel_rfl) (fun _ _ _ h => h) (Or.inl ⟨by rfl, ?_⟩) hHeld ?_ ?_
  rotate_left
  · intro w' s0
    go_simp
    with_reducible rfl
  rotate_left
  · simp only [Act.put, List.setIfInBounds_toArray, List.set_cons_zero, List.set_cons_succ, i64_w, i32_w]
    rfl
  refine take_ (i := 5) (N := some 32) (v := ?_) (a' := ?_) #[true, true, true, true, true, true, false] rfl rfl (by kernel_rfl) (fun _ _ _ h => h) (Or.inl ⟨by rfl, ?_⟩) hHeld ?_ ?_
  rotate_left
  · intro w' s0
    go_simp
    with_reducible rfl
  rotate_left
  · simp only [Act.put, List.setIfInBounds_toArray, List.set_cons_zero, List.set_cons_succ, i64_w, i32_w]
    rfl
  refine pure_ (i := 6) (N := some 33) (v := ?_) (a' := ?_) #[true, true, true, true, true, true, true] rfl rfl (by kernel_rfl) (fun _ _ _ h => h) (Or.inl ⟨by rfl, ?_⟩) ?_ ?_
  rotate_left
  · intro w'
    go_simp
    with_reducible rfl
  rotate_left
  · simp only [Act.put, List.setIfInBounds_toArray, List.set_cons_zero, List.set_cons_succ, i64_w, i32_w]
    rfl
  refine done_ (by kernel_rfl) ?_
  --S2
  clear hHeld
  go_wp2
  --S3
  refine start_ (n := 9) (S := fun w' => Below w.heap.size w w') (ds := []) #[false, false, false, false, false, false, false, false, false] (by kernel_rfl) rfl rfl (Below.drew (Below.drew (Below.refl _ _))) (fun hHeld => ?_)
  refine pure_ (i := 0) (N := some 34) (v := ?_) (a' := ?_) #[true, false, false, false, false, false, false, false, false] rfl rfl (by kernel_rfl) (fun _ _ _ h => h) (Or.inl ⟨by rfl, ?_⟩) ?_ ?_
  rotate_left
  · intro w'
    go_simp
    with_reducible rfl
  rotate_left
  · simp only [Act.put, List.setIfInBounds_toArray, List.set_cons_zero, List.set_cons_succ, i64_w, i32_w]
    rfl
  refine pure_ (i := 1) (N := some 35) (v := ?_) (a' := ?_) #[true, true, false, false, false, false, false, false, false] rfl rfl (by kernel_rfl) (fun _ _ _ h => h) (Or.inl ⟨by rfl, ?_⟩) ?_ ?_
  rotate_left
  · intro w'
    go_simp
    with_reducible rfl
  rotate_left
  · simp only [Act.put, List.setIfInBounds_toArray, List.set_cons_zero, List.set_cons_succ, i64_w, i32_w]
    rfl
  refine pure_ (i := 2) (N := some 36) (v := ?_) (a' := ?_) #[true, true, true, false, false, false, false, false, false] rfl rfl (by kernel_rfl) (fun _ _ _ h => h) (Or.inl ⟨by rfl, ?_⟩) ?_ ?_
  rotate_left
  · intro w'
    go_simp
    with_reducible rfl
  rotate_left
  · simp only [Act.put, List.setIfInBounds_toArray, List.set_cons_zero, List.set_cons_succ, i64_w, i32_w]
    rfl
  refine pure_ (i := 3) (N := some 37) (v := ?_) (a' := ?_) #[true, true, true, true, false, false, false, false, false] rfl rfl (by kernel_rfl) (fun _ _ _ h => h) (Or.inl ⟨by rfl, ?_⟩) ?_ ?_
  rotate_left
  · intro w'
    go_simp
    with_reducible rfl
  rotate_left
  · simp only [Act.put, List.setIfInBounds_toArray, List.set_cons_zero, List.set_cons_succ, i64_w, i32_w]
    rfl
  refine pure_ (i := 4) (N := some 38) (v := ?_) (a' := ?_) #[true, true, true, true, true, false, false, false, false] rfl rfl (by kernel_rfl) (fun _ _ _ h => h) (Or.inl ⟨by rfl, ?_⟩) ?_ ?_
  rotate_left
  · intro w'
    go_simp
    with_reducible rfl
  rotate_left
  · simp only [Act.put, List.setIfInBounds_toArray, List.set_cons_zero, List.set_cons_succ, i64_w, i32_w]
    rfl
  refine pure_ (i := 5) (N := some 39) (v := ?_) (a' := ?_) #[true, true, true, true, true, true, false, false, false] rfl rfl (by kernel_rfl) (fun _ _ _ h => h) (Or.inl ⟨by rfl, ?_⟩) ?_ ?_
  rotate_left
  · intro w'
    go_simp
    with_reducible rfl
  rotate_left
  · simp only [Act.put, List.setIfInBounds_toArray, List.set_cons_zero, List.set_cons_succ, i64_w, i32_w]
    rfl
  refine take_ (i := 6) (N := some 40) (v := ?_) (a' := ?_) #[true, true, true, true, true, true, true, false, false] rfl rfl (by kernel_rfl) (fun _ _ _ h => h) (Or.inl ⟨by rfl, ?_⟩) hHeld ?_ ?_
  rotate_left
  · intro w' s0
    go_simp
    with_reducible rfl
  rotate_left
  · simp only [Act.put, List.setIfInBounds_toArray, List.set_cons_zero, List.set_cons_succ, i64_w, i32_w]
    rfl
  refine one_ (i := 7) (N := some 41) #[true, true, true, true, true, true, true, true, false] rfl rfl (by kernel_rfl) (by decide) (fun K hK => ?_)
  refine goes_ Tryz.func131 (by kernel_rfl) rfl #[.string ⟨signs.data.extract 4 5⟩, .int .u8 (b.toNat : Int)] (by rfl) rfl rfl (by first | (simp only [List.map_toArray, List.map_cons, List.map_nil]; done) | (simp only [List.map_toArray, List.map_cons, List.map_nil]; rfl) | rfl) ?_
  with_reducible refine (Tryz.strings_IndexByte _ _ _).mono ?_
  rintro e w5 ⟨rfl, hw5⟩
  refine ⟨_, rfl, ?_⟩
  obtain rfl := hw5.symm
  have HB1 := Lib.hid hHeld
  refine hK.out _ _ (hHeld) (fun hHeld => ?_)
  clear hK K
  refine norm_ (a' := ?_) ?_ ?_
  rotate_left
  · show Act.put _ (some 41) _ = _
    simp only [Act.put, List.setIfInBounds_toArray, List.set_cons_zero, List.set_cons_succ, i64_w, i32_w]
    rfl
  refine pure_ (i := 8) (N := some 11) (v := ?_) (a' := ?_) #[true, true, true, true, true, true, true, true, true] rfl rfl (by kernel_rfl) (fun _ _ _ h => h) (Or.inl ⟨by rfl, ?_⟩) ?_ ?_
  rotate_left
  · intro w'
    go_simp
    with_reducible rfl
  rotate_left
  · simp only [Act.put, List.setIfInBounds_toArray, List.set_cons_zero, List.set_cons_succ, i64_w, i32_w]
    rfl
  refine done_ (by kernel_rfl) ?_
  --S4
  clear hHeld
  go_wp2
  go_ret
  exact ⟨rfl, HB1.out⟩
theorem rune_all (x : Nat) (w : World) (h1 : 128 ≤ x) (h2 : x ≤ 1114111) :
    Calls Tryz.prog 124 #[.string signs, .int .i32 x] w fun e w' => e = .returned (.int .i64 (-1)) ∧ Below w.heap.size w w' := by
  by_cases h3 : x = 65533
  · subst h3
    exact rune_err w
  cases hv : Lib.validRune (x : Int) with
  | false => exact (rune_bad x w h1 h2 h3 hv).mono fun e w' ⟨he, hw⟩ => ⟨he, hw ▸ Below.refl _ _⟩
  | true =>
    have hval : Utf8.valid (x : Int) = true := by
      have h := hv
      simp only [Lib.validRune, decide_eq_true_eq] at h
      unfold Utf8.valid
      simp
      omega
    obtain ⟨n, b, he⟩ := enc_some h1 hval
    have hcv : ∀ W, (convert 21 9 (.int .i32 (x : Int))).run Tryz.prog W = .ok (.string (Utf8.encode (x : Int))) W := fun W => by kernel_rfl
    have hn : n = 1 ∨ n = 2 ∨ n = 3 := by have := he.n1; have := he.n3; omega
    rcases hn with rfl | rfl | rfl
    · exact far_1 x w _ b h1 h3 hv he hcv
    · exact far_2 x w _ b h1 h3 hv he hcv
    · exact far_3 x w _ b h1 h3 hv he hcv
theorem plain_far {x : Nat} (h : 128 ≤ x) : plainB x = false := by
  unfold plainB
  simp
  omega
def inSigns (x : Nat) : Bool := decide (x = 46 ∨ x = 95 ∨ x = 45 ∨ x = 43 ∨ x = 47)
theorem signs_index (x : Nat) (h : x < 128) : decide (0 ≤ Lib.indexByte signs.data.toList ((x : Int).toNat.toUInt8)) = inSigns x := by
  have key : ∀ y : Fin 128, decide (0 ≤ Lib.indexByte signs.data.toList (y.1.toUInt8)) = inSigns y.1 := by decide +kernel
  exact key ⟨x, h⟩
/-- strings.ContainsRune over the signs. -/
theorem signs_any (x : Nat) (w : World) (h : x ≤ 1114111) :
    Calls Tryz.prog 113 #[.string signs, .int .i32 x] w fun e w' => e = .returned (.bool (inSigns x)) ∧ Below w.heap.size w w' := by
  by_cases h1 : x < 128
  · refine (Tryz.strings_ContainsRune_ascii signs (x : Int) w (by omega) (by omega)).mono fun e w' ⟨he, hw⟩ => ⟨?_, hw ▸ Below.refl _ _⟩
    rw [he, signs_index x h1]
  · have hf : inSigns x = false := by unfold inSigns; exact decide_eq_false (by omega)
    have hc := rune_all x w (by omega) h
    rw [hf]
    clear hf h1
    go_enter Tryz.func113, Tryz.ntmps113
    go_wp2_with fail
    refine hc.mono ?_
    rintro e w5 ⟨rfl, b5⟩
    go_wp2
    go_ret
    exact ⟨rfl, b5⟩
end Go.Proofs.YtononoakdebjeaaGreatDoor.Path
namespace Go.Proofs.YtononoakdebjeaaGreatDoor.Path
open Go.RowKit Go.Proofs.YtononoakdebjeaaGreatDoorW.PrintWords Go.Proofs.YtononoakdebjeaaGreatDoorW.PrintLast Go.Proofs.YtononoakdebjeaaGreatDoor.Base
set_option linter.unusedVariables false
set_option linter.unusedSimpArgs false
set_option maxRecDepth 1000000 in
set_option maxHeartbeats 4000000 in
theorem plain_t (x : Nat) (w : World) (k0 : decide ((97 : Int) ≤ (x : Int)) = true) (k1 : decide ((x : Int) ≤ 122) = true) :
    Calls Tryz.prog 93 #[.int .i32 x] w fun e w' => e = .returned (.bool true) ∧ Below w.heap.size w w' := by
  go_enter Tryz.func93, Tryz.ntmps93
  go_wp2
  go_ret
  exact ⟨rfl, Below.refl _ _⟩
set_option maxRecDepth 1000000 in
set_option maxHeartbeats 4000000 in
theorem plain_at (x : Nat) (w : World) (k0 : decide ((97 : Int) ≤ (x : Int)) = false) (k1 : decide ((65 : Int) ≤ (x : Int)) = true) (k2 : decide ((x : Int) ≤ 90) = true) :
    Calls Tryz.prog 93 #[.int .i32 x] w fun e w' => e = .returned (.bool true) ∧ Below w.heap.size w w' := by
  go_enter Tryz.func93, Tryz.ntmps93
  go_wp2
  go_ret
  exact ⟨rfl, Below.refl _ _⟩
set_option maxRecDepth 1000000 in
set_option maxHeartbeats 4000000 in
theorem plain_aat (x : Nat) (w : World) (k0 : decide ((97 : Int) ≤ (x : Int)) = false) (k1 : decide ((65 : Int) ≤ (x : Int)) = false) (k2 : decide ((48 : Int) ≤ (x : Int)) = true) (k3 : decide ((x : Int) ≤ 57) = true) :
    Calls Tryz.prog 93 #[.int .i32 x] w fun e w' => e = .returned (.bool true) ∧ Below w.heap.size w w' := by
  go_enter Tryz.func93, Tryz.ntmps93
  go_wp2
  go_ret
  exact ⟨rfl, Below.refl _ _⟩
set_option maxRecDepth 1000000 in
set_option maxHeartbeats 4000000 in
theorem plain_aaa (x : Nat) (w : World) (h : x ≤ 1114111) (k0 : decide ((97 : Int) ≤ (x : Int)) = false) (k1 : decide ((65 : Int) ≤ (x : Int)) = false) (k2 : decide ((48 : Int) ≤ (x : Int)) = false) :
    Calls Tryz.prog 93 #[.int .i32 x] w fun e w' => e = .returned (.bool (inSigns x)) ∧ Below w.heap.size w w' := by
  have H := Lib.hid (fun W => signs_any x W h)
  clear h
  obtain ⟨s, hs⟩ : ∃ s, inSigns x = s := ⟨_, rfl⟩
  rw [hs] at H ⊢
  clear hs
  go_enter Tryz.func93, Tryz.ntmps93
  go_wp2_with (go_at_call 113; refine (H.out _).mono ?_; rintro e w5 ⟨rfl, b5⟩)
  go_ret
  exact ⟨rfl, b5⟩
set_option maxRecDepth 1000000 in
set_option maxHeartbeats 4000000 in
theorem plain_aab (x : Nat) (w : World) (h : x ≤ 1114111) (k0 : decide ((97 : Int) ≤ (x : Int)) = false) (k1 : decide ((65 : Int) ≤ (x : Int)) = false) (k2 : decide ((48 : Int) ≤ (x : Int)) = true) (k3 : decide ((x : Int) ≤ 57) = false) :
    Calls Tryz.prog 93 #[.int .i32 x] w fun e w' => e = .returned (.bool (inSigns x)) ∧ Below w.heap.size w w' := by
  have H := Lib.hid (fun W => signs_any x W h)
  clear h
  obtain ⟨s, hs⟩ : ∃ s, inSigns x = s := ⟨_, rfl⟩
  rw [hs] at H ⊢
  clear hs
  go_enter Tryz.func93, Tryz.ntmps93
  go_wp2_with (go_at_call 113; refine (H.out _).mono ?_; rintro e w5 ⟨rfl, b5⟩)
  go_ret
  exact ⟨rfl, b5⟩
set_option maxRecDepth 1000000 in
set_option maxHeartbeats 4000000 in
theorem plain_abt (x : Nat) (w : World) (k0 : decide ((97 : Int) ≤ (x : Int)) = false) (k1 : decide ((65 : Int) ≤ (x : Int)) = true) (k2 : decide ((x : Int) ≤ 90) = false) (k3 : decide ((48 : Int) ≤ (x : Int)) = true) (k4 : decide ((x : Int) ≤ 57) = true) :
    Calls Tryz.prog 93 #[.int .i32 x] w fun e w' => e = .returned (.bool true) ∧ Below w.heap.size w w' := by
  go_enter Tryz.func93, Tryz.ntmps93
  go_wp2
  go_ret
  exact ⟨rfl, Below.refl _ _⟩
set_option maxRecDepth 1000000 in
set_option maxHeartbeats 4000000 in
theorem plain_aba (x : Nat) (w : World) (h : x ≤ 1114111) (k0 : decide ((97 : Int) ≤ (x : Int)) = false) (k1 : decide ((65 : Int) ≤ (x : Int)) = true) (k2 : decide ((x : Int) ≤ 90) = false) (k3 : decide ((48 : Int) ≤ (x : Int)) = false) :
    Calls Tryz.prog 93 #[.int .i32 x] w fun e w' => e = .returned (.bool (inSigns x)) ∧ Below w.heap.size w w' := by
  have H := Lib.hid (fun W => signs_any x W h)
  clear h
  obtain ⟨s, hs⟩ : ∃ s, inSigns x = s := ⟨_, rfl⟩
  rw [hs] at H ⊢
  clear hs
  go_enter Tryz.func93, Tryz.ntmps93
  go_wp2_with (go_at_call 113; refine (H.out _).mono ?_; rintro e w5 ⟨rfl, b5⟩)
  go_ret
  exact ⟨rfl, b5⟩
set_option maxRecDepth 1000000 in
set_option maxHeartbeats 4000000 in
theorem plain_abb (x : Nat) (w : World) (h : x ≤ 1114111) (k0 : decide ((97 : Int) ≤ (x : Int)) = false) (k1 : decide ((65 : Int) ≤ (x : Int)) = true) (k2 : decide ((x : Int) ≤ 90) = false) (k3 : decide ((48 : Int) ≤ (x : Int)) = true) (k4 : decide ((x : Int) ≤ 57) = false) :
    Calls Tryz.prog 93 #[.int .i32 x] w fun e w' => e = .returned (.bool (inSigns x)) ∧ Below w.heap.size w w' := by
  have H := Lib.hid (fun W => signs_any x W h)
  clear h
  obtain ⟨s, hs⟩ : ∃ s, inSigns x = s := ⟨_, rfl⟩
  rw [hs] at H ⊢
  clear hs
  go_enter Tryz.func93, Tryz.ntmps93
  go_wp2_with (go_at_call 113; refine (H.out _).mono ?_; rintro e w5 ⟨rfl, b5⟩)
  go_ret
  exact ⟨rfl, b5⟩
set_option maxRecDepth 1000000 in
set_option maxHeartbeats 4000000 in
theorem plain_bt (x : Nat) (w : World) (k0 : decide ((97 : Int) ≤ (x : Int)) = true) (k1 : decide ((x : Int) ≤ 122) = false) (k2 : decide ((65 : Int) ≤ (x : Int)) = true) (k3 : decide ((x : Int) ≤ 90) = true) :
    Calls Tryz.prog 93 #[.int .i32 x] w fun e w' => e = .returned (.bool true) ∧ Below w.heap.size w w' := by
  go_enter Tryz.func93, Tryz.ntmps93
  go_wp2
  go_ret
  exact ⟨rfl, Below.refl _ _⟩
set_option maxRecDepth 1000000 in
set_option maxHeartbeats 4000000 in
theorem plain_bat (x : Nat) (w : World) (k0 : decide ((97 : Int) ≤ (x : Int)) = true) (k1 : decide ((x : Int) ≤ 122) = false) (k2 : decide ((65 : Int) ≤ (x : Int)) = false) (k3 : decide ((48 : Int) ≤ (x : Int)) = true) (k4 : decide ((x : Int) ≤ 57) = true) :
    Calls Tryz.prog 93 #[.int .i32 x] w fun e w' => e = .returned (.bool true) ∧ Below w.heap.size w w' := by
  go_enter Tryz.func93, Tryz.ntmps93
  go_wp2
  go_ret
  exact ⟨rfl, Below.refl _ _⟩
set_option maxRecDepth 1000000 in
set_option maxHeartbeats 4000000 in
theorem plain_baa (x : Nat) (w : World) (h : x ≤ 1114111) (k0 : decide ((97 : Int) ≤ (x : Int)) = true) (k1 : decide ((x : Int) ≤ 122) = false) (k2 : decide ((65 : Int) ≤ (x : Int)) = false) (k3 : decide ((48 : Int) ≤ (x : Int)) = false) :
    Calls Tryz.prog 93 #[.int .i32 x] w fun e w' => e = .returned (.bool (inSigns x)) ∧ Below w.heap.size w w' := by
  have H := Lib.hid (fun W => signs_any x W h)
  clear h
  obtain ⟨s, hs⟩ : ∃ s, inSigns x = s := ⟨_, rfl⟩
  rw [hs] at H ⊢
  clear hs
  go_enter Tryz.func93, Tryz.ntmps93
  go_wp2_with (go_at_call 113; refine (H.out _).mono ?_; rintro e w5 ⟨rfl, b5⟩)
  go_ret
  exact ⟨rfl, b5⟩
set_option maxRecDepth 1000000 in
set_option maxHeartbeats 4000000 in
theorem plain_bab (x : Nat) (w : World) (h : x ≤ 1114111) (k0 : decide ((97 : Int) ≤ (x : Int)) = true) (k1 : decide ((x : Int) ≤ 122) = false) (k2 : decide ((65 : Int) ≤ (x : Int)) = false) (k3 : decide ((48 : Int) ≤ (x : Int)) = true) (k4 : decide ((x : Int) ≤ 57) = false) :
    Calls Tryz.prog 93 #[.int .i32 x] w fun e w' => e = .returned (.bool (inSigns x)) ∧ Below w.heap.size w w' := by
  have H := Lib.hid (fun W => signs_any x W h)
  clear h
  obtain ⟨s, hs⟩ : ∃ s, inSigns x = s := ⟨_, rfl⟩
  rw [hs] at H ⊢
  clear hs
  go_enter Tryz.func93, Tryz.ntmps93
  go_wp2_with (go_at_call 113; refine (H.out _).mono ?_; rintro e w5 ⟨rfl, b5⟩)
  go_ret
  exact ⟨rfl, b5⟩
set_option maxRecDepth 1000000 in
set_option maxHeartbeats 4000000 in
theorem plain_bbt (x : Nat) (w : World) (k0 : decide ((97 : Int) ≤ (x : Int)) = true) (k1 : decide ((x : Int) ≤ 122) = false) (k2 : decide ((65 : Int) ≤ (x : Int)) = true) (k3 : decide ((x : Int) ≤ 90) = false) (k4 : decide ((48 : Int) ≤ (x : Int)) = true) (k5 : decide ((x : Int) ≤ 57) = true) :
    Calls Tryz.prog 93 #[.int .i32 x] w fun e w' => e = .returned (.bool true) ∧ Below w.heap.size w w' := by
  go_enter Tryz.func93, Tryz.ntmps93
  go_wp2
  go_ret
  exact ⟨rfl, Below.refl _ _⟩
set_option maxRecDepth 1000000 in
set_option maxHeartbeats 4000000 in
theorem plain_bba (x : Nat) (w : World) (h : x ≤ 1114111) (k0 : decide ((97 : Int) ≤ (x : Int)) = true) (k1 : decide ((x : Int) ≤ 122) = false) (k2 : decide ((65 : Int) ≤ (x : Int)) = true) (k3 : decide ((x : Int) ≤ 90) = false) (k4 : decide ((48 : Int) ≤ (x : Int)) = false) :
    Calls Tryz.prog 93 #[.int .i32 x] w fun e w' => e = .returned (.bool (inSigns x)) ∧ Below w.heap.size w w' := by
  have H := Lib.hid (fun W => signs_any x W h)
  clear h
  obtain ⟨s, hs⟩ : ∃ s, inSigns x = s := ⟨_, rfl⟩
  rw [hs] at H ⊢
  clear hs
  go_enter Tryz.func93, Tryz.ntmps93
  go_wp2_with (go_at_call 113; refine (H.out _).mono ?_; rintro e w5 ⟨rfl, b5⟩)
  go_ret
  exact ⟨rfl, b5⟩
set_option maxRecDepth 1000000 in
set_option maxHeartbeats 4000000 in
theorem plain_bbb (x : Nat) (w : World) (h : x ≤ 1114111) (k0 : decide ((97 : Int) ≤ (x : Int)) = true) (k1 : decide ((x : Int) ≤ 122) = false) (k2 : decide ((65 : Int) ≤ (x : Int)) = true) (k3 : decide ((x : Int) ≤ 90) = false) (k4 : decide ((48 : Int) ≤ (x : Int)) = true) (k5 : decide ((x : Int) ≤ 57) = false) :
    Calls Tryz.prog 93 #[.int .i32 x] w fun e w' => e = .returned (.bool (inSigns x)) ∧ Below w.heap.size w w' := by
  have H := Lib.hid (fun W => signs_any x W h)
  clear h
  obtain ⟨s, hs⟩ : ∃ s, inSigns x = s := ⟨_, rfl⟩
  rw [hs] at H ⊢
  clear hs
  go_enter Tryz.func93, Tryz.ntmps93
  go_wp2_with (go_at_call 113; refine (H.out _).mono ?_; rintro e w5 ⟨rfl, b5⟩)
  go_ret
  exact ⟨rfl, b5⟩
theorem plain_any (x : Nat) (w : World) (h : x ≤ 1114111) :
    Calls Tryz.prog 93 #[.int .i32 x] w fun e w' => e = .returned (.bool (plainB x)) ∧ Below w.heap.size w w' := by
  have hp : plainB x = ((decide ((97 : Int) ≤ (x : Int)) && decide ((x : Int) ≤ 122)) || (decide ((65 : Int) ≤ (x : Int)) && decide ((x : Int) ≤ 90)) || (decide ((48 : Int) ≤ (x : Int)) && decide ((x : Int) ≤ 57)) || inSigns x) := by
    unfold plainB inSigns
    rw [Bool.eq_iff_iff]
    simp
    omega
  rw [hp]
  cases p0 : decide ((97 : Int) ≤ (x : Int)) with
  | false =>
    cases p1 : decide ((65 : Int) ≤ (x : Int)) with
    | false =>
      cases p2 : decide ((48 : Int) ≤ (x : Int)) with
      | false =>
        simp only [p0, p1, p2, Bool.false_and, Bool.and_false, Bool.false_or]
        exact plain_aaa x w h p0 p1 p2
      | true =>
        cases q2 : decide ((x : Int) ≤ 57) with
        | true =>
          simp only [p0, p1, p2, q2, Bool.and_self, Bool.true_or, Bool.or_true]
          exact plain_aat x w p0 p1 p2 q2
        | false =>
          simp only [p0, p1, p2, q2, Bool.false_and, Bool.and_false, Bool.false_or]
          exact plain_aab x w h p0 p1 p2 q2
    | true =>
      cases q1 : decide ((x : Int) ≤ 90) with
      | true =>
        simp only [p0, p1, q1, Bool.and_self, Bool.true_or, Bool.or_true]
        exact plain_at x w p0 p1 q1
      | false =>
        cases p2 : decide ((48 : Int) ≤ (x : Int)) with
        | false =>
          simp only [p0, p1, q1, p2, Bool.false_and, Bool.and_false, Bool.false_or]
          exact plain_aba x w h p0 p1 q1 p2
        | true =>
          cases q2 : decide ((x : Int) ≤ 57) with
          | true =>
            simp only [p0, p1, q1, p2, q2, Bool.and_self, Bool.true_or, Bool.or_true]
            exact plain_abt x w p0 p1 q1 p2 q2
          | false =>
            simp only [p0, p1, q1, p2, q2, Bool.false_and, Bool.and_false, Bool.false_or]
            exact plain_abb x w h p0 p1 q1 p2 q2
  | true =>
    cases q0 : decide ((x : Int) ≤ 122) with
    | true =>
      simp only [p0, q0, Bool.and_self, Bool.true_or, Bool.or_true]
      exact plain_t x w p0 q0
    | false =>
      cases p1 : decide ((65 : Int) ≤ (x : Int)) with
      | false =>
        cases p2 : decide ((48 : Int) ≤ (x : Int)) with
        | false =>
          simp only [p0, q0, p1, p2, Bool.false_and, Bool.and_false, Bool.false_or]
          exact plain_baa x w h p0 q0 p1 p2
        | true =>
          cases q2 : decide ((x : Int) ≤ 57) with
          | true =>
            simp only [p0, q0, p1, p2, q2, Bool.and_self, Bool.true_or, Bool.or_true]
            exact plain_bat x w p0 q0 p1 p2 q2
          | false =>
            simp only [p0, q0, p1, p2, q2, Bool.false_and, Bool.and_false, Bool.false_or]
            exact plain_bab x w h p0 q0 p1 p2 q2
      | true =>
        cases q1 : decide ((x : Int) ≤ 90) with
        | true =>
          simp only [p0, q0, p1, q1, Bool.and_self, Bool.true_or, Bool.or_true]
          exact plain_bt x w p0 q0 p1 q1
        | false =>
          cases p2 : decide ((48 : Int) ≤ (x : Int)) with
          | false =>
            simp only [p0, q0, p1, q1, p2, Bool.false_and, Bool.and_false, Bool.false_or]
            exact plain_bba x w h p0 q0 p1 q1 p2
          | true =>
            cases q2 : decide ((x : Int) ≤ 57) with
            | true =>
              simp only [p0, q0, p1, q1, p2, q2, Bool.and_self, Bool.true_or, Bool.or_true]
              exact plain_bbt x w p0 q0 p1 q1 p2 q2
            | false =>
              simp only [p0, q0, p1, q1, p2, q2, Bool.false_and, Bool.and_false, Bool.false_or]
              exact plain_bbb x w h p0 q0 p1 q1 p2 q2
end Go.Proofs.YtononoakdebjeaaGreatDoor.Path
namespace Go.Proofs.YtononoakdebjeaaGreatDoor.Path
open Go.RowKit Go.Proofs.YtononoakdebjeaaGreatDoorW.PrintWords Go.Proofs.YtononoakdebjeaaGreatDoorW.PrintLast Go.Proofs.YtononoakdebjeaaGreatDoor.Base
set_option linter.unusedVariables false
set_option linter.unusedSimpArgs false
theorem clean1_any (x : Nat) (w : World) (h : x ≤ 1114111) :
    Calls Tryz.prog 92 #[.int .i32 x] w fun e w' => e = .returned (.bool (!plainB x)) ∧ Below w.heap.size w w' := by
  have hc := plain_any x w h
  obtain ⟨b, hb⟩ : ∃ b, plainB x = b := ⟨_, rfl⟩
  rw [hb] at hc ⊢
  clear hb
  go_enter Tryz.func92, Tryz.ntmps92
  go_wp2_with fail
  refine hc.mono ?_
  rintro e w5 ⟨rfl, b5⟩
  go_wp2
  go_ret
  exact ⟨rfl, b5⟩
/-- Where the first rune stands that may not be in a name; -1: none. -/
def badAt (s : ByteArray) : Int := Lib.idxFunc (fun x => !plainB x) true s
theorem bad_any (s : ByteArray) (w : World) :
    Calls Tryz.prog 91 #[.string s, .func (.func 92) #[] #[]] w fun e w' => e = .returned (.int .i64 (badAt s)) ∧ Below w.heap.size w w' :=
  Tryz.strings_IndexFunc_grows 92 #[] (enters_of Tryz.func92 (by kernel_rfl) rfl) (fun x => !plainB x) s w (fun W x hx hb => clean1_any x W hx)
end Go.Proofs.YtononoakdebjeaaGreatDoor.Path
namespace Go.Proofs.YtononoakdebjeaaGreatDoor.Path
open Go.RowKit Go.Proofs.YtononoakdebjeaaGreatDoorW.PrintWords Go.Proofs.YtononoakdebjeaaGreatDoor.Base
set_option linter.unusedVariables false
set_option linter.unusedSimpArgs false
/-- A name's parts. -/
def partsL : List UInt8 → List (List UInt8)
  | [] => [[]]
  | c :: s => if c = 47 then [] :: partsL s else match partsL s with
    | p :: ps => (c :: p) :: ps
    | [] => [[c]]
theorem partsL_ne (s : List UInt8) : partsL s ≠ [] := by
  cases s with
  | nil => intro h; cases h
  | cons c s =>
    unfold partsL
    split
    · intro h; cases h
    · split <;> intro h <;> cases h
theorem idx_range (s : List UInt8) : Lib.indexByte s 47 = -1 ∨ 0 ≤ Lib.indexByte s 47 := by
  induction s with
  | nil => exact .inl rfl
  | cons c s ih =>
    unfold Lib.indexByte
    split
    · exact .inr (by omega)
    · split
      · exact .inl rfl
      · rename_i h
        rcases ih with h1 | h1
        · rw [h1] at h; exact absurd rfl h
        · exact .inr (by omega)
theorem parts_none {s : List UInt8} (h : Lib.indexByte s 47 < 0) : partsL s = [s] := by
  induction s with
  | nil => rfl
  | cons c s ih =>
    unfold Lib.indexByte at h
    by_cases hc : c = 47
    · subst hc
      simp at h
    · have h1 : (c == 47) = false := beq_eq_false_iff_ne.2 hc
      rw [h1] at h
      have h2 : Lib.indexByte s 47 < 0 := by
        rcases idx_range s with h3 | h3
        · omega
        · exfalso
          have h4 : (Lib.indexByte s 47 == -1) = false := by rw [beq_eq_false_iff_ne]; omega
          rw [h4] at h
          simp at h
          omega
      unfold partsL
      rw [if_neg hc, ih h2]
theorem parts_some {s : List UInt8} {i : Nat} (h : Lib.indexByte s 47 = (i : Int)) : i < s.length ∧ partsL s = s.take i :: partsL (s.drop (i + 1)) := by
  induction s generalizing i with
  | nil => simp [Lib.indexByte] at h
  | cons c s ih =>
    unfold Lib.indexByte at h
    by_cases hc : c = 47
    · subst hc
      simp at h
      have hi : i = 0 := by omega
      subst hi
      refine ⟨by simp, ?_⟩
      rw [partsL, if_pos rfl]
      rfl
    · have h1 : (c == 47) = false := beq_eq_false_iff_ne.2 hc
      rw [h1] at h
      rcases idx_range s with h3 | h3
      · rw [h3] at h
        simp at h
      · have h4 : (Lib.indexByte s 47 == -1) = false := by rw [beq_eq_false_iff_ne]; omega
        rw [h4] at h
        simp at h
        obtain ⟨j, rfl⟩ : ∃ j, i = j + 1 := ⟨i - 1, by omega⟩
        obtain ⟨k1, k2⟩ := ih (i := j) (by omega)
        refine ⟨by simp; omega, ?_⟩
        rw [partsL, if_neg hc, k2]
        rfl
/-- A part more. -/
def stepC (acc : List (List UInt8)) (p : List UInt8) : Option (List (List UInt8)) :=
  if p = [] ∨ p = [46] then some acc else if p = [46, 46] then (if acc = [] then none else some acc.dropLast) else some (acc ++ [p])
def foldC : List (List UInt8) → List (List UInt8) → Option (List (List UInt8))
  | acc, [] => some acc
  | acc, p :: ps => match stepC acc p with
    | none => none
    | some a => foldC a ps
/-- What a name is cleaned to, and the error. -/
def cleanV (s : ByteArray) : List UInt8 × Nat :=
  if 1000 < s.size then ([], 3)
  else if Lib.hasPrefix s.data.toList [47] = true ∨ 0 ≤ badAt s then ([], 5)
  else match foldC [] (partsL s.data.toList) with
    | none => ([], 5)
    | some acc => if Lib.join acc [47] = [] then ([], 5) else if 100 < (Lib.join acc [47]).length then ([], 3) else (Lib.join acc [47], 0)
/-- Is it a path? -/
def rightB (s : ByteArray) : Bool := decide ((cleanV s).2 = 0) && decide ((cleanV s).1 = s.data.toList)
end Go.Proofs.YtononoakdebjeaaGreatDoor.Path
namespace Go.Proofs.YtononoakdebjeaaGreatDoor.Path
open Go.RowKit Go.Proofs.YtononoakdebjeaaGreatDoorW.PrintWords Go.Proofs.YtononoakdebjeaaGreatDoorW.PrintLast Go.Proofs.YtononoakdebjeaaGreatDoor.Base
set_option linter.unusedVariables false
set_option linter.unusedSimpArgs false
attribute [local go_sem] Oper.semAt_some
/-- The three captured boxes stand. -/
def Kb (b : Nat) (A B : World) : Prop := A.heap.size ≤ B.heap.size ∧ ∀ k, b ≤ k → k ≤ b + 2 → B.heap[k]? = A.heap[k]?
def penc (p : List UInt8) : Array Value := #[.string ⟨p.toArray⟩]
set_option maxRecDepth 100000 in
set_option maxHeartbeats 2000000 in
theorem split_box (n b : Nat) (s0 : ByteArray) (w : World) (hn : 1 ≤ n) (hs : s0.size ≤ 1000)
    (h0 : w.heap[b]? = some (.cells #[.string s0] 9 (0, 0))) (h1 : w.heap[b + 1]? = some (.cells #[.string ⟨#[47]⟩] 9 (0, 0))) (h2 : w.heap[b + 2]? = some (.cells #[.int .i64 0] 3 (0, 0))) :
    SeqBox Fence.wide n Tryz.prog 125 #[.pointer (some ⟨b + 1, 0, none⟩), .pointer (some ⟨b, 0, none⟩), .pointer (some ⟨b + 2, 0, none⟩)] penc (Kb b) (fun xs => xs = partsL s0.data.toList) (fun xs => xs <+: partsL s0.data.toList) b w := by
  intro l J Jx W hW hJ hJx hY hJ0
  have p0 : W.heap[b]? = some (.cells #[.string s0] 9 (0, 0)) := (hW.block b (Array.getElem?_eq_some_iff.1 h0).1).trans h0
  have p1 : W.heap[b + 1]? = some (.cells #[.string ⟨#[47]⟩] 9 (0, 0)) := (hW.block _ (Array.getElem?_eq_some_iff.1 h1).1).trans h1
  have p2 : W.heap[b + 2]? = some (.cells #[.int .i64 0] 3 (0, 0)) := (hW.block _ (Array.getElem?_eq_some_iff.1 h2).1).trans h2
  have P0 := Lib.hid p0
  have P1 := Lib.hid p1
  have P2 := Lib.hid p2
  have q1 := (show W.cell? ⟨b + 1, 0, none⟩ = some (.string ⟨#[47]⟩) from blk_cell p1 0)
  have HY := Lib.hid hY
  have HJ := Lib.hid hJ
  clear h0 h1 h2 p0 p1 p2 hY hJ hJx
  refine callsIn_of_wp Tryz.func125 rfl trivial ?_ rfl
  simp only [Tryz.ntmps125, List.size_toArray, List.length_cons, List.length_nil, Nat.reduceAdd, Nat.reduceSub, Array.replicate_succ, Array.replicate_zero, List.push_toArray, List.append_toArray, List.nil_append, List.cons_append]
  gi_wp2
  clear q1
  gi_loopw [7, 8] (fun _ _ wr => ∃ (pre : List (List UInt8)) (rest : ByteArray), wr.heap[b]? = some (.cells #[.string rest] 9 (0, 0)) ∧ wr.heap[b + 1]? = some (.cells #[.string ⟨#[47]⟩] 9 (0, 0)) ∧ wr.heap[b + 2]? = some (.cells #[.int .i64 0] 3 (0, 0)) ∧ partsL s0.data.toList = pre ++ partsL rest.data.toList ∧ rest.size ≤ 1000 ∧ J pre wr)
    (fun _ _ wr => match wr.cell? ⟨b, 0, none⟩ with | some (.string s) => s.size | _ => 0)
  case atStart => exact ⟨[], s0, P0.out, P1.out, P2.out, rfl, hs, hJ0⟩
  case round =>
    obtain ⟨pre, rest, r0, r1, r2, hp, hr, hJp⟩ := hrel
    have c0 := (show wr.cell? ⟨b, 0, none⟩ = some (.string rest) from blk_cell r0 0)
    have c1 := (show wr.cell? ⟨b + 1, 0, none⟩ = some (.string ⟨#[47]⟩) from blk_cell r1 0)
    have c2 := (show wr.cell? ⟨b + 2, 0, none⟩ = some (.int .i64 0) from blk_cell r2 0)
    have HI := Tryz.strings_Index_one rest 47 wr
    by_cases hneg : Lib.indexByte rest.data.toList 47 < 0
    · have hd : decide (Lib.indexByte rest.data.toList 47 < 0) = true := decide_eq_true hneg
      obtain ⟨q, hq⟩ : ∃ q, q = Lib.indexByte rest.data.toList 47 := ⟨_, rfl⟩
      rw [← hq] at HI hd
      have hpr := parts_none hneg
      obtain ⟨fn, tmps, assign, body, hy, hR⟩ := HY.out pre rest.data.toList wr hJp ⟨[], by rw [hp, hpr, List.append_nil]⟩
      have hy : (Instr.yield l #[.string rest]).run Tryz.prog wr = .ok (.round l fn tmps assign body) wr := hy
      have HR := Lib.hid hR
      have HP : Hid (partsL s0.data.toList = pre ++ [rest.data.toList]) := by show _ = _; rw [hp, hpr]
      clear hneg hq hpr hR hp hJp
      gi_wp2_with (first | (refine ⟨trivial, ?_⟩; gi_at_call 127; refine (callsIn_wide.2 HI).mono ?_; rintro e w5 ⟨rfl, hw5⟩; obtain rfl := hw5.symm) | gi_in)
      refine HR.out.mono ?_
      rintro e W3 (⟨rfl, hJ3, _⟩ | ⟨rfl, hJx3⟩)
      · have HJ3 := Lib.hid hJ3
        clear hJ3
        gi_wp2
        go_end0
        exact ⟨⟨_, rfl⟩, .inl ⟨_, HP.out.symm, HJ3.out⟩⟩
      · have HJ3 := Lib.hid hJx3
        clear hJx3
        gi_wp2
        go_end0
        exact ⟨⟨_, rfl⟩, .inr ⟨_, HJ3.out⟩⟩
    · obtain ⟨i, hi⟩ : ∃ i : Nat, Lib.indexByte rest.data.toList 47 = (i : Int) := ⟨(Lib.indexByte rest.data.toList 47).toNat, by omega⟩
      obtain ⟨hil, hps⟩ := parts_some hi
      rw [hi] at HI
      have hd : decide ((i : Int) < 0) = false := decide_eq_false (by omega)
      have hd' : decide (0 < i + 1) = true := decide_eq_true (by omega)
      have hil2 : i < rest.size := hil
      have hx : rest.extract 0 i = (⟨(rest.data.toList.take i).toArray⟩ : ByteArray) := by
        apply ByteArray.ext
        rw [ByteArray.data_extract]
        apply Array.toList_inj.1
        simp
      have hx2 : rest.extract (i + 1) rest.size = (⟨(rest.data.toList.drop (i + 1)).toArray⟩ : ByteArray) := by
        apply ByteArray.ext
        rw [ByteArray.data_extract]
        apply Array.toList_inj.1
        simp
        exact List.take_of_length_le (by rw [List.length_drop]; exact Nat.le_refl _)
      have HX2 := Lib.hid hx2
      obtain ⟨fn, tmps, assign, body, hy, hR⟩ := HY.out pre (rest.data.toList.take i) wr hJp ⟨partsL (rest.data.toList.drop (i + 1)), by rw [hp, hps]; simp⟩
      have hy : (Instr.yield l #[.string (rest.extract 0 i)]).run Tryz.prog wr = .ok (.round l fn tmps assign body) wr := by rw [hx]; exact hy
      have HR := Lib.hid hR
      clear hR hx hx2
      have C0 := Lib.hid c0
      have HPS := Lib.hid hps
      have HP := Lib.hid hp
      have HJP := Lib.hid hJp
      clear hneg hi hil hps hp hJp
      gi_wp2_with (first | (refine ⟨trivial, ?_⟩; gi_at_call 127; refine (callsIn_wide.2 HI).mono ?_; rintro e w5 ⟨rfl, hw5⟩; obtain rfl := hw5.symm) | gi_in)
      refine HR.out.mono ?_
      rintro e W3 (⟨rfl, hJ3, hk3⟩ | ⟨rfl, hJx3⟩)
      · have HJ3 := Lib.hid hJ3
        have R0 : Hid (W3.heap[b]? = some (.cells #[.string rest] 9 (0, 0))) := (hk3.2 b (by omega) (by omega)).trans r0
        have R1 : Hid (W3.heap[b + 1]? = some (.cells #[.string ⟨#[47]⟩] 9 (0, 0))) := (hk3.2 _ (by omega) (by omega)).trans r1
        have R2 : Hid (W3.heap[b + 2]? = some (.cells #[.int .i64 0] 3 (0, 0))) := (hk3.2 _ (by omega) (by omega)).trans r2
        have c0 := (show W3.cell? ⟨b, 0, none⟩ = some (.string rest) from blk_cell R0.out 0)
        have c1 := (show W3.cell? ⟨b + 1, 0, none⟩ = some (.string ⟨#[47]⟩) from blk_cell R1.out 0)
        have c2 := (show W3.cell? ⟨b + 2, 0, none⟩ = some (.int .i64 0) from blk_cell R2.out 0)
        have f0 := blk_frozen R0.out 0
        clear hJ3 hk3 r0 r1 r2
        gi_wp2
        rw [HX2.out]
        obtain ⟨W4, hW4⟩ : ∃ W4, W4 = W3.setCell ⟨b, 0, none⟩ (.string ⟨(rest.data.toList.drop (i + 1)).toArray⟩) := ⟨_, rfl⟩
        rw [← hW4]
        have hg4 : W3.grownBy W4 (some b) := by rw [hW4]; exact grownBy_setCell' W3 b _
        have s0' : W4.heap[b]? = some (.cells #[.string ⟨(rest.data.toList.drop (i + 1)).toArray⟩] 9 (0, 0)) := by rw [hW4]; exact blk_set R0.out 0 _
        have s1' : W4.heap[b + 1]? = some (.cells #[.string ⟨#[47]⟩] 9 (0, 0)) := by rw [hW4]; exact blk_far R1.out (by show b + 1 ≠ b; omega) _
        have s2' : W4.heap[b + 2]? = some (.cells #[.int .i64 0] 3 (0, 0)) := by rw [hW4]; exact blk_far R2.out (by show b + 2 ≠ b; omega) _
        have hsz : (⟨(rest.data.toList.drop (i + 1)).toArray⟩ : ByteArray).size = rest.size - (i + 1) := by
          show ((rest.data.toList.drop (i + 1)).toArray).size = _
          rw [List.size_toArray, List.length_drop]
          rfl
        refine ⟨⟨pre ++ [rest.data.toList.take i], ⟨(rest.data.toList.drop (i + 1)).toArray⟩, s0', s1', s2', ?_, by rw [hsz]; omega, HJ.out _ _ _ HJ3.out hg4⟩, ?_⟩
        · rw [HP.out, HPS.out]
          simp
        · rw [show W4.cell? ⟨b, 0, none⟩ = _ from blk_cell s0' 0, show wr.cell? ⟨b, 0, none⟩ = _ from C0.out]
          show (⟨(rest.data.toList.drop (i + 1)).toArray⟩ : ByteArray).size < rest.size
          rw [hsz]
          omega
      · have HJ3 := Lib.hid hJx3
        clear hJx3
        gi_wp2
        refine bodyPost_ret (results_none rfl _ _ _) rfl ?_
        exact ⟨⟨_, rfl⟩, .inr ⟨_, HJ3.out⟩⟩
theorem splitSeq_any (s sep : ByteArray) (w : World) : Calls Tryz.prog 114 #[.string s, .string sep, .int .i64 0] w fun e w' =>
    e = .returned (.func (.func 125) #[] #[.pointer (some ⟨w.heap.size + 1, 0, none⟩), .pointer (some ⟨w.heap.size, 0, none⟩), .pointer (some ⟨w.heap.size + 2, 0, none⟩)]) ∧
    w' = ((w.alloc (.cells #[.string s] 9)).alloc (.cells #[.string sep] 9)).alloc (.cells #[.int .i64 0] 3) := by
  go_enter Tryz.func114, Tryz.ntmps114
  go_wp2
  go_ret
  exact ⟨by simp, rfl⟩
theorem split_any (s sep : ByteArray) (w : World) : Calls Tryz.prog 94 #[.string s, .string sep] w fun e w' =>
    e = .returned (.func (.func 125) #[] #[.pointer (some ⟨w.heap.size + 1, 0, none⟩), .pointer (some ⟨w.heap.size, 0, none⟩), .pointer (some ⟨w.heap.size + 2, 0, none⟩)]) ∧
    w' = ((w.alloc (.cells #[.string s] 9)).alloc (.cells #[.string sep] 9)).alloc (.cells #[.int .i64 0] 3) := by
  go_enter Tryz.func94, Tryz.ntmps94
  go_wp2_with fail
  refine (splitSeq_any s sep w).mono ?_
  rintro e w1 ⟨rfl, rfl⟩
  go_wp2
  go_ret
  exact ⟨rfl, rfl⟩
end Go.Proofs.YtononoakdebjeaaGreatDoor.Path
namespace Go.Proofs.YtononoakdebjeaaGreatDoor.Path
open Go.RowKit Go.Proofs.YtononoakdebjeaaGreatDoorW.PrintWords Go.Proofs.YtononoakdebjeaaGreatDoorW.PrintLast Go.Proofs.YtononoakdebjeaaGreatDoor.Base
set_option linter.unusedVariables false
set_option linter.unusedSimpArgs false
def encS (p : List UInt8) : Value := .string ⟨p.toArray⟩
theorem info_str : (Tryz.prog.info? 9).map (fun i => (i.zero, i.size, i.bytes)) = some (some (.string ⟨#[]⟩), 1, 16) := by kernel_rfl
theorem foldC_cons (acc : List (List UInt8)) (x : List UInt8) (xs : List (List UInt8)) : foldC acc (x :: xs) = (stepC acc x).bind fun a => foldC a xs := by
  conv => lhs; unfold foldC
  cases stepC acc x <;> rfl
theorem foldC_append (acc : List (List UInt8)) (xs ys : List (List UInt8)) : foldC acc (xs ++ ys) = (foldC acc xs).bind fun a => foldC a ys := by
  induction xs generalizing acc with
  | nil => rfl
  | cons x xs ih =>
    rw [List.cons_append, foldC_cons, foldC_cons]
    cases hs : stepC acc x with
    | none => rfl
    | some a => exact ih a
theorem foldC_one (acc : List (List UInt8)) (x : List UInt8) : foldC acc [x] = stepC acc x := by
  unfold foldC
  cases stepC acc x <;> rfl
theorem foldC_none {s : List (List UInt8)} {pre : List (List UInt8)} (h : foldC [] pre = none) (hp : pre <+: s) : foldC [] s = none := by
  obtain ⟨ys, rfl⟩ := hp
  rw [foldC_append, h]
  rfl
theorem stepC_len {acc a : List (List UInt8)} {x : List UInt8} (h : stepC acc x = some a) : a.length ≤ acc.length + 1 := by
  unfold stepC at h
  split at h
  · rw [← Option.some.inj h]; omega
  · split at h
    · split at h
      · cases h
      · rw [← Option.some.inj h, List.length_dropLast]; omega
    · rw [← Option.some.inj h, List.length_append]; simp
theorem foldC_len {xs : List (List UInt8)} : ∀ {acc a : List (List UInt8)}, foldC acc xs = some a → a.length ≤ acc.length + xs.length := by
  induction xs with
  | nil => intro acc a h; rw [← Option.some.inj h]; exact Nat.le_refl _
  | cons x xs ih =>
    intro acc a h
    unfold foldC at h
    cases hs : stepC acc x with
    | none => rw [hs] at h; cases h
    | some b =>
      rw [hs] at h
      have h1 := ih h
      have h2 := stepC_len hs
      rw [List.length_cons]
      omega
theorem partsL_len (s : List UInt8) : (partsL s).length ≤ s.length + 1 := by
  induction s with
  | nil => exact Nat.le_refl _
  | cons c s ih =>
    unfold partsL
    split
    · rw [List.length_cons, List.length_cons]; omega
    · split
      · rename_i p ps h
        rw [h] at ih
        rw [List.length_cons] at ih ⊢
        rw [List.length_cons]
        omega
      · simp
/-- Every part has at most the name's bytes. -/
theorem partsL_size (s : List UInt8) : ∀ p ∈ partsL s, p.length ≤ s.length := by
  induction s with
  | nil => intro p hp; rw [List.mem_singleton.1 hp]; exact Nat.le_refl _
  | cons c s ih =>
    intro p hp
    unfold partsL at hp
    split at hp
    · rcases List.mem_cons.1 hp with rfl | hp
      · simp
      · have := ih p hp; rw [List.length_cons]; omega
    · split at hp
      · rename_i q ps h
        rcases List.mem_cons.1 hp with rfl | hp
        · have := ih q (by rw [h]; exact .head _); rw [List.length_cons, List.length_cons]; omega
        · have := ih p (by rw [h]; exact .tail _ hp); rw [List.length_cons]; omega
      · rw [List.mem_singleton.1 hp]; simp
theorem stepC_size {acc a : List (List UInt8)} {x : List UInt8} {m : Nat} (h : stepC acc x = some a) (h1 : ∀ p ∈ acc, p.length ≤ m) (h2 : x.length ≤ m) : ∀ p ∈ a, p.length ≤ m := by
  unfold stepC at h
  split at h
  · rw [← Option.some.inj h]; exact h1
  · split at h
    · split at h
      · cases h
      · rw [← Option.some.inj h]; exact fun p hp => h1 p (List.dropLast_subset _ hp)
    · rw [← Option.some.inj h]
      intro p hp
      rcases List.mem_append.1 hp with hp | hp
      · exact h1 p hp
      · rw [List.mem_singleton.1 hp]; exact h2
theorem foldC_size {m : Nat} {xs : List (List UInt8)} : ∀ {acc a : List (List UInt8)}, foldC acc xs = some a → (∀ p ∈ acc, p.length ≤ m) → (∀ p ∈ xs, p.length ≤ m) → ∀ p ∈ a, p.length ≤ m := by
  induction xs with
  | nil => intro acc a h h1 _; rw [← Option.some.inj h]; exact h1
  | cons x xs ih =>
    intro acc a h h1 h2
    unfold foldC at h
    cases hs : stepC acc x with
    | none => rw [hs] at h; cases h
    | some b =>
      rw [hs] at h
      exact ih h (stepC_size hs h1 (h2 x (.head _))) (fun p hp => h2 p (.tail _ hp))
theorem join_len (m : Nat) : ∀ (l : List (List UInt8)), (∀ p ∈ l, p.length ≤ m) → (Lib.join l [47]).length ≤ l.length * (m + 1)
  | [], _ => by simp [Lib.join]
  | [p], h => by
    have := h p (.head _)
    simp [Lib.join]
    omega
  | p :: q :: l, h => by
    have h1 := join_len m (q :: l) (fun r hr => h r (.tail _ hr))
    have h2 := h p (.head _)
    have e : (Lib.join (p :: q :: l) [47]).length = p.length + 1 + (Lib.join (q :: l) [47]).length := by
      simp [Lib.join]
      omega
    rw [e, List.length_cons, Nat.succ_mul]
    omega
/-- Between two rounds. -/
structure PI (w : World) (B x px : Nat) (pre : List (List UInt8)) (W : World) : Prop where
  ex : ∃ acc v, foldC [] pre = some acc ∧ W.heap[px]? = some (.cells #[v] 48 (0, 0)) ∧ W.ownsRow B 9 1 v acc.length (acc.map encS)
  r0 : W.heap[x]? = some (.cells #[.string ⟨#[]⟩] 9 (0, 0))
  r1 : W.heap[x + 1]? = some (.cells #[.int .i64 0] 31 (0, 0))
  below : Below w.heap.size w W
  sz : B ≤ W.heap.size
/-- Behind a return out of a round. -/
structure RI (w : World) (x : Nat) (pre : List (List UInt8)) (W : World) : Prop where
  none : foldC [] pre = none
  r0 : W.heap[x]? = some (.cells #[.string ⟨#[]⟩] 9 (0, 0))
  r1 : W.heap[x + 1]? = some (.cells #[.int .i64 5] 31 (0, 0))
  below : Below w.heap.size w W
theorem PI.grown {w : World} {B x px r : Nat} {pre : List (List UInt8)} {W W' : World} (h : PI w B x px pre W) (hg : W.grownBy W' (some r)) (h1 : r ≠ px) (h2 : r ≠ x) (h3 : r ≠ x + 1) (h4 : w.heap.size ≤ r) (h5 : r < B ∨ ∃ o : Obj, W.heap[r]? = some o ∧ o.isCells = false) : PI w B x px pre W' := by
  obtain ⟨acc, v, e1, e2, e3⟩ := h.ex
  have hne : ∀ k, r ≠ k → (some k : Option Nat) ≠ some r := fun k hk e => hk (Option.some.inj e).symm
  refine ⟨⟨acc, v, e1, blk_grown e2 hg (hne _ h1), e3.kept hg ?_⟩, blk_grown h.r0 hg (hne _ h2), blk_grown h.r1 hg (hne _ h3), h.below.grown hg h.below.size (fun k e => by cases e; exact h4), Nat.le_trans h.sz hg.size⟩
  rcases h5 with h5 | ⟨o, ho, hc⟩
  · refine .inr fun e => ?_
    have := own_base e3 r e
    omega
  · refine .inr fun e => ?_
    obtain ⟨cells, hcl⟩ := own_typed e3 r e
    rw [ho] at hcl
    cases hcl
    cases hc
theorem PI.grown0 {w : World} {B x px : Nat} {pre : List (List UInt8)} {W W' : World} (h : PI w B x px pre W) (hg : W.grownBy W' none) : PI w B x px pre W' := by
  obtain ⟨acc, v, e1, e2, e3⟩ := h.ex
  refine ⟨⟨acc, v, e1, blk_grown e2 hg (by simp), e3.kept hg ?_⟩, blk_grown h.r0 hg (by simp), blk_grown h.r1 hg (by simp), h.below.grown hg h.below.size (fun k e => by cases e), Nat.le_trans h.sz hg.size⟩
  cases hv : v.ownBlock with
  | none => exact .inl rfl
  | some k => exact .inr (by simp)
theorem PI.own {w : World} {B0 B x px : Nat} (h1 : px < B0) (h2 : x + 1 < px) (h3 : w.heap.size ≤ B0) : OwnFrom B0 (PI w B x px) := by
  rintro s A A' row h hg hr
  cases row with
  | none => exact h.grown0 hg
  | some r =>
    obtain ⟨k1, k2⟩ := hr r rfl
    exact h.grown hg (by omega) (by omega) (by omega) (by omega) (.inr k2)
theorem PI.lets {w : World} {b B x px : Nat} (h0 : b < B) (h1 : px < b) (h2 : x + 1 < px) (h3 : w.heap.size ≤ b) : Lets b (PI w B x px) := fun s A A' h hg => h.grown hg (by omega) (by omega) (by omega) h3 (.inl h0)
theorem RI.grown {w : World} {x : Nat} {row : Option Nat} {pre : List (List UInt8)} {W W' : World} (h : RI w x pre W) (hg : W.grownBy W' row) (h1 : ∀ r, row = some r → x + 1 < r ∧ w.heap.size ≤ r) : RI w x pre W' := by
  refine ⟨h.none, blk_grown h.r0 hg (fun e => ?_), blk_grown h.r1 hg (fun e => ?_), h.below.grown hg h.below.size (fun k e => (h1 k e).2)⟩
  · have := (h1 x e.symm).1; omega
  · have := (h1 _ e.symm).1; omega
theorem RI.own {w : World} {B0 x : Nat} (h2 : x + 1 < B0) (h3 : w.heap.size ≤ B0) : OwnFrom B0 (RI w x) := by
  rintro s A A' row h hg hr
  exact h.grown hg (fun r e => ⟨by have := (hr r e).1; omega, by have := (hr r e).1; omega⟩)
theorem RI.lets {w : World} {b x : Nat} (h2 : x + 1 < b) (h3 : w.heap.size ≤ b) : Lets b (RI w x) := fun s A A' h hg => h.grown hg (fun r e => by cases e; exact ⟨h2, h3⟩)
/-- parts[:len(parts)-1]. -/
theorem own_less {W : World} {B g n cap : Nat} {acc : List (List UInt8)} (h : W.ownsRow B 9 1 (.slice (some ⟨g, 0, none⟩) n cap) n (acc.map encS)) : W.ownsRow B 9 1 (.slice (some ⟨g, 0, none⟩) (n - 1) cap) (n - 1) (acc.dropLast.map encS) := by
  obtain ⟨h0, h1⟩ := h
  have hl : acc.length = n := by rw [List.length_map] at h0; omega
  refine ⟨by rw [List.length_map, List.length_dropLast, hl]; omega, ?_⟩
  rcases h1 with ⟨e, _⟩ | ⟨g', cap', cur, e, h2, h3, h4, h5, h6, h7⟩
  · injection e with e1 _ _
    cases e1
  · injection e with e1 e2 e3
    obtain rfl : cap = cap' := e3
    have e4 : g = g' := by injection e1 with e1; injection e1
    subst e4
    refine .inr ⟨g, cap, cur, rfl, h2, h3, by omega, h5, h6, ?_⟩
    have h8 := congrArg (List.take (n - 1)) h7
    rw [List.take_take, Nat.mul_one, Nat.min_eq_left (Nat.sub_le _ _)] at h8
    rw [Nat.mul_one, h8, ← List.map_take, List.dropLast_eq_take, hl]
theorem slice_less (g m c : Nat) (hm : 0 < m) (hc : m ≤ c) (W : World) : (Instr.slice 48 (.slice (some ⟨g, 0, none⟩) m c) none (some (.int .i64 ((m : Int) - 1))) none).run Tryz.prog W = .ok (.slice (some ⟨g, 0, none⟩) (m - 1) c) W := by
  obtain ⟨i0, hi, hz0, hz1, hz2⟩ := info_parts info_str
  have hel : Tryz.prog.elem 48 = 9 := by simp [Program.elem, Tryz.underlying48]
  have hu : Tryz.prog.underlying 48 = some (.slice (Tryz.prog.elem 48)) := by rw [hel]; exact Tryz.underlying48
  rw [show ((m : Int) - 1) = ((m - 1 : Nat) : Int) by omega, run_slice_h W 48 (some ⟨g, 0, none⟩) m c hu .i64 ((m - 1 : Nat) : Int) (by omega) (by omega), hel]
  simp [sizeOf, typeInfo, hi, hz1, sliced, Result.andThen]
  intro _
  rfl
theorem join_any (acc : List (List UInt8)) (v : Value) (B : Nat) (w : World) (h : w.ownsRow B 9 1 v acc.length (acc.map encS)) (hl : acc.length ≤ 1001) (hs : ∀ p ∈ acc, p.length ≤ 1000) :
    Calls Tryz.prog 95 #[v, .string ⟨#[47]⟩] w fun e w' => e = .returned (.string ⟨(Lib.join acc [47]).toArray⟩) ∧ Below w.heap.size w w' := by
  have hj := join_len 1000 acc hs
  by_cases ha : acc = []
  · subst ha
    obtain ⟨A, c, rfl⟩ := own_slice h
    exact (Tryz.strings_Join_none A c ⟨#[47]⟩ w).mono (fun e w' h => ⟨h.1, by rw [h.2]; exact Below.refl _ _⟩)
  · have hp : 0 < acc.length := List.length_pos_iff.2 ha
    rcases h.2 with ⟨_, h0⟩ | ⟨g, cap, cur, rfl, _, hg, hc, hm, hz, ht⟩
    · omega
    · obtain ⟨xs, hx⟩ : ∃ xs : List ByteArray, xs = acc.map fun p => (⟨p.toArray⟩ : ByteArray) := ⟨_, rfl⟩
      have hxl : xs.length = acc.length := by rw [hx, List.length_map]
      have hxm : xs.map (·.data.toList) = acc := by
        rw [hx, List.map_map]
        conv => rhs; rw [← List.map_id acc]
        exact List.map_congr_left (fun p _ => by simp)
      have hjb := Nat.mul_le_mul_right 1001 hl
      have hcell : ∀ (j : Nat) x, xs[j]? = some x → w.cell? ⟨g, 0 + j, none⟩ = some (.string x) := fun j x hj => by
        have hjl : j < acc.length := by rw [← hxl]; exact (List.getElem?_eq_some_iff.1 hj).1
        rw [Nat.zero_add, blk_cell hg j, ← Array.getElem?_toList]
        have h1 := congrArg (·[j]?) ht
        simp only [List.getElem?_take, List.getElem?_map] at h1
        rw [if_pos (by omega)] at h1
        rw [h1]
        rw [hx, List.getElem?_map] at hj
        cases ha : acc[j]? with
        | none => rw [ha] at hj; cases hj
        | some p =>
          rw [ha] at hj
          have := Option.some.inj hj
          rw [← this]
          rfl
      have := Tryz.strings_Join g 0 cap xs ⟨#[47]⟩ w hcell (blk_lt hg) (by omega) (by omega) (by rw [hxm]; show (Lib.join acc [47]).length ≤ _; omega)
      rw [hxl, hxm] at this
      exact this
end Go.Proofs.YtononoakdebjeaaGreatDoor.Path
namespace Go.Proofs.YtononoakdebjeaaGreatDoor.Path
open Go.RowKit Go.Proofs.YtononoakdebjeaaGreatDoorW.PrintWords Go.Proofs.YtononoakdebjeaaGreatDoorW.PrintLast Go.Proofs.YtononoakdebjeaaGreatDoor.Base
set_option linter.unusedVariables false
set_option linter.unusedSimpArgs false
attribute [local go_sem] Oper.semAt_some
def CleanP (s : ByteArray) (e : Ending) : Prop := e = .returned (.tuple #[.string ⟨(cleanV s).1.toArray⟩, .int .i64 ((cleanV s).2 : Int)])
set_option maxRecDepth 100000 in
set_option maxHeartbeats 4000000 in
theorem clean_any (s : ByteArray) (w : World) (hs : s.size ≤ maxLen) :
    Calls Tryz.prog 82 #[.string s] w fun e w' => CleanP s e ∧ Below w.heap.size w w' := by
  simp only [maxLen] at hs
  have hpx := Tryz.strings_HasPrefix s ⟨#[47]⟩
  obtain ⟨pb, hpb⟩ : ∃ pb, pb = Lib.hasPrefix s.data.toList [47] := ⟨_, rfl⟩
  have HPX : Hid (∀ w : World, Calls Tryz.prog 90 #[.string s, .string ⟨#[47]⟩] w fun e w' => e = .returned (.bool pb) ∧ w' = w) := by rw [hpb]; exact hpx
  have HPB := Lib.hid hpb
  clear hpx hpb
  by_cases h1000 : 1000 < s.size
  · have d1 : decide ((1000 : Int) < (s.size : Int)) = true := decide_eq_true (by omega)
    have HCV : Hid (cleanV s = ([], 3)) := by show _ = _; unfold cleanV; rw [if_pos h1000]
    clear h1000
    go_enter Tryz.func82, Tryz.ntmps82
    go_wp2
    go_step3
    go_wp2_with fail
    rw [Exit.noGoto_ret]
    refine bodyPost_ret (v := .tuple #[.string ⟨#[]⟩, .int .i64 3]) (by simp [results, Tryz.results82, go_sem]) rfl ?_
    exact ⟨by unfold CleanP; rw [HCV.out]; rfl, (below_alloc (below_alloc (Below.refl _ _) _) _).trans (Below.refl _ _)⟩
  · have d1 : decide ((1000 : Int) < (s.size : Int)) = false := decide_eq_false (by omega)
    cases pb with
    | true =>
      go_enter Tryz.func82, Tryz.ntmps82
      go_wp2
      go_step3
      go_wp2_with fail
      refine (HPX.out _).mono ?_
      rintro e w1 ⟨rfl, rfl⟩
      go_wp2_with fail
      rw [Exit.noGoto_ret]
      have HCV : Hid (cleanV s = ([], 5)) := by show _ = _; unfold cleanV; rw [if_neg h1000, if_pos (.inl HPB.out.symm)]
      refine bodyPost_ret (v := .tuple #[.string ⟨#[]⟩, .int .i64 5]) (by simp [results, Tryz.results82, go_sem]) rfl ?_
      exact ⟨by unfold CleanP; rw [HCV.out]; rfl, below_alloc (below_alloc (Below.refl _ _) _) _⟩
    | false =>
      obtain ⟨i, hi⟩ : ∃ i, i = badAt s := ⟨_, rfl⟩
      have HI : Hid (∀ w : World, Calls Tryz.prog 91 #[.string s, .func (.func 92) #[] #[]] w fun e w' => e = .returned (.int .i64 i) ∧ Below w.heap.size w w') := by rw [hi]; exact bad_any s
      obtain ⟨x, hx⟩ : ∃ x, x = w.heap.size := ⟨_, rfl⟩
      have HX := Lib.hid hx
      obtain ⟨W0, hW0⟩ : ∃ W0, W0 = (w.alloc (.cells #[.string ⟨#[]⟩] 9)).alloc (.cells #[.int .i64 0] 31) := ⟨_, rfl⟩
      have hb0 : Below w.heap.size w W0 := by rw [hW0]; exact below_alloc (below_alloc (Below.refl _ _) _) _
      have hr1 : W0.heap[x + 1]? = some (.cells #[.int .i64 0] 31 (0, 0)) := by
        rw [hW0]
        have h := blk_new (w.alloc (.cells #[.string ⟨#[]⟩] 9)) (.cells #[.int .i64 0] 31)
        rw [World.size_alloc, ← hx] at h
        exact h
      have hr0 : W0.heap[x]? = some (.cells #[.string ⟨#[]⟩] 9 (0, 0)) := by
        rw [hW0]
        have h := blk_new w (.cells #[.string ⟨#[]⟩] 9)
        rw [← hx] at h
        exact ((below_alloc (Below.refl _ _) (.cells #[.int .i64 0] 31)).block _ (blk_lt h)).trans h
      have HB0 := Lib.hid hb0
      have HR0 := Lib.hid hr0
      have HR1 := Lib.hid hr1
      have HW0 := Lib.hid hW0
      by_cases hin : 0 ≤ i
      · have d2 : decide (0 ≤ i) = true := decide_eq_true hin
        have HCV : Hid (cleanV s = ([], 5)) := by show _ = _; unfold cleanV; rw [if_neg h1000, if_pos (.inr (by rw [← hi]; exact hin))]
        clear hi hx hW0 hb0 hr0 hr1
        go_enter Tryz.func82, Tryz.ntmps82
        go_wp2
        go_step3
        go_wp2_with fail
        refine (HPX.out _).mono ?_
        rintro e w1 ⟨rfl, rfl⟩
        go_wp2_with fail
        rw [← HW0.out, ← HX.out]
        refine (HI.out _).mono ?_
        rintro e w1 ⟨rfl, b1⟩
        have HB1 := Lib.hid b1
        have R0 : Hid (w1.heap[x]? = _) := (b1.block _ (blk_lt HR0.out)).trans HR0.out
        have R1 : Hid (w1.heap[x + 1]? = _) := (b1.block _ (blk_lt HR1.out)).trans HR1.out
        have f0 := blk_frozen R0.out 0
        have f1 := blk_frozen R1.out 0
        have p0 := blk_cell R0.out 0
        have p1 := blk_cell R1.out 0
        clear b1
        go_wp2_with fail
        rw [Exit.noGoto_ret]
        have R0' := blk_set R0.out 0 (.string ⟨#[]⟩)
        have R1' : (w1.setCell ⟨x, 0, none⟩ (.string ⟨#[]⟩)).heap[x + 1]? = _ := blk_far R1.out (by show x + 1 ≠ x; omega) (.string ⟨#[]⟩)
        have R1'' := blk_set R1' 0 (.int .i64 5)
        have R0'' : ((w1.setCell ⟨x, 0, none⟩ (.string ⟨#[]⟩)).setCell ⟨x + 1, 0, none⟩ (.int .i64 5)).heap[x]? = _ := blk_far R0' (by show x ≠ x + 1; omega) (.int .i64 5)
        have k0 := blk_cell R0'' 0
        have k1 := blk_cell R1'' 0
        refine bodyPost_ret (v := .tuple #[.string ⟨#[]⟩, .int .i64 5]) (by simp [results, Tryz.results82, go_sem, k0, k1]) rfl ?_
        exact ⟨by unfold CleanP; rw [HCV.out]; rfl, ((HB0.out.trans (HB1.out.mono HB0.out.size)).setCell (by show w.heap.size ≤ x; rw [HX.out]; exact Nat.le_refl _) _).setCell (by show w.heap.size ≤ x + 1; rw [HX.out]; omega) _⟩
      · have d2 : decide (0 ≤ i) = false := decide_eq_false hin
        have HCV : Hid (cleanV s = (match foldC [] (partsL s.data.toList) with
            | none => ([], 5)
            | some acc => if Lib.join acc [47] = [] then ([], 5) else if 100 < (Lib.join acc [47]).length then ([], 3) else (Lib.join acc [47], 0))) := by
          show _ = _
          unfold cleanV
          have hno : ¬ (Lib.hasPrefix s.data.toList [47] = true ∨ 0 ≤ badAt s) := by
            rintro (h | h)
            · rw [← HPB.out] at h; cases h
            · rw [← hi] at h; exact hin h
          rw [if_neg h1000, if_neg hno]
          all_goals rfl
        clear hi hx hW0 hb0 hr0 hr1
        refine (callsIn_wide (n := 5)).1 ?_
        refine callsIn_of_wp_marks Tryz.func82 rfl trivial ?_ rfl
        simp only [Tryz.ntmps82, List.size_toArray, List.length_cons, List.length_nil, Nat.reduceAdd, Nat.reduceSub, Array.replicate_succ, Array.replicate_zero, List.push_toArray, List.append_toArray, List.nil_append, List.cons_append]
        refine wpIn_wide.2 ?_
        go_wp2
        go_step3
        go_wp2_with fail
        refine (HPX.out _).mono ?_
        rintro e w1 ⟨rfl, rfl⟩
        go_wp2_with fail
        rw [← HW0.out, ← HX.out]
        refine (HI.out _).mono ?_
        rintro e w1 ⟨rfl, b1⟩
        have HB1 := Lib.hid b1
        have R0 : Hid (w1.heap[x]? = _) := (b1.block _ (blk_lt HR0.out)).trans HR0.out
        have R1 : Hid (w1.heap[x + 1]? = _) := (b1.block _ (blk_lt HR1.out)).trans HR1.out
        clear b1
        go_wp2_with fail
        go_step3
        go_wp2_with fail
        obtain ⟨px, hpx⟩ : ∃ px, w1.heap.size = px := ⟨_, rfl⟩
        rw [hpx]
        refine (split_any s ⟨#[47]⟩ _).mono ?_
        rintro e w2 ⟨rfl, rfl⟩
        rw [World.size_alloc, hpx]
        go_wp2_with fail
        obtain ⟨W1, hW1⟩ : ∃ W1, W1 = (((w1.alloc (.cells #[.slice none 0 0] 48)).alloc (.cells #[.string s] 9)).alloc (.cells #[.string ⟨#[47]⟩] 9)).alloc (.cells #[.int .i64 0] 3) := ⟨_, rfl⟩
        rw [← hW1]
        have a1 := below_alloc (Below.refl w1.heap.size w1) (.cells #[.slice none 0 0] 48)
        have a2 := below_alloc a1 (.cells #[.string s] 9)
        have a3 := below_alloc a2 (.cells #[.string ⟨#[47]⟩] 9)
        have a4 := below_alloc a3 (.cells #[.int .i64 0] 3)
        have z1 : (w1.alloc (.cells #[.slice none 0 0] 48)).heap.size = px + 1 := by simp [hpx]
        have z2 : ((w1.alloc (.cells #[.slice none 0 0] 48)).alloc (.cells #[.string s] 9)).heap.size = px + 2 := by simp [hpx]
        have z3 : (((w1.alloc (.cells #[.slice none 0 0] 48)).alloc (.cells #[.string s] 9)).alloc (.cells #[.string ⟨#[47]⟩] 9)).heap.size = px + 3 := by simp [hpx]
        have z4 : W1.heap.size = px + 4 := by rw [hW1]; simp [hpx]
        have g3 : W1.heap[px + 3]? = some (.cells #[.int .i64 0] 3 (0, 0)) := by
          rw [hW1, ← z3]; exact blk_new _ _
        have g2 : W1.heap[px + 2]? = some (.cells #[.string ⟨#[47]⟩] 9 (0, 0)) := by
          rw [hW1]
          have h := blk_new ((w1.alloc (.cells #[.slice none 0 0] 48)).alloc (.cells #[.string s] 9)) (.cells #[.string ⟨#[47]⟩] 9)
          rw [z2] at h
          exact ((below_alloc (Below.refl _ _) _).block _ (blk_lt h)).trans h
        have g1 : W1.heap[px + 1]? = some (.cells #[.string s] 9 (0, 0)) := by
          rw [hW1]
          have h := blk_new (w1.alloc (.cells #[.slice none 0 0] 48)) (.cells #[.string s] 9)
          rw [z1] at h
          have h2 := ((below_alloc (Below.refl _ _) (.cells #[.string ⟨#[47]⟩] 9)).block _ (blk_lt h)).trans h
          exact ((below_alloc (Below.refl _ _) _).block _ (blk_lt h2)).trans h2
        have g0 : W1.heap[px]? = some (.cells #[.slice none 0 0] 48 (0, 0)) := by
          rw [hW1]
          have h := blk_new w1 (.cells #[.slice none 0 0] 48)
          rw [hpx] at h
          have h2 := ((below_alloc (Below.refl _ _) (.cells #[.string s] 9)).block _ (blk_lt h)).trans h
          have h3 := ((below_alloc (Below.refl _ _) (.cells #[.string ⟨#[47]⟩] 9)).block _ (blk_lt h2)).trans h2
          exact ((below_alloc (Below.refl _ _) _).block _ (blk_lt h3)).trans h3
        have hb4 : Below w1.heap.size w1 W1 := by rw [hW1]; exact a4
        have hxp : x + 1 < px := by rw [← hpx]; exact blk_lt R1.out
        have hbw : Below w.heap.size w W1 := (HB0.out.trans (HB1.out.mono HB0.out.size)).trans (hb4.mono (HB0.out.trans (HB1.out.mono HB0.out.size)).size)
        have hwx : w.heap.size ≤ px := by rw [← hpx]; exact (HB0.out.trans (HB1.out.mono HB0.out.size)).size
        have hpi : PI w (px + 4) x px [] W1 := ⟨⟨[], _, rfl, g0, own_nil _ _ _ _⟩, (hb4.block _ (blk_lt R0.out)).trans R0.out, (hb4.block _ (blk_lt R1.out)).trans R1.out, hbw, by rw [z4]; exact Nat.le_refl _⟩
        have HPI := Lib.hid hpi
        have HWX := Lib.hid hwx
        have HSB := Lib.hid (split_box 4 (px + 1) s W1 (by omega) (by omega) g1 g2 g3)
        have HZ4 := Lib.hid z4
        have G1 := Lib.hid g1
        have G2 := Lib.hid g2
        have G3 := Lib.hid g3
        clear a1 a2 a3 a4 z1 z2 z3 z4 g0 g1 g2 g3 hb4 hW1 hbw hwx hpx hpi
        refine (wpIn_wide (n := 5)).1 ?_
        refine wpIn_rangeFunc_box rfl (by omega) (gf := 125) (lb := #[.pointer (some ⟨px + 1 + 1, 0, none⟩), .pointer (some ⟨px + 1, 0, none⟩), .pointer (some ⟨px + 1 + 2, 0, none⟩)]) rfl trivial (enters_of Tryz.func125 (by kernel_rfl) rfl)
          (sb := px + 1) (by rw [HZ4.out]; omega) HSB.out (fun h k => ⟨Nat.le_trans h.1 k.1, fun q h1 h2 => (k.2 q h1 h2).trans (h.2 q h1 h2)⟩) ?kb (fun _ => rfl)
          (PI w (px + 4) x px) (fun c pre W => c = .ret ∧ foldC [] (partsL s.data.toList) = none ∧ RI w x pre W) (PI.own (by rw [HZ4.out]; omega) hxp (by rw [HZ4.out]; have := HWX.out; omega)) ?oix (PI.lets (by omega) (by omega) hxp (by have := HWX.out; omega)) ?lix HPI.out
          (fun k => { tmps := #[Value.string s, undef, Value.pointer (some { block := x, off := 0 }), Value.pointer (some { block := x + 1, off := 0 }), Value.pointer (some { block := px, off := 0 }), Value.string ⟨k.toArray⟩, undef, Value.bool false, Value.string s, Value.int IntKind.i64 s.size, Value.bool false, Value.bool false, Value.string s, Value.bool false, Value.string s, Value.int IntKind.i64 i, Value.bool false, Value.string s,
            .func (.func 125) #[] #[.pointer (some ⟨px + 1 + 1, 0, none⟩), .pointer (some ⟨px + 1, 0, none⟩), .pointer (some ⟨px + 1 + 2, 0, none⟩)],
            Value.string ⟨k.toArray⟩, undef, undef, undef, undef, undef, undef, undef, undef, undef, undef, undef, undef, undef, undef, undef, undef, undef, undef, undef, undef, undef, undef, undef, undef, undef, undef, undef, undef], defers := [] }) ?assign ?body ?done ?stop
        case kb =>
          intro W l o o' hl ho _ _
          exact ⟨by simp [World.putObj], fun k h1 h2 => World.putObj_heap_other (by have := HZ4.out; omega)⟩
        case oix => rintro c s A A' row ⟨h1, h3, h2⟩ hg hr; exact ⟨h1, h3, RI.own (by rw [HZ4.out]; omega) (by rw [HZ4.out]; have := HWX.out; omega) _ _ _ _ h2 hg hr⟩
        case lix => rintro c s A A' ⟨h1, h3, h2⟩ hg; exact ⟨h1, h3, RI.lets (by omega) (by have := HWX.out; omega) _ _ _ h2 hg⟩
        case assign =>
          intro l k W K hK
          unfold penc
          gi_wp2
          exact hK
        case body =>
          rintro l pre k W ⟨⟨acc, v, hf, hv, hown⟩, r0, r1, hbw, hsz⟩ hpr
          have HSZ := Lib.hid hsz
          obtain ⟨i0, hi, hz0, hz1, hz2⟩ := info_parts info_str
          have hacc : acc.length ≤ 1001 := by
            have h1 := foldC_len hf
            have h2 := partsL_len s.data.toList
            have h3 := hpr.length_le
            have h4 : s.data.toList.length = s.size := rfl
            rw [List.length_append, List.length_singleton] at h3
            simp only [List.length_nil] at h1
            omega
          have hstep : foldC [] (pre ++ [k]) = stepC acc k := by rw [foldC_append, hf]; exact foldC_one acc k
          have hc := blk_cell hv 0
          have hfr := blk_frozen hv 0
          have HF := Lib.hid hstep
          have HV := Lib.hid hv
          have HO := Lib.hid hown
          have R0' := Lib.hid r0
          have R1' := Lib.hid r1
          have HBW := Lib.hid hbw
          have same : ∀ a, foldC [] (pre ++ [k]) = some a → a = acc → ownPostK (Kb (px + 1)) (PI w (px + 4) x px) (fun c pre W => c = .ret ∧ foldC [] (partsL s.data.toList) = none ∧ RI w x pre W) (pre ++ [k]) W .normal { tmps := #[], defers := [] } W := fun a h1 h2 =>
            ⟨KeepsOthers.refl W, ⟨Nat.le_refl _, fun _ _ _ => rfl⟩, ⟨acc, v, by rw [h1, h2], hv, hown⟩, r0, r1, hbw, hsz⟩
          have HSAME := Lib.hid same
          have HPR := Lib.hid hpr
          clear same hstep hf hv hown r0 r1 hbw hpr hsz
          by_cases k0 : k = []
          · have e0 : k.isEmpty = true := by rw [k0]; rfl
            have HS : Hid (stepC acc k = some acc) := by show _ = _; unfold stepC; rw [if_pos (.inl k0)]
            clear k0
            gi_wp2
            exact HSAME.out acc (HF.out.trans HS.out) rfl
          have e0 : k.isEmpty = false := by cases k with | nil => exact absurd rfl k0 | cons _ _ => rfl
          by_cases k1 : k = [46]
          · have e1 : (k == [46]) = true := beq_iff_eq.2 k1
            have HS : Hid (stepC acc k = some acc) := by show _ = _; unfold stepC; rw [if_pos (.inr k1)]
            clear k0 k1
            gi_wp2
            exact HSAME.out acc (HF.out.trans HS.out) rfl
          have e1 : (k == [46]) = false := beq_eq_false_iff_ne.2 k1
          have hns : ¬ (k = [] ∨ k = [46]) := fun h => h.elim k0 k1
          by_cases k2 : k = [46, 46]
          · have e2 : (k == [46, 46]) = true := beq_iff_eq.2 k2
            by_cases ha : acc = []
            · have HS : Hid (stepC acc k = none) := by show _ = _; unfold stepC; rw [if_neg hns, if_pos k2, if_pos ha]
              subst ha
              obtain ⟨A, c, rfl⟩ := own_slice HO.out
              simp only [List.length_nil] at hc
              have p0 := blk_cell R0'.out 0
              have p1 := blk_cell R1'.out 0
              have f0 := blk_frozen R0'.out 0
              have f1 := blk_frozen R1'.out 0
              have p1' := blk_cell (blk_far (p := ⟨x, 0, none⟩) R1'.out (by show x + 1 ≠ x; omega) (.string ⟨#[]⟩)) 0
              clear k0 k1 k2 hns
              gi_wp2
              have q0 := blk_set R0'.out 0 (.string ⟨#[]⟩)
              have q1 := blk_set (blk_far (p := ⟨x, 0, none⟩) R1'.out (by show x + 1 ≠ x; omega) (.string ⟨#[]⟩)) 0 (.int .i64 5)
              have q0' := blk_far (p := ⟨x + 1, 0, none⟩) q0 (by show x ≠ x + 1; omega) (.int .i64 5)
              exact ⟨(KeepsOthers.setCell W ⟨x, 0, none⟩ _).trans (KeepsOthers.setCell _ ⟨x + 1, 0, none⟩ _), rfl, foldC_none (HF.out.trans HS.out) HPR.out, HF.out.trans HS.out, q0', q1, (HBW.out.setCell (by show w.heap.size ≤ x; rw [HX.out]; exact Nat.le_refl _) _).setCell (by show w.heap.size ≤ x + 1; rw [HX.out]; omega) _⟩
            · have HS : Hid (stepC acc k = some acc.dropLast) := by show _ = _; unfold stepC; rw [if_neg hns, if_pos k2, if_neg ha]
              have hlp : 0 < acc.length := List.length_pos_iff.2 ha
              obtain ⟨A, c, rfl⟩ := own_slice HO.out
              obtain ⟨m, hm⟩ : ∃ m, m = acc.length := ⟨_, rfl⟩
              rw [← hm] at hc hlp hacc
              have hO := HO.out
              rw [← hm] at hO
              have hV := HV.out
              rw [← hm] at hV
              obtain ⟨g, rfl⟩ : ∃ g, A = some ⟨g, 0, none⟩ := by
                rcases hO.2 with ⟨_, h0⟩ | ⟨g, cap, cur, e, _⟩
                · omega
                · injection e with e1 _ _
                  exact ⟨g, e1⟩
              have hmc : m ≤ c := own_le hO
              have hcm : c ≤ 9223372036854775807 := by
                rcases hO.2 with ⟨_, h0⟩ | ⟨g', cap, cur, e, _, _, _, h5, _⟩
                · omega
                · injection e with _ _ e3
                  rw [e3]; simpa [maxLen] using h5
              have hO2 := Lib.hid (own_less hO)
              have HV2 := Lib.hid hV
              have HM := Lib.hid hm
              have b1 : ((m : Int) == 0) = false := by rw [beq_eq_false_iff_ne]; omega
              have hsl : ∀ W : World, (Instr.slice 48 (.slice (some ⟨g, 0, none⟩) m c) none (some (.int .i64 ((m : Int) - 1))) none).run Tryz.prog W = .ok (.slice (some ⟨g, 0, none⟩) (m - 1) c) W := slice_less g m c hlp hmc
              clear k0 k1 k2 hns ha hO hV hm
              gi_wp2
              have q := blk_set HV2.out 0 (.slice (some ⟨g, 0, none⟩) (m - 1) c)
              refine ⟨KeepsOthers.setCell W ⟨px, 0, none⟩ _, ⟨by simp, fun k h1 h2 => Below.heap_setCell _ _ _ _ (by show k ≠ px; omega)⟩, ⟨⟨acc.dropLast, _, HF.out.trans HS.out, q, ?_⟩, ?_, ?_, ?_, by simpa using HSZ.out⟩⟩
              · rw [List.length_dropLast, ← HM.out]
                exact own_setCell hO2.out (fun e => by
                  have := own_base hO2.out px e.symm
                  omega) _
              · exact blk_far (p := ⟨px, 0, none⟩) R0'.out (by show x ≠ px; omega) _
              · exact blk_far (p := ⟨px, 0, none⟩) R1'.out (by show x + 1 ≠ px; omega) _
              · exact HBW.out.setCell HWX.out _
          · have e2 : (k == [46, 46]) = false := beq_eq_false_iff_ne.2 k2
            have HS : Hid (stepC acc k = some (acc ++ [k])) := by show _ = _; unfold stepC; rw [if_neg hns, if_neg k2]
            obtain ⟨A, c, rfl⟩ := own_slice HO.out
            obtain ⟨m, hm⟩ : ∃ m, m = acc.length := ⟨_, rfl⟩
            rw [← hm] at hc hacc
            have hO := HO.out
            rw [← hm] at hO
            have hV := HV.out
            rw [← hm] at hV
            have HO2 := Lib.hid hO
            have HV2 := Lib.hid hV
            have HM := Lib.hid hm
            have HWW := HSZ
            clear k0 k1 k2 hns hO hV hm
            gi_wp2_with (gi_at_builtin; refine Held.of ?_)
            refine Held.out (wpListIn_append_own _ rfl _ _ 48 rfl (px + 4) 9 i0 (.string ⟨#[]⟩) 1 16 Tryz.underlying48 hi hz0 hz1 hz2 rfl (by decide) _ _ _ rfl (HO2.out.alloc _) ⟨W.heap.size, 0, none⟩ 1 1 [.string ⟨k.toArray⟩] rfl rfl (cell_one_new _ _ _) (by simp [Value.oneCell']) (by simp only [maxLen]; omega) (by omega) (by have := HWW.out; simp; omega) ?_)
            intro v' w3 hown' hg3 hnil3
            have hne : some px ≠ (Value.slice A m c).ownBlock := fun e => by
              have := own_base HO2.out px e.symm
              omega
            have hgW : W.grownBy w3 (Value.slice A m c).ownBlock := (World.grownBy_alloc W _ _).trans hg3
            have hv3 := blk_grown HV2.out hgW hne
            have p3 := blk_cell hv3 0
            have f3 := blk_frozen hv3 0
            obtain ⟨g, cap, rfl⟩ : ∃ g cap, v' = .slice (some ⟨g, 0, none⟩) (m + 1) cap := ownsRow_succ hown'
            have HW3 := Lib.hid hgW
            have HO3 := Lib.hid hown'
            have HV3 := Lib.hid hv3
            clear hgW hown' hv3 hg3 hnil3 hne
            gi_wp2
            have q := blk_set HV3.out 0 (.slice (some ⟨g, 0, none⟩) (m + 1) cap)
            have hlow : ∀ k, k < px + 4 → w3.heap[k]? = W.heap[k]? := fun k hk => HW3.out.block k (by have := HSZ.out; omega) (fun e => by
              have := own_base HO2.out k e.symm
              omega)
            have hKO : KeepsOthers W w3 := KeepsOthers.of_grownBy HW3.out (fun j o hj ho => by
              obtain ⟨cells, hcl⟩ := own_typed HO2.out j hj
              rw [ho] at hcl
              cases hcl
              rfl)
            refine ⟨hKO.trans (KeepsOthers.setCell _ ⟨px, 0, none⟩ _), ⟨?_, fun k h1 h2 => (Below.heap_setCell _ _ _ _ (by show k ≠ px; omega)).trans (hlow k (by omega))⟩, ⟨⟨acc ++ [k], _, HF.out.trans HS.out, q, ?_⟩, ?_, ?_, ?_, ?_⟩⟩
            · have := HW3.out.size
              simpa using this
            · rw [List.length_append, List.length_singleton, ← HM.out, List.map_append]
              exact own_setCell HO3.out (fun e => by
                have := own_base HO3.out px e.symm
                omega) _
            · exact (Below.heap_setCell _ _ _ _ (by show x ≠ px; omega)).trans ((hlow x (by omega)).trans R0'.out)
            · exact (Below.heap_setCell _ _ _ _ (by show x + 1 ≠ px; omega)).trans ((hlow (x + 1) (by omega)).trans R1'.out)
            · refine (HBW.out.grown HW3.out HBW.out.size (fun k e => ?_)).setCell HWX.out _
              have := own_base HO2.out k e
              have := HWX.out
              omega
            · have h1 := HW3.out.size
              have h2 := HSZ.out
              simp
              omega
        case done =>
          rintro Dd xs W hDd rfl hpi hKD
          have HKD := Lib.hid hKD
          have HD := Lib.hid hDd
          obtain ⟨⟨acc, v, hf, hv, hown⟩, r0, r1, hbw, hsz⟩ := hpi
          have hlen : acc.length ≤ 1001 := by
            have h1 := foldC_len hf
            have h2 := partsL_len s.data.toList
            have h4 : s.data.toList.length = s.size := rfl
            simp only [List.length_nil] at h1
            omega
          have hsz0 : ∀ p ∈ acc, p.length ≤ 1000 := foldC_size hf (fun p hp => by cases hp) (fun p hp => by
            have h1 := partsL_size s.data.toList p hp
            have h4 : s.data.toList.length = s.size := rfl
            omega)
          have HJ := Lib.hid (join_any acc v (px + 4) W hown hlen hsz0)
          have pv := blk_cell hv 0
          obtain ⟨A, c, rfl⟩ := own_slice hown
          obtain ⟨o, ho⟩ : ∃ o, o = Lib.join acc [47] := ⟨_, rfl⟩
          have HJ : Hid (Calls Tryz.prog 95 #[.slice A acc.length c, .string ⟨#[47]⟩] W fun e w' => e = .returned (.string ⟨o.toArray⟩) ∧ Below W.heap.size W w') := by rw [ho]; exact HJ.out
          have HCO : Hid (cleanV s = if o = [] then ([], 5) else if 100 < o.length then ([], 3) else (o, 0)) := by show _ = _; rw [HCV.out, hf, ho]
          have hdx : x + 1 < Dd ∧ w.heap.size ≤ Dd := by have h1 := HZ4.out; have h2 := HWX.out; omega
          have HR0 := Lib.hid r0
          have HR1 := Lib.hid r1
          have HBW := Lib.hid hbw
          have HDX := Lib.hid hdx
          clear hv hown hlen hsz0 ho hf hDd hKD r0 r1 hbw hsz hdx
          go_wp2_with fail
          refine HJ.out.mono ?_
          rintro e W5 ⟨rfl, b5⟩
          have HB5 := Lib.hid b5
          have S0 : Hid (W5.heap[x]? = _) := (b5.block _ (blk_lt HR0.out)).trans HR0.out
          have S1 : Hid (W5.heap[x + 1]? = _) := (b5.block _ (blk_lt HR1.out)).trans HR1.out
          have hk5 : W5.heap[Dd]? = some (.deferred (some [])) := (b5.block _ (blk_lt HKD.out)).trans HKD.out
          have HK5 := Lib.hid hk5
          have c0 := blk_cell S0.out 0
          have c1 := blk_cell S1.out 0
          have f0 := blk_frozen S0.out 0
          have f1 := blk_frozen S1.out 0
          clear b5 hk5 pv
          by_cases o0 : o = []
          · have e0 : o.isEmpty = true := by rw [o0]; rfl
            have HCO2 : Hid (cleanV s = ([], 5)) := by show _ = _; rw [HCO.out, if_pos o0]
            clear o0
            go_wp2_with fail
            have q0a := blk_set S0.out 0 (.string ⟨#[]⟩)
            have q1a := blk_far (p := ⟨x, 0, none⟩) S1.out (by show x + 1 ≠ x; omega) (.string ⟨#[]⟩)
            have q1 := blk_set q1a 0 (.int .i64 5)
            have q0 := blk_far (p := ⟨x + 1, 0, none⟩) q0a (by show x ≠ x + 1; omega) (.int .i64 5)
            have hk6 := (Below.heap_setCell (W5.setCell ⟨x, 0, none⟩ (.string ⟨#[]⟩)) ⟨x + 1, 0, none⟩ (.int .i64 5) Dd (by show Dd ≠ x + 1; have := HDX.out.1; omega)).trans ((Below.heap_setCell W5 ⟨x, 0, none⟩ (.string ⟨#[]⟩) Dd (by show Dd ≠ x; have := HDX.out.1; omega)).trans HK5.out)
            have hbl : Below w.heap.size w ((W5.setCell ⟨x, 0, none⟩ (.string ⟨#[]⟩)).setCell ⟨x + 1, 0, none⟩ (.int .i64 5)) := ((HBW.out.trans (HB5.out.mono HBW.out.size)).setCell (by show w.heap.size ≤ x; rw [HX.out]; exact Nat.le_refl _) _).setCell (by show w.heap.size ≤ x + 1; rw [HX.out]; omega) _
            rw [Exit.noGoto_ret]
            refine ⟨by simp, .inl ⟨_, _, rfl, run_takeDeferred hk6, ?_⟩⟩
            have u0 := (World.putObj_heap_other (w := _) (r := Dd) (o := .deferred none) (show x ≠ Dd by have := HDX.out.1; omega)).trans q0
            have u1 := (World.putObj_heap_other (w := _) (r := Dd) (o := .deferred none) (show x + 1 ≠ Dd by have := HDX.out.1; omega)).trans q1
            have k0 := blk_cell u0 0
            have k1 := blk_cell u1 0
            refine ⟨.tuple #[.string ⟨#[]⟩, .int .i64 5], by simp [results, Tryz.results82, go_sem, k0, k1], ?_⟩
            exact ⟨by unfold CleanP; rw [HCO2.out]; rfl, hbl.grown (grownBy_putObj' _ Dd _) hbl.size (fun k e => by cases e; exact HDX.out.2)⟩
          have e0 : o.isEmpty = false := by cases o with | nil => exact absurd rfl o0 | cons _ _ => rfl
          obtain ⟨ol, hol⟩ : ∃ ol, ol = o.length := ⟨_, rfl⟩
          by_cases o1 : 100 < o.length
          · have e1 : decide (100 < (o.length : Int)) = true := decide_eq_true (by omega)
            have HCO2 : Hid (cleanV s = ([], 3)) := by show _ = _; rw [HCO.out, if_neg o0, if_pos o1]
            clear o0 o1 hol
            go_wp2_with fail
            have q0a := blk_set S0.out 0 (.string ⟨#[]⟩)
            have q1a := blk_far (p := ⟨x, 0, none⟩) S1.out (by show x + 1 ≠ x; omega) (.string ⟨#[]⟩)
            have q1 := blk_set q1a 0 (.int .i64 3)
            have q0 := blk_far (p := ⟨x + 1, 0, none⟩) q0a (by show x ≠ x + 1; omega) (.int .i64 3)
            have hk6 := (Below.heap_setCell (W5.setCell ⟨x, 0, none⟩ (.string ⟨#[]⟩)) ⟨x + 1, 0, none⟩ (.int .i64 3) Dd (by show Dd ≠ x + 1; have := HDX.out.1; omega)).trans ((Below.heap_setCell W5 ⟨x, 0, none⟩ (.string ⟨#[]⟩) Dd (by show Dd ≠ x; have := HDX.out.1; omega)).trans HK5.out)
            have hbl : Below w.heap.size w ((W5.setCell ⟨x, 0, none⟩ (.string ⟨#[]⟩)).setCell ⟨x + 1, 0, none⟩ (.int .i64 3)) := ((HBW.out.trans (HB5.out.mono HBW.out.size)).setCell (by show w.heap.size ≤ x; rw [HX.out]; exact Nat.le_refl _) _).setCell (by show w.heap.size ≤ x + 1; rw [HX.out]; omega) _
            rw [Exit.noGoto_ret]
            refine ⟨by simp, .inl ⟨_, _, rfl, run_takeDeferred hk6, ?_⟩⟩
            have u0 := (World.putObj_heap_other (w := _) (r := Dd) (o := .deferred none) (show x ≠ Dd by have := HDX.out.1; omega)).trans q0
            have u1 := (World.putObj_heap_other (w := _) (r := Dd) (o := .deferred none) (show x + 1 ≠ Dd by have := HDX.out.1; omega)).trans q1
            have k0 := blk_cell u0 0
            have k1 := blk_cell u1 0
            refine ⟨.tuple #[.string ⟨#[]⟩, .int .i64 3], by simp [results, Tryz.results82, go_sem, k0, k1], ?_⟩
            exact ⟨by unfold CleanP; rw [HCO2.out]; rfl, hbl.grown (grownBy_putObj' _ Dd _) hbl.size (fun k e => by cases e; exact HDX.out.2)⟩
          · have e1 : decide (100 < (o.length : Int)) = false := decide_eq_false (by omega)
            have HCO2 : Hid (cleanV s = (o, 0)) := by show _ = _; rw [HCO.out, if_neg o0, if_neg o1]
            clear o0 o1 hol
            go_wp2_with fail
            have q0a := blk_set S0.out 0 (.string ⟨o.toArray⟩)
            have q1a := blk_far (p := ⟨x, 0, none⟩) S1.out (by show x + 1 ≠ x; omega) (.string ⟨o.toArray⟩)
            have q1 := blk_set q1a 0 (.int .i64 0)
            have q0 := blk_far (p := ⟨x + 1, 0, none⟩) q0a (by show x ≠ x + 1; omega) (.int .i64 0)
            have hk6 := (Below.heap_setCell (W5.setCell ⟨x, 0, none⟩ (.string ⟨o.toArray⟩)) ⟨x + 1, 0, none⟩ (.int .i64 0) Dd (by show Dd ≠ x + 1; have := HDX.out.1; omega)).trans ((Below.heap_setCell W5 ⟨x, 0, none⟩ (.string ⟨o.toArray⟩) Dd (by show Dd ≠ x; have := HDX.out.1; omega)).trans HK5.out)
            have hbl : Below w.heap.size w ((W5.setCell ⟨x, 0, none⟩ (.string ⟨o.toArray⟩)).setCell ⟨x + 1, 0, none⟩ (.int .i64 0)) := ((HBW.out.trans (HB5.out.mono HBW.out.size)).setCell (by show w.heap.size ≤ x; rw [HX.out]; exact Nat.le_refl _) _).setCell (by show w.heap.size ≤ x + 1; rw [HX.out]; omega) _
            rw [Exit.noGoto_ret]
            refine ⟨by simp, .inl ⟨_, _, rfl, run_takeDeferred hk6, ?_⟩⟩
            have u0 := (World.putObj_heap_other (w := _) (r := Dd) (o := .deferred none) (show x ≠ Dd by have := HDX.out.1; omega)).trans q0
            have u1 := (World.putObj_heap_other (w := _) (r := Dd) (o := .deferred none) (show x + 1 ≠ Dd by have := HDX.out.1; omega)).trans q1
            have k0 := blk_cell u0 0
            have k1 := blk_cell u1 0
            refine ⟨.tuple #[.string ⟨o.toArray⟩, .int .i64 0], by simp [results, Tryz.results82, go_sem, k0, k1], ?_⟩
            exact ⟨by unfold CleanP; rw [HCO2.out]; rfl, hbl.grown (grownBy_putObj' _ Dd _) hbl.size (fun k e => by cases e; exact HDX.out.2)⟩
        case stop =>
          rintro Dd c pre W hDd ⟨rfl, hfn, hri⟩ hKD
          refine (wpIn_wide (n := 5)).2 ?_
          have HDX : Hid (x + 1 < Dd ∧ w.heap.size ≤ Dd) := by show _ ∧ _; have h1 := HZ4.out; have h2 := HWX.out; omega
          have HCO2 : Hid (cleanV s = ([], 5)) := by show _ = _; rw [HCV.out, hfn]
          clear hfn
          go_wp2_with fail
          rw [Exit.noGoto_ret]
          refine ⟨by simp, .inl ⟨_, _, rfl, run_takeDeferred hKD, ?_⟩⟩
          have u0 := (World.putObj_heap_other (w := W) (r := Dd) (o := .deferred none) (show x ≠ Dd by have := HDX.out.1; omega)).trans hri.r0
          have u1 := (World.putObj_heap_other (w := W) (r := Dd) (o := .deferred none) (show x + 1 ≠ Dd by have := HDX.out.1; omega)).trans hri.r1
          have k0 := blk_cell u0 0
          have k1 := blk_cell u1 0
          refine ⟨.tuple #[.string ⟨#[]⟩, .int .i64 5], by simp [results, Tryz.results82, go_sem, k0, k1], ?_⟩
          exact ⟨by unfold CleanP; rw [HCO2.out]; rfl, hri.below.grown (grownBy_putObj' _ Dd _) hri.below.size (fun k e => by cases e; exact HDX.out.2)⟩
end Go.Proofs.YtononoakdebjeaaGreatDoor.Path
namespace Go.Proofs.YtononoakdebjeaaGreatDoor.Path
open Go.RowKit Go.Proofs.YtononoakdebjeaaGreatDoorW.PrintWords Go.Proofs.YtononoakdebjeaaGreatDoorW.PrintLast Go.Proofs.YtononoakdebjeaaGreatDoor.Base
set_option linter.unusedVariables false
set_option linter.unusedSimpArgs false
theorem right_any (s : ByteArray) (w : World) (hs : s.size ≤ maxLen) :
    Calls Tryz.prog 61 #[.string s] w fun e w' => e = .returned (.bool (rightB s)) ∧ Below w.heap.size w w' := by
  obtain ⟨c, hc⟩ : ∃ c, c = (cleanV s).1 := ⟨_, rfl⟩
  obtain ⟨k, hk⟩ : ∃ k, k = (cleanV s).2 := ⟨_, rfl⟩
  have hcl : Calls Tryz.prog 82 #[.string s] w fun e w' => e = .returned (.tuple #[.string ⟨(cleanV s).1.toArray⟩, .int .i64 ((cleanV s).2 : Int)]) ∧ Below w.heap.size w w' := (clean_any s w hs).mono (fun e w' h => ⟨h.1, h.2⟩)
  rw [← hc, ← hk] at hcl
  have HCL := Lib.hid hcl
  obtain ⟨b, hb⟩ : ∃ b, b = decide (c = s.data.toList) := ⟨_, rfl⟩
  have HR : Hid (rightB s = (decide (k = 0) && b)) := by show _ = _; unfold rightB; rw [hb, hc, hk]
  have h1 : (c == s.toList) = b := by
    rw [hb, ByteArray.toList_eq]
    by_cases e : c = s.data.toList
    · rw [decide_eq_true e, beq_iff_eq.2 e]
    · rw [decide_eq_false e, beq_eq_false_iff_ne.2 e]
  by_cases hk0 : k = 0
  · have h2 : ((k : Int) == 0) = true := by rw [hk0]; rfl
    have HK : Hid (decide (k = 0) = true) := decide_eq_true hk0
    clear hcl hc hk hb hk0
    go_enter Tryz.func61, Tryz.ntmps61
    go_wp2_with fail
    refine HCL.out.mono ?_
    rintro e w1 ⟨rfl, b1⟩
    go_wp2
    go_ret
    exact ⟨by rw [HR.out, HK.out, Bool.true_and]; rfl, b1⟩
  · have h2 : ((k : Int) == 0) = false := by rw [beq_eq_false_iff_ne]; omega
    have HK : Hid (decide (k = 0) = false) := decide_eq_false hk0
    clear hcl hc hk hb hk0
    go_enter Tryz.func61, Tryz.ntmps61
    go_wp2_with fail
    refine HCL.out.mono ?_
    rintro e w1 ⟨rfl, b1⟩
    go_wp2
    go_ret
    exact ⟨by rw [HR.out, HK.out, Bool.false_and]; rfl, b1⟩
theorem deed1_any (s : ByteArray) (w : World) (hs : s.size ≤ maxLen) :
    Calls Tryz.prog 60 #[.string s] w fun e w' => e = .returned (.bool (!rightB s)) ∧ Below w.heap.size w w' := by
  have hc := right_any s w hs
  obtain ⟨b, hb⟩ : ∃ b, rightB s = b := ⟨_, rfl⟩
  rw [hb] at hc ⊢
  clear hb
  go_enter Tryz.func60, Tryz.ntmps60
  go_wp2_with fail
  refine hc.mono ?_
  rintro e w5 ⟨rfl, b5⟩
  go_wp2
  go_ret
  exact ⟨rfl, b5⟩
/-- Where the first name stands that is no path. -/
def IdxP (l : List ByteArray) (e : Ending) : Prop := ∃ r : Int, e = .returned (.int .i64 r) ∧ ((l.all rightB = true ∧ r = -1) ∨ (l.all rightB = false ∧ 0 ≤ r))
set_option maxHeartbeats 1600000 in
theorem idx_any (v : Value) (l : List ByteArray) (w : World) (hv : Ss w v l) (hl : l.length ≤ 1000000) (hn : ∀ s ∈ l, s.size ≤ maxLen) :
    Calls Tryz.prog 81 #[v, .func (.func 60) #[] #[]] w fun e w' => IdxP l e ∧ Below w.heap.size w w' := by
  have HV := Lib.hid hv
  obtain ⟨A, c, rfl, hc, hm, h4⟩ := hv
  obtain ⟨n, hnl⟩ : ∃ n, n = l.length := ⟨_, rfl⟩
  rw [← hnl] at hc hm hl h4 ⊢
  have H4 := Lib.hid h4
  have HL := Lib.hid hnl
  have HN := Lib.hid hn
  clear h4 hnl hn
  go_enter Tryz.func81, Tryz.ntmps81
  go_wp2
  go_loopw [8] (fun i wr => ∃ k : Nat, k ≤ n ∧ i = .int .i64 k ∧ Hid (Below w.heap.size w wr) ∧ Hid ((l.take k).all rightB = true)) (fun i _ => n - (intOf i).toNat)
  case atStart => exact ⟨0, by omega, rfl, Below.refl _ _, (by first | exact Lib.hid trivial | (show _ = _; simp))⟩
  case round =>
    obtain ⟨k, hk, rfl, HBW, HK⟩ := hrel
    by_cases l1 : k < n
    · obtain ⟨ad, rfl, hc4⟩ := H4.out (by omega)
      have p1 := pw_cell_below HBW.out (hc4 k l1)
      obtain ⟨x, hx⟩ : ∃ x, x = l.getD k ByteArray.empty := ⟨_, rfl⟩
      rw [← hx] at p1
      have hkl : k < l.length := by rw [← HL.out]; exact l1
      have hxl : l[k] = x := by rw [hx, List.getD_eq_getElem?_getD, List.getElem?_eq_getElem hkl]; rfl
      have hxm : x ∈ l := by rw [← hxl]; exact List.getElem_mem hkl
      have HXS : Hid (x.size ≤ maxLen) := HN.out x hxm
      have HT : Hid (l.take (k + 1) = l.take k ++ [x]) := by show _ = _; rw [List.take_succ_eq_append_getElem hkl, hxl]
      have HXM := Lib.hid hxm
      clear hx hxl hxm hkl hc4
      cases hr : rightB x with
      | true =>
        have HR := Lib.hid hr
        clear hr
        go_wp2_with fail
        refine (deed1_any x _ HXS.out).mono ?_
        rintro e w1 ⟨rfl, b1⟩
        rw [HR.out]
        have HB1 : Hid (Below w.heap.size w w1) := HBW.out.trans (b1.mono HBW.out.size)
        clear b1
        go_wp2
        go_roundw
        case rel => exact ⟨k + 1, by omega, by go_num, HB1.out, by show _ = _; rw [HT.out, List.all_append, HK.out]; simp [HR.out]⟩
        case measure => simp [intOf]; omega
      | false =>
        have HR := Lib.hid hr
        clear hr
        go_wp2_with fail
        refine (deed1_any x _ HXS.out).mono ?_
        rintro e w1 ⟨rfl, b1⟩
        rw [HR.out]
        have HB1 : Hid (Below w.heap.size w w1) := HBW.out.trans (b1.mono HBW.out.size)
        clear b1
        go_wp2
        go_ret
        refine ⟨⟨(k : Int), rfl, .inr ⟨?_, by omega⟩⟩, HB1.out⟩
        rw [List.all_eq_false]
        exact ⟨x, HXM.out, by rw [HR.out]; decide⟩
    · obtain rfl : k = n := by omega
      go_wp2
      go_ret
      refine ⟨⟨-1, rfl, .inl ⟨?_, rfl⟩⟩, HBW.out⟩
      have h := HK.out
      rw [List.take_of_length_le (by rw [← HL.out]; exact Nat.le_refl _)] at h
      exact h
theorem all_any (v : Value) (l : List ByteArray) (w : World) (hv : Ss w v l) (hl : l.length ≤ 1000000) (hn : ∀ s ∈ l, s.size ≤ maxLen) :
    Calls Tryz.prog 59 #[v, .func (.func 60) #[] #[]] w fun e w' => e = .returned (.bool (!l.all rightB)) ∧ Below w.heap.size w w' := by
  obtain ⟨A, c, rfl, _⟩ := id hv
  have HV := Lib.hid hv
  have HL := Lib.hid hl
  have HN := Lib.hid hn
  obtain ⟨b, hb⟩ : ∃ b, b = l.all rightB := ⟨_, rfl⟩
  have HB := Lib.hid hb
  rw [← hb]
  obtain ⟨m, hm⟩ : ∃ m, m = l.length := ⟨_, rfl⟩
  rw [← hm] at hv
  have HM := Lib.hid hm
  clear hv hl hn hb
  rw [← hm]
  clear hm
  go_enter Tryz.func59, Tryz.ntmps59
  go_wp2_with fail
  refine (idx_any _ l w (by have h := HV.out; rw [← HM.out] at h; exact h) HL.out HN.out).mono ?_
  rintro e w1 ⟨⟨r, rfl, h⟩, b1⟩
  rcases h with ⟨h1, rfl⟩ | ⟨h1, h2⟩
  · have H1 := Lib.hid h1
    clear h1
    go_wp2
    go_ret
    exact ⟨by rw [HB.out, H1.out]; rfl, b1⟩
  · have H1 := Lib.hid h1
    clear h1
    go_wp2
    go_ret
    exact ⟨by rw [HB.out, H1.out]; rfl, b1⟩
end Go.Proofs.YtononoakdebjeaaGreatDoor.Path
