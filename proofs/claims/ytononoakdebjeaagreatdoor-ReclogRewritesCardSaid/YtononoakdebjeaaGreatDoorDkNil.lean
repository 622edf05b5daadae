/- A disk that is not there: every function of package disk (walks). -/
import Derived.Test.YtononoakdebjeaaGreatDoorDkUseAll
namespace Go.Proofs.YtononoakdebjeaaGreatDoor.Dk
open Go.RowKit Go.Proofs.YtononoakdebjeaaGreatDoorW.PrintWords Go.Proofs.YtononoakdebjeaaGreatDoorW.PrintLast Go.Proofs.YtononoakdebjeaaGreatDoor.Base Go.Proofs.YtononoakdebjeaaGreatDoor.Path Go.Maps
set_option linter.unusedVariables false
set_option linter.unusedSimpArgs false
/-! ### A disk that is not there -/
theorem look_nil (s : ByteArray) (w : World) :
    Calls Tryz.prog 40 #[.pointer none, .string s] w fun e w' => e = .returned (.tuple #[.pointer none, .int .i64 8]) ∧ w' = w := by
  go_enter Tryz.func40, Tryz.ntmps40
  go_wp2
  go_ret2
  exact ⟨rfl, rfl⟩
theorem read_nil (s : ByteArray) (w : World) :
    Calls Tryz.prog 18 #[.pointer none, .string s] w fun e w' => e = .returned (.tuple #[.slice none 0 0, .int .i64 8]) ∧ w' = w := by
  go_enter Tryz.func18, Tryz.ntmps18
  go_wp2_with fail
  refine (look_nil s w).mono ?_
  rintro e w1 ⟨rfl, rfl⟩
  go_wp2
  go_ret2
  exact ⟨rfl, rfl⟩
theorem stat_nil (s : ByteArray) (w : World) :
    Calls Tryz.prog 14 #[.pointer none, .string s] w fun e w' => e = .returned (.tuple #[.agg #[.int .i64 0, .int .i64 0], .int .i64 8]) ∧ Below w.heap.size w w' := by
  obtain ⟨W, hW⟩ : ∃ W, W = w.alloc (.cells #[.int .i64 0, .int .i64 0] 36) := ⟨_, rfl⟩
  have hb : Below w.heap.size w W := by rw [hW]; exact below_alloc (Below.refl _ _) _
  obtain ⟨x, hx⟩ : ∃ x, w.heap.size = x := ⟨_, rfl⟩
  have hr : W.heap[x]? = some (.cells #[.int .i64 0, .int .i64 0] 36 (0, 0)) := by rw [hW]; exact alloc_at w _ hx
  have HB := Lib.hid hb
  have HR := Lib.hid hr
  have HW := Lib.hid hW
  have HX := Lib.hid hx
  have z0 := blk_cell hr 0
  have z1 := blk_cell hr 1
  have y0 := blk_frozen hr 0
  have y1 := blk_frozen hr 1
  clear hb hr hW
  go_enter Tryz.func14, Tryz.ntmps14
  go_wp2_with fail
  rw [← HW.out]
  clear hx
  refine (look_nil s W).mono ?_
  rintro e w1 ⟨rfl, rfl⟩
  go_wp2
  have r1 := blk_set (blk_set HR.out 0 (.int .i64 0)) 1 (.int .i64 0)
  have k0 := blk_cell r1 0
  have k1 := blk_cell r1 1
  refine bodyPost_ret (v := .tuple #[.agg #[.int .i64 0, .int .i64 0], .int .i64 8]) (by simp [results, Tryz.results14, go_sem, k0, k1]) rfl ?_
  have hle : w.heap.size ≤ x := Nat.le_of_eq HX.out
  exact ⟨rfl, (HB.out.setCell hle _).setCell hle _⟩
theorem deed_nil (f : Value) (v : Value) (w : World) :
    Calls Tryz.prog 33 #[.pointer none, f, v] w fun e w' => e = .returned (.int .i64 8) ∧ w' = w := by
  go_enter Tryz.func33, Tryz.ntmps33
  go_wp2
  go_ret
  exact ⟨rfl, rfl⟩
theorem there_nil (s : ByteArray) (f : Nat) (lb : Array Value) (w : World) : Calls Tryz.prog 36 #[.pointer none, .string s, .func (.func f) #[] lb] w fun e w' => ∃ v, e = .returned v ∧ Below w.heap.size w w' := by
  go_enter Tryz.func36, Tryz.ntmps36
  go_wp2
  go_ret
  exact ⟨_, rfl, below_alloc (below_alloc (below_alloc (Below.refl _ _) _) _) _⟩
theorem write_nil (s : ByteArray) (A : Option Addr) (n c : Nat) (w : World) :
    Calls Tryz.prog 11 #[.pointer none, .string s, .slice A n c] w fun e w' => e = .returned (.int .i64 8) ∧ Below w.heap.size w w' := by
  go_enter Tryz.func11, Tryz.ntmps11
  go_wp2_with fail
  refine (deed_nil _ _ _).mono ?_
  rintro e w2 ⟨rfl, rfl⟩
  go_wp2
  go_ret
  refine ⟨rfl, ?_⟩
  --S1
  repeat' first | exact Below.refl _ _ | exact B1.out | refine below_alloc ?_ _ | refine (B1.out.mono ?_) | refine Below.trans ?_ (B1.out.mono ?_)
theorem append_nil (s : ByteArray) (A : Option Addr) (n c : Nat) (w : World) :
    Calls Tryz.prog 45 #[.pointer none, .string s, .slice A n c] w fun e w' => e = .returned (.int .i64 8) ∧ Below w.heap.size w w' := by
  go_enter Tryz.func45, Tryz.ntmps45
  go_wp2_with fail
  refine (deed_nil _ _ _).mono ?_
  rintro e w2 ⟨rfl, rfl⟩
  go_wp2
  go_ret
  refine ⟨rfl, ?_⟩
  --S1
  repeat' first | exact Below.refl _ _ | exact B1.out | refine below_alloc ?_ _ | refine (B1.out.mono ?_) | refine Below.trans ?_ (B1.out.mono ?_)
--BEGIN THREE
set_option maxRecDepth 100000 in
set_option maxHeartbeats 4000000 in
theorem remove_nil (s : ByteArray) (w : World) :
    Calls Tryz.prog 48 #[.pointer none, .string s] w fun e w' => e = .returned (.int .i64 8) ∧ Below w.heap.size w w' := by
  obtain ⟨x, hx⟩ : ∃ x, w.heap.size = x := ⟨_, rfl⟩
  obtain ⟨W, hW⟩ : ∃ W, W = ((w.alloc (.cells #[.pointer none] 28)).alloc (.cells #[.string s] 9)) := ⟨_, rfl⟩
  obtain ⟨g0, g1, gz, hb⟩ := allocs2 w (.cells #[.pointer none] 28) (.cells #[.string s] 9) hx
  rw [← hW] at g0 g1 gz hb
  have Q0 := Lib.hid (blk_cell g0 0)
  have Q1 := Lib.hid (blk_cell g1 0)
  have HBW := Lib.hid hb
  have HW := Lib.hid hW
  clear hb g0 g1 gz hW
  go_enter Tryz.func48, Tryz.ntmps48
  go_upto_region 1 with (fail)
  rw [← HW.out]
  clear hx
  refine start_ (n := 9) (S := fun w' => Below W.heap.size W w' ∧ w'.cell? ⟨x, 0, none⟩ = some (.pointer none) ∧ w'.cell? ⟨x + 1, 0, none⟩ = some (.string s)) (ds := [7]) #[false, false, false, false, false, false, false, false, false] (by kernel_rfl) rfl rfl ⟨Below.drew (Below.refl _ _), Q0.out, Q1.out⟩ (fun hHeld => ?_)
  refine pure_ (i := 3) (N := some 8) (v := ?_) (a' := ?_) #[false, false, false, true, false, false, false, false, false] rfl rfl (by kernel_rfl) (fun _ _ _ h => h) (Or.inl ⟨by rfl, ?_⟩) ?_ ?_
  rotate_left
  · intro w'
    go_simp
    with_reducible rfl
  rotate_left
  · simp only [Act.put, List.setIfInBounds_toArray, List.set_cons_zero, List.set_cons_succ, i64_w, i32_w]
    rfl
  refine take_ (i := 0) (N := some 5) (v := ?_) (a' := ?_) #[true, false, false, true, false, false, false, false, false] rfl rfl (by kernel_rfl) (fun _ _ _ h => h) (Or.inl ⟨by rfl, ?_⟩) hHeld ?_ ?_
  rotate_left
  · rintro w' ⟨s0, s1, s2⟩
    go_simp
    with_reducible rfl
  rotate_left
  · simp only [Act.put, List.setIfInBounds_toArray, List.set_cons_zero, List.set_cons_succ, i64_w, i32_w]
    rfl
  refine take_ (i := 1) (N := some 6) (v := ?_) (a' := ?_) #[true, true, false, true, false, false, false, false, false] rfl rfl (by kernel_rfl) (fun _ _ _ h => h) (Or.inl ⟨by rfl, ?_⟩) hHeld ?_ ?_
  rotate_left
  · rintro w' ⟨s0, s1, s2⟩
    go_simp
    with_reducible rfl
  rotate_left
  · simp only [Act.put, List.setIfInBounds_toArray, List.set_cons_zero, List.set_cons_succ, i64_w, i32_w]
    rfl
  refine take_ (i := 2) (N := some 7) (v := ?_) (a' := ?_) #[true, true, true, true, false, false, false, false, false] rfl rfl (by kernel_rfl) (fun _ _ _ h => h) (Or.inl ⟨by rfl, ?_⟩) hHeld ?_ ?_
  rotate_left
  · rintro w' ⟨s0, s1, s2⟩
    go_simp
    with_reducible rfl
  rotate_left
  · simp only [Act.put, List.setIfInBounds_toArray, List.set_cons_zero, List.set_cons_succ, i64_w, i32_w]
    rfl
  refine take_ (i := 5) (N := some 10) (v := ?_) (a' := ?_) #[true, true, true, true, false, true, false, false, false] rfl rfl (by kernel_rfl) (fun _ _ _ h => h) (Or.inl ⟨by rfl, ?_⟩) hHeld ?_ ?_
  rotate_left
  · rintro w' ⟨s0, s1, s2⟩
    go_simp
    with_reducible rfl
  rotate_left
  · simp only [Act.put, List.setIfInBounds_toArray, List.set_cons_zero, List.set_cons_succ, i64_w, i32_w]
    rfl
  refine join_ (σ := Value × Nat) 2 #[true, true, true, true, true, true, true, false, false] (fun s => [(9, s.1), (11, .slice (some ⟨s.2, 0, none⟩) 1 1)]) (fun z w' => Below W.heap.size W w') ?_ ?_
  rotate_left
  · intro hCont
    refine two_ (i := 4) (j := 6) (Ni := some 9) (Nj := some 11) #[true, true, true, true, true, true, false, false, false] #[true, true, true, true, false, true, true, false, false] rfl rfl rfl rfl (by kernel_rfl) (by decide) (by decide) (fun K hK => ?_) (fun K hK => ?_)
    · skip
      refine goes_ Tryz.func36 (by kernel_rfl) rfl #[.pointer none, .string s, .func (.func 73) #[] #[.pointer (some ⟨x, 0, none⟩), .pointer (some ⟨x + 1, 0, none⟩)]] (by rfl) rfl rfl (by first | (simp only [List.map_toArray, List.map_cons, List.map_nil]; done) | (simp only [List.map_toArray, List.map_cons, List.map_nil]; rfl) | rfl) ?_
      with_reducible refine (there_nil s 73 #[.pointer (some ⟨x, 0, none⟩), .pointer (some ⟨x + 1, 0, none⟩)] _).mono ?_
      rintro e w2 ⟨v2, rfl, b2⟩
      refine ⟨_, rfl, ?_⟩
      have hb2 : Below W.heap.size W w2 := hHeld.1.trans (b2.mono hHeld.1.size)
      have HB2 := Lib.hid hb2
      clear b2
      refine hK.out _ _ ⟨hb2, pw_cell_below (hb2) Q0.out, pw_cell_below (hb2) Q1.out⟩ (fun hHeld => ?_)
      clear hK K
      refine norm_ (a' := ?_) ?_ ?_
      rotate_left
      · show Act.put _ (some 9) _ = _
        simp only [Act.put, List.setIfInBounds_toArray, List.set_cons_zero, List.set_cons_succ, i64_w, i32_w]
        rfl
      refine one_ (i := 6) (N := some 11) #[true, true, true, true, true, true, true, false, false] rfl rfl (by kernel_rfl) (by decide) (fun K hK => ?_)
      refine value_ (w1 := ?_) (v := ?_) (by rfl) rfl ?_ ?_
      rotate_left 2
      · go_simp
        constructor
        · rfl
        · rfl
      refine hK.out _ _ ⟨hHeld.1.alloc hHeld.1.size _, pw_cell_below (hHeld.1.alloc hHeld.1.size _) Q0.out, pw_cell_below (hHeld.1.alloc hHeld.1.size _) Q1.out⟩ (fun hHeld => ?_)
      clear hK K
      refine norm_ (a' := ?_) ?_ ?_
      rotate_left
      · show Act.put _ (some 11) _ = _
        simp only [Act.put, List.setIfInBounds_toArray, List.set_cons_zero, List.set_cons_succ, i64_w, i32_w]
        rfl
      exact norm_ (by simp only [putAll, Act.put, List.setIfInBounds_toArray, List.set_cons_zero, List.set_cons_succ]) (hCont (v2, w2.heap.size) _ hHeld.1)
    · skip
      refine value_ (w1 := ?_) (v := ?_) (by rfl) rfl ?_ ?_
      rotate_left 2
      · go_simp
        constructor
        · rfl
        · rfl
      refine hK.out _ _ ⟨hHeld.1.alloc hHeld.1.size _, pw_cell_below (hHeld.1.alloc hHeld.1.size _) Q0.out, pw_cell_below (hHeld.1.alloc hHeld.1.size _) Q1.out⟩ (fun hHeld => ?_)
      clear hK K
      refine norm_ (a' := ?_) ?_ ?_
      rotate_left
      · show Act.put _ (some 11) _ = _
        simp only [Act.put, List.setIfInBounds_toArray, List.set_cons_zero, List.set_cons_succ, i64_w, i32_w]
        rfl
      refine one_ (i := 4) (N := some 9) #[true, true, true, true, true, true, true, false, false] rfl rfl (by kernel_rfl) (by decide) (fun K hK => ?_)
      refine goes_ Tryz.func36 (by kernel_rfl) rfl #[.pointer none, .string s, .func (.func 73) #[] #[.pointer (some ⟨x, 0, none⟩), .pointer (some ⟨x + 1, 0, none⟩)]] (by rfl) rfl rfl (by first | (simp only [List.map_toArray, List.map_cons, List.map_nil]; done) | (simp only [List.map_toArray, List.map_cons, List.map_nil]; rfl) | rfl) ?_
      with_reducible refine (there_nil s 73 #[.pointer (some ⟨x, 0, none⟩), .pointer (some ⟨x + 1, 0, none⟩)] _).mono ?_
      rintro e w2 ⟨v2, rfl, b2⟩
      refine ⟨_, rfl, ?_⟩
      have hb2 : Below W.heap.size W w2 := hHeld.1.trans (b2.mono hHeld.1.size)
      have HB2 := Lib.hid hb2
      clear b2
      refine hK.out _ _ ⟨hb2, pw_cell_below (hb2) Q0.out, pw_cell_below (hb2) Q1.out⟩ (fun hHeld => ?_)
      clear hK K
      refine norm_ (a' := ?_) ?_ ?_
      rotate_left
      · show Act.put _ (some 9) _ = _
        simp only [Act.put, List.setIfInBounds_toArray, List.set_cons_zero, List.set_cons_succ, i64_w, i32_w]
        rfl
      exact norm_ (by simp only [putAll, Act.put, List.setIfInBounds_toArray, List.set_cons_zero, List.set_cons_succ]) (hCont (v2, W.heap.size) _ hHeld.1)
  rintro ⟨va, yb⟩ wx hF1
  have hHeld : Below W.heap.size W wx ∧ wx.cell? ⟨x, 0, none⟩ = some (.pointer none) ∧ wx.cell? ⟨x + 1, 0, none⟩ = some (.string s) := ⟨hF1, pw_cell_below (hF1) Q0.out, pw_cell_below (hF1) Q1.out⟩
  have HB1 := Lib.hid (HBW.out.trans (hF1.mono HBW.out.size))
  clear hF1
  refine norm_ (a' := ?_) ?_ ?_
  rotate_left
  · simp only [putAll, Act.put, List.setIfInBounds_toArray, List.set_cons_zero, List.set_cons_succ]
    rfl
  refine last_ (i := 7) (N := some 12) #[true, true, true, true, true, true, true, true, false] rfl rfl (by kernel_rfl) (by decide) (fun K hK => ?_)
  refine goes_ Tryz.func33 (by kernel_rfl) rfl #[.pointer none, va, .slice (some ⟨yb, 0, none⟩) 1 1] (by rfl) rfl rfl (by first | (simp only [List.map_toArray, List.map_cons, List.map_nil]; done) | (simp only [List.map_toArray, List.map_cons, List.map_nil]; rfl) | rfl) ?_
  with_reducible refine (deed_nil _ _ _).mono ?_
  rintro e w9 ⟨rfl, rfl⟩
  refine ⟨_, rfl, ?_⟩
  refine hK.out _ _ ?_
  clear hK K
  refine norm_ (a' := ?_) ?_ ?_
  rotate_left
  · show Act.put _ (some 12) _ = _
    simp only [Act.put, List.setIfInBounds_toArray, List.set_cons_zero, List.set_cons_succ, i64_w, i32_w]
    rfl
  refine pure_ (i := 8) (N := some 4) (v := ?_) (a' := ?_) #[true, true, true, true, true, true, true, true, true] rfl rfl (by kernel_rfl) (fun _ _ _ h => h) (Or.inl ⟨by rfl, ?_⟩) ?_ ?_
  rotate_left
  · intro w'
    go_simp
    with_reducible rfl
  rotate_left
  · simp only [Act.put, List.setIfInBounds_toArray, List.set_cons_zero, List.set_cons_succ, i64_w, i32_w]
    rfl
  refine done_ (by kernel_rfl) ?_
  --S2
  go_wp2
  go_ret
  exact ⟨rfl, HB1.out⟩
set_option maxRecDepth 100000 in
set_option maxHeartbeats 4000000 in
theorem rename_nil (s r : ByteArray) (w : World) :
    Calls Tryz.prog 47 #[.pointer none, .string s, .string r] w fun e w' => e = .returned (.int .i64 8) ∧ Below w.heap.size w w' := by
  obtain ⟨x, hx⟩ : ∃ x, w.heap.size = x := ⟨_, rfl⟩
  obtain ⟨W, hW⟩ : ∃ W, W = (((w.alloc (.cells #[.pointer none] 28)).alloc (.cells #[.string s] 9)).alloc (.cells #[.string r] 9)) := ⟨_, rfl⟩
  obtain ⟨g0, g1, g2, gz, hb⟩ := allocs3 w (.cells #[.pointer none] 28) (.cells #[.string s] 9) (.cells #[.string r] 9) hx
  rw [← hW] at g0 g1 g2 gz hb
  have Q0 := Lib.hid (blk_cell g0 0)
  have Q1 := Lib.hid (blk_cell g1 0)
  have Q2 := Lib.hid (blk_cell g2 0)
  have HBW := Lib.hid hb
  have HW := Lib.hid hW
  clear hb g0 g1 g2 gz hW
  go_enter Tryz.func47, Tryz.ntmps47
  go_upto_region 1 with (fail)
  rw [← HW.out]
  clear hx
  refine start_ (n := 10) (S := fun w' => Below W.heap.size W w' ∧ w'.cell? ⟨x, 0, none⟩ = some (.pointer none) ∧ w'.cell? ⟨x + 1, 0, none⟩ = some (.string s) ∧ w'.cell? ⟨x + 1 + 1, 0, none⟩ = some (.string r)) (ds := [8]) #[false, false, false, false, false, false, false, false, false, false] (by kernel_rfl) rfl rfl ⟨Below.drew (Below.refl _ _), Q0.out, Q1.out, Q2.out⟩ (fun hHeld => ?_)
  refine pure_ (i := 3) (N := some 10) (v := ?_) (a' := ?_) #[false, false, false, true, false, false, false, false, false, false] rfl rfl (by kernel_rfl) (fun _ _ _ h => h) (Or.inl ⟨by rfl, ?_⟩) ?_ ?_
  rotate_left
  · intro w'
    go_simp
    with_reducible rfl
  rotate_left
  · simp only [Act.put, List.setIfInBounds_toArray, List.set_cons_zero, List.set_cons_succ, i64_w, i32_w]
    rfl
  refine take_ (i := 0) (N := some 7) (v := ?_) (a' := ?_) #[true, false, false, true, false, false, false, false, false, false] rfl rfl (by kernel_rfl) (fun _ _ _ h => h) (Or.inl ⟨by rfl, ?_⟩) hHeld ?_ ?_
  rotate_left
  · rintro w' ⟨s0, s1, s2, s3⟩
    go_simp
    with_reducible rfl
  rotate_left
  · simp only [Act.put, List.setIfInBounds_toArray, List.set_cons_zero, List.set_cons_succ, i64_w, i32_w]
    rfl
  refine take_ (i := 1) (N := some 8) (v := ?_) (a' := ?_) #[true, true, false, true, false, false, false, false, false, false] rfl rfl (by kernel_rfl) (fun _ _ _ h => h) (Or.inl ⟨by rfl, ?_⟩) hHeld ?_ ?_
  rotate_left
  · rintro w' ⟨s0, s1, s2, s3⟩
    go_simp
    with_reducible rfl
  rotate_left
  · simp only [Act.put, List.setIfInBounds_toArray, List.set_cons_zero, List.set_cons_succ, i64_w, i32_w]
    rfl
  refine take_ (i := 2) (N := some 9) (v := ?_) (a' := ?_) #[true, true, true, true, false, false, false, false, false, false] rfl rfl (by kernel_rfl) (fun _ _ _ h => h) (Or.inl ⟨by rfl, ?_⟩) hHeld ?_ ?_
  rotate_left
  · rintro w' ⟨s0, s1, s2, s3⟩
    go_simp
    with_reducible rfl
  rotate_left
  · simp only [Act.put, List.setIfInBounds_toArray, List.set_cons_zero, List.set_cons_succ, i64_w, i32_w]
    rfl
  refine take_ (i := 5) (N := some 12) (v := ?_) (a' := ?_) #[true, true, true, true, false, true, false, false, false, false] rfl rfl (by kernel_rfl) (fun _ _ _ h => h) (Or.inl ⟨by rfl, ?_⟩) hHeld ?_ ?_
  rotate_left
  · rintro w' ⟨s0, s1, s2, s3⟩
    go_simp
    with_reducible rfl
  rotate_left
  · simp only [Act.put, List.setIfInBounds_toArray, List.set_cons_zero, List.set_cons_succ, i64_w, i32_w]
    rfl
  refine take_ (i := 6) (N := some 13) (v := ?_) (a' := ?_) #[true, true, true, true, false, true, true, false, false, false] rfl rfl (by kernel_rfl) (fun _ _ _ h => h) (Or.inl ⟨by rfl, ?_⟩) hHeld ?_ ?_
  rotate_left
  · rintro w' ⟨s0, s1, s2, s3⟩
    go_simp
    with_reducible rfl
  rotate_left
  · simp only [Act.put, List.setIfInBounds_toArray, List.set_cons_zero, List.set_cons_succ, i64_w, i32_w]
    rfl
  refine join_ (σ := Value × Nat) 2 #[true, true, true, true, true, true, true, true, false, false] (fun s => [(11, s.1), (14, .slice (some ⟨s.2, 0, none⟩) 2 2)]) (fun z w' => Below W.heap.size W w') ?_ ?_
  rotate_left
  · intro hCont
    refine two_ (i := 4) (j := 7) (Ni := some 11) (Nj := some 14) #[true, true, true, true, true, true, true, false, false, false] #[true, true, true, true, false, true, true, true, false, false] rfl rfl rfl rfl (by kernel_rfl) (by decide) (by decide) (fun K hK => ?_) (fun K hK => ?_)
    · skip
      refine goes_ Tryz.func36 (by kernel_rfl) rfl #[.pointer none, .string s, .func (.func 72) #[] #[.pointer (some ⟨x, 0, none⟩), .pointer (some ⟨x + 2, 0, none⟩), .pointer (some ⟨x + 1, 0, none⟩)]] (by rfl) rfl rfl (by first | (simp only [List.map_toArray, List.map_cons, List.map_nil]; done) | (simp only [List.map_toArray, List.map_cons, List.map_nil]; rfl) | rfl) ?_
      with_reducible refine (there_nil s 72 #[.pointer (some ⟨x, 0, none⟩), .pointer (some ⟨x + 2, 0, none⟩), .pointer (some ⟨x + 1, 0, none⟩)] _).mono ?_
      rintro e w2 ⟨v2, rfl, b2⟩
      refine ⟨_, rfl, ?_⟩
      have hb2 : Below W.heap.size W w2 := hHeld.1.trans (b2.mono hHeld.1.size)
      have HB2 := Lib.hid hb2
      clear b2
      refine hK.out _ _ ⟨hb2, pw_cell_below (hb2) Q0.out, pw_cell_below (hb2) Q1.out, pw_cell_below (hb2) Q2.out⟩ (fun hHeld => ?_)
      clear hK K
      refine norm_ (a' := ?_) ?_ ?_
      rotate_left
      · show Act.put _ (some 11) _ = _
        simp only [Act.put, List.setIfInBounds_toArray, List.set_cons_zero, List.set_cons_succ, i64_w, i32_w]
        rfl
      refine one_ (i := 7) (N := some 14) #[true, true, true, true, true, true, true, true, false, false] rfl rfl (by kernel_rfl) (by decide) (fun K hK => ?_)
      refine value_ (w1 := ?_) (v := ?_) (by rfl) rfl ?_ ?_
      rotate_left 2
      · go_simp
        constructor
        · rfl
        · rfl
      refine hK.out _ _ ⟨hHeld.1.alloc hHeld.1.size _, pw_cell_below (hHeld.1.alloc hHeld.1.size _) Q0.out, pw_cell_below (hHeld.1.alloc hHeld.1.size _) Q1.out, pw_cell_below (hHeld.1.alloc hHeld.1.size _) Q2.out⟩ (fun hHeld => ?_)
      clear hK K
      refine norm_ (a' := ?_) ?_ ?_
      rotate_left
      · show Act.put _ (some 14) _ = _
        simp only [Act.put, List.setIfInBounds_toArray, List.set_cons_zero, List.set_cons_succ, i64_w, i32_w]
        rfl
      exact norm_ (by simp only [putAll, Act.put, List.setIfInBounds_toArray, List.set_cons_zero, List.set_cons_succ]) (hCont (v2, w2.heap.size) _ hHeld.1)
    · skip
      refine value_ (w1 := ?_) (v := ?_) (by rfl) rfl ?_ ?_
      rotate_left 2
      · go_simp
        constructor
        · rfl
        · rfl
      refine hK.out _ _ ⟨hHeld.1.alloc hHeld.1.size _, pw_cell_below (hHeld.1.alloc hHeld.1.size _) Q0.out, pw_cell_below (hHeld.1.alloc hHeld.1.size _) Q1.out, pw_cell_below (hHeld.1.alloc hHeld.1.size _) Q2.out⟩ (fun hHeld => ?_)
      clear hK K
      refine norm_ (a' := ?_) ?_ ?_
      rotate_left
      · show Act.put _ (some 14) _ = _
        simp only [Act.put, List.setIfInBounds_toArray, List.set_cons_zero, List.set_cons_succ, i64_w, i32_w]
        rfl
      refine one_ (i := 4) (N := some 11) #[true, true, true, true, true, true, true, true, false, false] rfl rfl (by kernel_rfl) (by decide) (fun K hK => ?_)
      refine goes_ Tryz.func36 (by kernel_rfl) rfl #[.pointer none, .string s, .func (.func 72) #[] #[.pointer (some ⟨x, 0, none⟩), .pointer (some ⟨x + 2, 0, none⟩), .pointer (some ⟨x + 1, 0, none⟩)]] (by rfl) rfl rfl (by first | (simp only [List.map_toArray, List.map_cons, List.map_nil]; done) | (simp only [List.map_toArray, List.map_cons, List.map_nil]; rfl) | rfl) ?_
      with_reducible refine (there_nil s 72 #[.pointer (some ⟨x, 0, none⟩), .pointer (some ⟨x + 2, 0, none⟩), .pointer (some ⟨x + 1, 0, none⟩)] _).mono ?_
      rintro e w2 ⟨v2, rfl, b2⟩
      refine ⟨_, rfl, ?_⟩
      have hb2 : Below W.heap.size W w2 := hHeld.1.trans (b2.mono hHeld.1.size)
      have HB2 := Lib.hid hb2
      clear b2
      refine hK.out _ _ ⟨hb2, pw_cell_below (hb2) Q0.out, pw_cell_below (hb2) Q1.out, pw_cell_below (hb2) Q2.out⟩ (fun hHeld => ?_)
      clear hK K
      refine norm_ (a' := ?_) ?_ ?_
      rotate_left
      · show Act.put _ (some 11) _ = _
        simp only [Act.put, List.setIfInBounds_toArray, List.set_cons_zero, List.set_cons_succ, i64_w, i32_w]
        rfl
      exact norm_ (by simp only [putAll, Act.put, List.setIfInBounds_toArray, List.set_cons_zero, List.set_cons_succ]) (hCont (v2, W.heap.size) _ hHeld.1)
  rintro ⟨va, yb⟩ wx hF1
  have hHeld : Below W.heap.size W wx ∧ wx.cell? ⟨x, 0, none⟩ = some (.pointer none) ∧ wx.cell? ⟨x + 1, 0, none⟩ = some (.string s) ∧ wx.cell? ⟨x + 1 + 1, 0, none⟩ = some (.string r) := ⟨hF1, pw_cell_below (hF1) Q0.out, pw_cell_below (hF1) Q1.out, pw_cell_below (hF1) Q2.out⟩
  have HB1 := Lib.hid (HBW.out.trans (hF1.mono HBW.out.size))
  clear hF1
  refine norm_ (a' := ?_) ?_ ?_
  rotate_left
  · simp only [putAll, Act.put, List.setIfInBounds_toArray, List.set_cons_zero, List.set_cons_succ]
    rfl
  refine last_ (i := 8) (N := some 15) #[true, true, true, true, true, true, true, true, true, false] rfl rfl (by kernel_rfl) (by decide) (fun K hK => ?_)
  refine goes_ Tryz.func33 (by kernel_rfl) rfl #[.pointer none, va, .slice (some ⟨yb, 0, none⟩) 2 2] (by rfl) rfl rfl (by first | (simp only [List.map_toArray, List.map_cons, List.map_nil]; done) | (simp only [List.map_toArray, List.map_cons, List.map_nil]; rfl) | rfl) ?_
  with_reducible refine (deed_nil _ _ _).mono ?_
  rintro e w9 ⟨rfl, rfl⟩
  refine ⟨_, rfl, ?_⟩
  refine hK.out _ _ ?_
  clear hK K
  refine norm_ (a' := ?_) ?_ ?_
  rotate_left
  · show Act.put _ (some 15) _ = _
    simp only [Act.put, List.setIfInBounds_toArray, List.set_cons_zero, List.set_cons_succ, i64_w, i32_w]
    rfl
  refine pure_ (i := 9) (N := some 6) (v := ?_) (a' := ?_) #[true, true, true, true, true, true, true, true, true, true] rfl rfl (by kernel_rfl) (fun _ _ _ h => h) (Or.inl ⟨by rfl, ?_⟩) ?_ ?_
  rotate_left
  · intro w'
    go_simp
    with_reducible rfl
  rotate_left
  · simp only [Act.put, List.setIfInBounds_toArray, List.set_cons_zero, List.set_cons_succ, i64_w, i32_w]
    rfl
  refine done_ (by kernel_rfl) ?_
  --S2
  go_wp2
  go_ret
  exact ⟨rfl, HB1.out⟩
set_option maxRecDepth 100000 in
set_option maxHeartbeats 4000000 in
theorem cut_nil (s : ByteArray) (n : Int) (w : World) :
    Calls Tryz.prog 46 #[.pointer none, .string s, .int .i64 n] w fun e w' => e = .returned (.int .i64 8) ∧ Below w.heap.size w w' := by
  obtain ⟨x, hx⟩ : ∃ x, w.heap.size = x := ⟨_, rfl⟩
  obtain ⟨W, hW⟩ : ∃ W, W = ((w.alloc (.cells #[.pointer none] 28)).alloc (.cells #[.int .i64 n] 3)) := ⟨_, rfl⟩
  obtain ⟨g0, g1, gz, hb⟩ := allocs2 w (.cells #[.pointer none] 28) (.cells #[.int .i64 n] 3) hx
  rw [← hW] at g0 g1 gz hb
  have Q0 := Lib.hid (blk_cell g0 0)
  have Q1 := Lib.hid (blk_cell g1 0)
  have HBW := Lib.hid hb
  have HW := Lib.hid hW
  clear hb g0 g1 gz hW
  go_enter Tryz.func46, Tryz.ntmps46
  go_upto_region 1 with (fail)
  rw [← HW.out]
  clear hx
  refine start_ (n := 9) (S := fun w' => Below W.heap.size W w' ∧ w'.cell? ⟨x, 0, none⟩ = some (.pointer none) ∧ w'.cell? ⟨x + 1, 0, none⟩ = some (.int .i64 n)) (ds := [7]) #[false, false, false, false, false, false, false, false, false] (by kernel_rfl) rfl rfl ⟨Below.drew (Below.refl _ _), Q0.out, Q1.out⟩ (fun hHeld => ?_)
  refine pure_ (i := 2) (N := some 9) (v := ?_) (a' := ?_) #[false, false, true, false, false, false, false, false, false] rfl rfl (by kernel_rfl) (fun _ _ _ h => h) (Or.inl ⟨by rfl, ?_⟩) ?_ ?_
  rotate_left
  · intro w'
    go_simp
    with_reducible rfl
  rotate_left
  · simp only [Act.put, List.setIfInBounds_toArray, List.set_cons_zero, List.set_cons_succ, i64_w, i32_w]
    rfl
  refine pure_ (i := 3) (N := some 10) (v := ?_) (a' := ?_) #[false, false, true, true, false, false, false, false, false] rfl rfl (by kernel_rfl) (fun _ _ _ h => h) (Or.inl ⟨by rfl, ?_⟩) ?_ ?_
  rotate_left
  · intro w'
    go_simp
    with_reducible rfl
  rotate_left
  · simp only [Act.put, List.setIfInBounds_toArray, List.set_cons_zero, List.set_cons_succ, i64_w, i32_w]
    rfl
  refine pure_ (i := 5) (N := some 12) (v := ?_) (a' := ?_) #[false, false, true, true, false, true, false, false, false] rfl rfl (by kernel_rfl) (fun _ _ _ h => h) (Or.inl ⟨by rfl, ?_⟩) ?_ ?_
  rotate_left
  · intro w'
    go_simp
    with_reducible rfl
  rotate_left
  · simp only [Act.put, List.setIfInBounds_toArray, List.set_cons_zero, List.set_cons_succ, i64_w, i32_w]
    rfl
  refine take_ (i := 0) (N := some 7) (v := ?_) (a' := ?_) #[true, false, true, true, false, true, false, false, false] rfl rfl (by kernel_rfl) (fun _ _ _ h => h) (Or.inl ⟨by rfl, ?_⟩) hHeld ?_ ?_
  rotate_left
  · rintro w' ⟨s0, s1, s2⟩
    go_simp
    with_reducible rfl
  rotate_left
  · simp only [Act.put, List.setIfInBounds_toArray, List.set_cons_zero, List.set_cons_succ, i64_w, i32_w]
    rfl
  refine take_ (i := 1) (N := some 8) (v := ?_) (a' := ?_) #[true, true, true, true, false, true, false, false, false] rfl rfl (by kernel_rfl) (fun _ _ _ h => h) (Or.inl ⟨by rfl, ?_⟩) hHeld ?_ ?_
  rotate_left
  · rintro w' ⟨s0, s1, s2⟩
    go_simp
    with_reducible rfl
  rotate_left
  · simp only [Act.put, List.setIfInBounds_toArray, List.set_cons_zero, List.set_cons_succ, i64_w, i32_w]
    rfl
  refine join_ (σ := Value × Nat) 2 #[true, true, true, true, true, true, true, false, false] (fun s => [(11, s.1), (13, .slice (some ⟨s.2, 0, none⟩) 1 1)]) (fun z w' => Below W.heap.size W w') ?_ ?_
  rotate_left
  · intro hCont
    refine two_ (i := 4) (j := 6) (Ni := some 11) (Nj := some 13) #[true, true, true, true, true, true, false, false, false] #[true, true, true, true, false, true, true, false, false] rfl rfl rfl rfl (by kernel_rfl) (by decide) (by decide) (fun K hK => ?_) (fun K hK => ?_)
    · skip
      refine goes_ Tryz.func36 (by kernel_rfl) rfl #[.pointer none, .string s, .func (.func 71) #[] #[.pointer (some ⟨x + 1, 0, none⟩), .pointer (some ⟨x, 0, none⟩)]] (by rfl) rfl rfl (by first | (simp only [List.map_toArray, List.map_cons, List.map_nil]; done) | (simp only [List.map_toArray, List.map_cons, List.map_nil]; rfl) | rfl) ?_
      with_reducible refine (there_nil s 71 #[.pointer (some ⟨x + 1, 0, none⟩), .pointer (some ⟨x, 0, none⟩)] _).mono ?_
      rintro e w2 ⟨v2, rfl, b2⟩
      refine ⟨_, rfl, ?_⟩
      have hb2 : Below W.heap.size W w2 := hHeld.1.trans (b2.mono hHeld.1.size)
      have HB2 := Lib.hid hb2
      clear b2
      refine hK.out _ _ ⟨hb2, pw_cell_below (hb2) Q0.out, pw_cell_below (hb2) Q1.out⟩ (fun hHeld => ?_)
      clear hK K
      refine norm_ (a' := ?_) ?_ ?_
      rotate_left
      · show Act.put _ (some 11) _ = _
        simp only [Act.put, List.setIfInBounds_toArray, List.set_cons_zero, List.set_cons_succ, i64_w, i32_w]
        rfl
      refine one_ (i := 6) (N := some 13) #[true, true, true, true, true, true, true, false, false] rfl rfl (by kernel_rfl) (by decide) (fun K hK => ?_)
      refine value_ (w1 := ?_) (v := ?_) (by rfl) rfl ?_ ?_
      rotate_left 2
      · go_simp
        constructor
        · rfl
        · rfl
      refine hK.out _ _ ⟨hHeld.1.alloc hHeld.1.size _, pw_cell_below (hHeld.1.alloc hHeld.1.size _) Q0.out, pw_cell_below (hHeld.1.alloc hHeld.1.size _) Q1.out⟩ (fun hHeld => ?_)
      clear hK K
      refine norm_ (a' := ?_) ?_ ?_
      rotate_left
      · show Act.put _ (some 13) _ = _
        simp only [Act.put, List.setIfInBounds_toArray, List.set_cons_zero, List.set_cons_succ, i64_w, i32_w]
        rfl
      exact norm_ (by simp only [putAll, Act.put, List.setIfInBounds_toArray, List.set_cons_zero, List.set_cons_succ]) (hCont (v2, w2.heap.size) _ hHeld.1)
    · skip
      refine value_ (w1 := ?_) (v := ?_) (by rfl) rfl ?_ ?_
      rotate_left 2
      · go_simp
        constructor
        · rfl
        · rfl
      refine hK.out _ _ ⟨hHeld.1.alloc hHeld.1.size _, pw_cell_below (hHeld.1.alloc hHeld.1.size _) Q0.out, pw_cell_below (hHeld.1.alloc hHeld.1.size _) Q1.out⟩ (fun hHeld => ?_)
      clear hK K
      refine norm_ (a' := ?_) ?_ ?_
      rotate_left
      · show Act.put _ (some 13) _ = _
        simp only [Act.put, List.setIfInBounds_toArray, List.set_cons_zero, List.set_cons_succ, i64_w, i32_w]
        rfl
      refine one_ (i := 4) (N := some 11) #[true, true, true, true, true, true, true, false, false] rfl rfl (by kernel_rfl) (by decide) (fun K hK => ?_)
      refine goes_ Tryz.func36 (by kernel_rfl) rfl #[.pointer none, .string s, .func (.func 71) #[] #[.pointer (some ⟨x + 1, 0, none⟩), .pointer (some ⟨x, 0, none⟩)]] (by rfl) rfl rfl (by first | (simp only [List.map_toArray, List.map_cons, List.map_nil]; done) | (simp only [List.map_toArray, List.map_cons, List.map_nil]; rfl) | rfl) ?_
      with_reducible refine (there_nil s 71 #[.pointer (some ⟨x + 1, 0, none⟩), .pointer (some ⟨x, 0, none⟩)] _).mono ?_
      rintro e w2 ⟨v2, rfl, b2⟩
      refine ⟨_, rfl, ?_⟩
      have hb2 : Below W.heap.size W w2 := hHeld.1.trans (b2.mono hHeld.1.size)
      have HB2 := Lib.hid hb2
      clear b2
      refine hK.out _ _ ⟨hb2, pw_cell_below (hb2) Q0.out, pw_cell_below (hb2) Q1.out⟩ (fun hHeld => ?_)
      clear hK K
      refine norm_ (a' := ?_) ?_ ?_
      rotate_left
      · show Act.put _ (some 11) _ = _
        simp only [Act.put, List.setIfInBounds_toArray, List.set_cons_zero, List.set_cons_succ, i64_w, i32_w]
        rfl
      exact norm_ (by simp only [putAll, Act.put, List.setIfInBounds_toArray, List.set_cons_zero, List.set_cons_succ]) (hCont (v2, W.heap.size) _ hHeld.1)
  rintro ⟨va, yb⟩ wx hF1
  have hHeld : Below W.heap.size W wx ∧ wx.cell? ⟨x, 0, none⟩ = some (.pointer none) ∧ wx.cell? ⟨x + 1, 0, none⟩ = some (.int .i64 n) := ⟨hF1, pw_cell_below (hF1) Q0.out, pw_cell_below (hF1) Q1.out⟩
  have HB1 := Lib.hid (HBW.out.trans (hF1.mono HBW.out.size))
  clear hF1
  refine norm_ (a' := ?_) ?_ ?_
  rotate_left
  · simp only [putAll, Act.put, List.setIfInBounds_toArray, List.set_cons_zero, List.set_cons_succ]
    rfl
  refine last_ (i := 7) (N := some 14) #[true, true, true, true, true, true, true, true, false] rfl rfl (by kernel_rfl) (by decide) (fun K hK => ?_)
  refine goes_ Tryz.func33 (by kernel_rfl) rfl #[.pointer none, va, .slice (some ⟨yb, 0, none⟩) 1 1] (by rfl) rfl rfl (by first | (simp only [List.map_toArray, List.map_cons, List.map_nil]; done) | (simp only [List.map_toArray, List.map_cons, List.map_nil]; rfl) | rfl) ?_
  with_reducible refine (deed_nil _ _ _).mono ?_
  rintro e w9 ⟨rfl, rfl⟩
  refine ⟨_, rfl, ?_⟩
  refine hK.out _ _ ?_
  clear hK K
  refine norm_ (a' := ?_) ?_ ?_
  rotate_left
  · show Act.put _ (some 14) _ = _
    simp only [Act.put, List.setIfInBounds_toArray, List.set_cons_zero, List.set_cons_succ, i64_w, i32_w]
    rfl
  refine pure_ (i := 8) (N := some 6) (v := ?_) (a' := ?_) #[true, true, true, true, true, true, true, true, true] rfl rfl (by kernel_rfl) (fun _ _ _ h => h) (Or.inl ⟨by rfl, ?_⟩) ?_ ?_
  rotate_left
  · intro w'
    go_simp
    with_reducible rfl
  rotate_left
  · simp only [Act.put, List.setIfInBounds_toArray, List.set_cons_zero, List.set_cons_succ, i64_w, i32_w]
    rfl
  refine done_ (by kernel_rfl) ?_
  --S2
  go_wp2
  go_ret
  exact ⟨rfl, HB1.out⟩
--END THREE
theorem sync_nil (s : ByteArray) (w : World) :
    Calls Tryz.prog 12 #[.pointer none, .string s] w fun e w' => e = .returned (.int .i64 8) ∧ Below w.heap.size w w' := by
  go_enter Tryz.func12, Tryz.ntmps12
  go_wp2_with fail
  refine (there_nil _ _ _ _).mono ?_
  rintro e w1 ⟨v1, rfl, b1⟩
  have B1 := Lib.hid b1
  clear b1
  go_wp2_with fail
  refine (deed_nil _ _ _).mono ?_
  rintro e w2 ⟨rfl, rfl⟩
  go_wp2
  go_ret
  refine ⟨rfl, ?_⟩
  --S1
  repeat' first | exact Below.refl _ _ | exact B1.out | refine below_alloc ?_ _ | refine (B1.out.mono ?_) | refine Below.trans ?_ (B1.out.mono ?_)
theorem syncDir_nil (w : World) :
    Calls Tryz.prog 13 #[.pointer none] w fun e w' => e = .returned (.int .i64 8) ∧ Below w.heap.size w w' := by
  go_enter Tryz.func13, Tryz.ntmps13
  go_wp2_with fail
  refine (deed_nil _ _ _).mono ?_
  rintro e w2 ⟨rfl, rfl⟩
  go_wp2
  go_ret
  refine ⟨rfl, ?_⟩
  --S1
  repeat' first | exact Below.refl _ _ | exact B1.out | refine below_alloc ?_ _ | refine (B1.out.mono ?_) | refine Below.trans ?_ (B1.out.mono ?_)
theorem arm_nil (n : Int) (w : World) :
    Calls Tryz.prog 15 #[.pointer none, .int .i64 n] w fun e w' => e = .returned (.tuple #[]) ∧ w' = w := by
  go_enter Tryz.func15, Tryz.ntmps15
  go_wp2
  go_end0
  exact ⟨rfl, rfl⟩
set_option maxRecDepth 100000 in
theorem restart_nil (a : Array Value) (w : World) :
    Calls Tryz.prog 16 #[.pointer none, .agg a] w fun e w' => e = .returned (.tuple #[]) ∧ Below w.heap.size w w' := by
  go_enter Tryz.func16, Tryz.ntmps16
  go_wp2
  (try rw [Exit.noGoto_ret])
  first | (go_end0) | (refine bodyPost_ret (results_none rfl _ _ _) rfl ?_)
  exact ⟨rfl, below_alloc (Below.refl _ _) _⟩
theorem names_nil (w : World) :
    Calls Tryz.prog 20 #[.pointer none] w fun e w' => e = .returned (.slice none 0 0) ∧ w' = w := by
  go_enter Tryz.func20, Tryz.ntmps20
  go_wp2
  go_ret
  exact ⟨rfl, rfl⟩
theorem used_nil (w : World) :
    Calls Tryz.prog 21 #[.pointer none] w fun e w' => e = .returned (.int .i64 0) ∧ w' = w := by
  go_enter Tryz.func21, Tryz.ntmps21
  go_wp2
  go_ret
  exact ⟨rfl, rfl⟩
theorem deeds_nil (w : World) :
    Calls Tryz.prog 22 #[.pointer none] w fun e w' => e = .returned (.int .i64 0) ∧ w' = w := by
  go_enter Tryz.func22, Tryz.ntmps22
  go_wp2
  go_ret
  exact ⟨rfl, rfl⟩
theorem down_nil (w : World) :
    Calls Tryz.prog 23 #[.pointer none] w fun e w' => e = .returned (.bool true) ∧ w' = w := by
  go_enter Tryz.func23, Tryz.ntmps23
  go_wp2
  go_ret
  exact ⟨rfl, rfl⟩
end Go.Proofs.YtononoakdebjeaaGreatDoor.Dk
