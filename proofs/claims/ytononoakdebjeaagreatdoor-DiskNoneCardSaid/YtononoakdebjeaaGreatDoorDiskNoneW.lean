/- A disk that is not there is down, and does nothing (walk of the statement). -/
import Derived.Test.YtononoakdebjeaaGreatDoorDkNil
namespace Go.Proofs.YtononoakdebjeaaGreatDoor.Dk
open Go.RowKit Go.Proofs.YtononoakdebjeaaGreatDoorW.PrintWords Go.Proofs.YtononoakdebjeaaGreatDoorW.PrintLast Go.Proofs.YtononoakdebjeaaGreatDoor.Base Go.Proofs.YtononoakdebjeaaGreatDoor.Path Go.Maps
set_option linter.unusedVariables false
set_option linter.unusedSimpArgs false
/-- An act as it lies in memory. -/
abbrev actO (wh n : Int) (s r : ByteArray) (A : Option Addr) (m c : Nat) (A2 : Option Addr) (m2 c2 : Nat) : Array Value := #[.int .i64 wh, .int .i64 n, .string s, .string r, .slice A m c, .slice A2 m2 c2]
set_option maxRecDepth 100000 in
set_option maxHeartbeats 4000000 in
theorem deed04_nil (k : Nat) (hk : k ≤ 6) (wh n : Int) (s r : ByteArray) (A : Option Addr) (m c : Nat) (A2 : Option Addr) (m2 c2 : Nat) (w : World) :
    Calls Tryz.prog 17 #[.pointer none, .int .i64 (k : Int), .agg (actO wh n s r A m c A2 m2 c2)] w fun e w' => e = .returned (.int .i64 8) ∧ Below w.heap.size w w' := by
  obtain ⟨x, hx⟩ : ∃ x, w.heap.size = x := ⟨_, rfl⟩
  obtain ⟨W, hW⟩ : ∃ W, W = w.alloc (.cells (actO wh n s r A m c A2 m2 c2) 40) := ⟨_, rfl⟩
  have hX : W.heap[x]? = some (.cells (actO wh n s r A m c A2 m2 c2) 40 (0, 0)) := by rw [hW]; exact alloc_at w _ hx
  have HB : Hid (Below w.heap.size w W) := by rw [hW]; exact below_alloc (Below.refl _ _) _
  have z1 : W.cell? ⟨x, 1, none⟩ = some (.int .i64 n) := blk_cell hX 1
  have z2 : W.cell? ⟨x, 2, none⟩ = some (.string s) := blk_cell hX 2
  have z3 : W.cell? ⟨x, 3, none⟩ = some (.string r) := blk_cell hX 3
  have z4 : W.cell? ⟨x, 4, none⟩ = some (.slice A m c) := blk_cell hX 4
  have HW := Lib.hid hW
  clear hX hW
  have H0 := Lib.hid (write_nil s A m c W)
  have H1 := Lib.hid (append_nil s A m c W)
  have H2 := Lib.hid (cut_nil s n W)
  have H3 := Lib.hid (rename_nil s r W)
  have H4 := Lib.hid (remove_nil s W)
  have H5 := Lib.hid (sync_nil s W)
  have H6 := Lib.hid (syncDir_nil W)
  have hc : k = 0 ∨ k = 1 ∨ k = 2 ∨ k = 3 ∨ k = 4 ∨ k = 5 ∨ k = 6 := by omega
  clear hk
  rcases hc with rfl | rfl | rfl | rfl | rfl | rfl | rfl
  all_goals
    go_enter Tryz.func17, Tryz.ntmps17
    go_upto_region 1 with (fail)
    rw [← HW.out]
    clear hx
    go_wp2_with fail
    first | refine H0.out.mono ?_ | refine H1.out.mono ?_ | refine H2.out.mono ?_ | refine H3.out.mono ?_ | refine H4.out.mono ?_ | refine H5.out.mono ?_ | refine H6.out.mono ?_
    rintro e w2 ⟨rfl, b2⟩
    have HB2 := Lib.hid (HB.out.trans (b2.mono HB.out.size))
    clear b2
    go_wp2
    go_ret
    exact ⟨rfl, HB2.out⟩
set_option maxRecDepth 100000 in
set_option maxHeartbeats 4000000 in
theorem DiskNone_any (wh n : Int) (s r : ByteArray) (A : Option Addr) (m c : Nat) (A2 : Option Addr) (m2 c2 : Nat) (w : World) (hs : s.size ≤ 9223372036854775807) (hm : m ≤ 9223372036854775807) :
    Calls Tryz.prog 5 #[.agg (actO wh n s r A m c A2 m2 c2)] w fun e w' => e = .returned (.bool true) ∧ Below w.heap.size w w' := by
  obtain ⟨x, hx⟩ : ∃ x, w.heap.size = x := ⟨_, rfl⟩
  obtain ⟨W, hW⟩ : ∃ W, W = w.alloc (.cells (actO wh n s r A m c A2 m2 c2) 40) := ⟨_, rfl⟩
  have hX : W.heap[x]? = some (.cells (actO wh n s r A m c A2 m2 c2) 40 (0, 0)) := by rw [hW]; exact alloc_at w _ hx
  have HB : Hid (Below w.heap.size w W) := by rw [hW]; exact below_alloc (Below.refl _ _) _
  have z1 : W.cell? ⟨x, 1, none⟩ = some (.int .i64 n) := blk_cell hX 1
  have z2 : W.cell? ⟨x, 2, none⟩ = some (.string s) := blk_cell hX 2
  have z4 : W.cell? ⟨x, 4, none⟩ = some (.slice A m c) := blk_cell hX 4
  have HX := Lib.hid hX
  have HW := Lib.hid hW
  clear hX hW
  by_cases l1 : 120 < s.size
  · have d1 : decide ((120 : Int) < (s.size : Int)) = true := decide_eq_true (by omega)
    have d2 : decide (120 < s.size) = true := decide_eq_true l1
    clear l1
    go_enter Tryz.func5, Tryz.ntmps5
    go_upto_region 1 with (fail)
    rw [← HW.out]
    clear hx
    go_wp2
    go_ret
    exact ⟨rfl, HB.out⟩
  have d1 : decide ((120 : Int) < (s.size : Int)) = false := decide_eq_false (by omega)
  have d2 : decide (120 < s.size) = false := decide_eq_false l1
  by_cases l2 : 17000 < m
  · have d3 : decide ((17000 : Int) < (m : Int)) = true := decide_eq_true (by omega)
    have d4 : decide (17000 < m) = true := decide_eq_true l2
    clear l1 l2
    go_enter Tryz.func5, Tryz.ntmps5
    go_upto_region 1 with (fail)
    rw [← HW.out]
    clear hx
    go_wp2
    go_ret
    exact ⟨rfl, HB.out⟩
  have d3 : decide ((17000 : Int) < (m : Int)) = false := decide_eq_false (by omega)
  have d4 : decide (17000 < m) = false := decide_eq_false l2
  clear l1 l2
  go_enter Tryz.func5, Tryz.ntmps5
  go_upto_region 1 with (fail)
  rw [← HW.out]
  clear hx
  go_wp2_with fail
  refine (arm_nil n W).mono ?_
  rintro e w1 ⟨rfl, rfl⟩
  go_wp2_with fail
  refine (restart_nil _ w1).mono ?_
  rintro e w2 ⟨rfl, b2⟩
  have k2 := pw_cell_below b2 z2
  have HB2 := Lib.hid b2
  clear b2 z1 z2 z4
  go_wp2_with fail
  refine (read_nil s w2).mono ?_
  rintro e w3 ⟨rfl, rfl⟩
  go_wp2_with fail
  refine (stat_nil s w3).mono ?_
  rintro e w4 ⟨rfl, b4⟩
  have HB4 : Hid (Below w1.heap.size w1 (w4.alloc (.cells #[.int .i64 0, .int .i64 0] 36))) := HB2.out.trans ((below_alloc b4 _).mono HB2.out.size)
  clear b4 k2
  obtain ⟨W5, hW5⟩ : ∃ W, W = w4.alloc (.cells #[.int .i64 0, .int .i64 0] 36) := ⟨_, rfl⟩
  go_upto_region 8 with (fail)
  rw [← hW5] at HB4 ⊢
  clear hW5
  go_wp2
  --S1
  go_loopw [8] (fun i wr => ∃ j : Nat, j ≤ 7 ∧ i = .int .i64 j ∧ Hid (Below w1.heap.size w1 wr)) (fun i _ => 7 - (intOf i).toNat)
  case atStart => exact ⟨0, Nat.zero_le _, rfl, HB4⟩
  case round =>
    obtain ⟨j, hj, rfl, HBR⟩ := hrel
    by_cases l1 : j < 7
    · have HXR : Hid (wr.heap[x]? = some (.cells (actO wh n s r A m c A2 m2 c2) 40 (0, 0))) := (HBR.out.block x (blk_lt HX.out)).trans HX.out
      have HDD := Lib.hid (deed04_nil j (by omega) wh n s r A m c A2 m2 c2 wr)
      go_wp2_with (with_reducible refine gate_ (.load 40 (.tmp 1)) rfl ?_; refine Held.of ?_)
      refine Held.out (wpList_load_row rfl 40 (.tmp 1) rfl x rfl 40 _ (0, 0) _ HXR.out Tryz.underlying40 rfl (by kernel_rfl) ?_)
      go_wp2_with fail
      refine HDD.out.mono ?_
      rintro e w6 ⟨rfl, b6⟩
      have HB6 := Lib.hid (HBR.out.trans (b6.mono HBR.out.size))
      clear b6 HDD
      go_wp2
      go_roundw
      case rel => exact ⟨j + 1, by omega, by go_num, HB6⟩
      case measure => simp [intOf]; omega
    · obtain rfl : j = 7 := by omega
      go_wp2_with fail
      refine (names_nil wr).mono ?_
      rintro e w6 ⟨rfl, rfl⟩
      go_wp2_with fail
      refine (used_nil w6).mono ?_
      rintro e w7 ⟨rfl, rfl⟩
      go_wp2_with fail
      refine (deeds_nil w7).mono ?_
      rintro e w8 ⟨rfl, rfl⟩
      go_wp2_with fail
      refine (down_nil w8).mono ?_
      rintro e w9 ⟨rfl, rfl⟩
      go_wp2_with fail
      refine (awake04 w9).mono ?_
      rintro e w10 ⟨rfl, b10⟩
      have HB10 := Lib.hid (HB.out.trans ((HBR.out.trans (b10.mono HBR.out.size)).mono HB.out.size))
      clear b10
      go_wp2
      go_ret
      exact ⟨rfl, HB10.out⟩
end Go.Proofs.YtononoakdebjeaaGreatDoor.Dk
