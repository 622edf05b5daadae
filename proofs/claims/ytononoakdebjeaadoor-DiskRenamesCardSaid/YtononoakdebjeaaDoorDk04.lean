/- Chapter 4's statements: what they share (a fresh disk; the chapter's examples). -/
import Derived.Test.YtononoakdebjeaaDoorDkQ
import Derived.Test.YtononoakdebjeaaDoorPackFns
namespace Go.Proofs.YtononoakdebjeaaDoor.Dk
open Go.RowKit Go.Proofs.YtononoakdebjeaaDoorW.PrintWords Go.Proofs.YtononoakdebjeaaDoorW.PrintLast Go.Proofs.YtononoakdebjeaaDoor.Base Go.Proofs.YtononoakdebjeaaDoor.Path Go.Proofs.YtononoakdebjeaaDoor.Pack Go.Maps
set_option linter.unusedVariables false
set_option linter.unusedSimpArgs false
theorem fresh04 {B : Nat} (w : World) (hB : B ≤ w.heap.size) :
    Calls Tryd.prog 21 #[] w fun e w' => ∃ g, e = .returned (.tuple #[.pointer (some ⟨g, 0, none⟩), .bool true]) ∧ DQ B w'.heap.size 1 w' g (newV 16777216 fun _ => ⟨[], 0, 0⟩) ∧ Below w.heap.size w w' := by
  go_enter Tryd.func21, Tryd.ntmps21
  go_wp2_with fail
  refine (new_q (B := B) 16777216 (Nat.le_refl _) w hB).mono ?_
  rintro e w1 ⟨g, rfl, d1, b1⟩
  have HD1 := Lib.hid d1
  have HB1 := Lib.hid b1
  clear d1 b1
  go_wp2
  go_ret2
  exact ⟨g, rfl, HD1.out, HB1.out⟩
/-- string(b) for no bytes. -/
theorem str_nil (w : World) : (convert 22 9 (.slice none 0 0)).run Tryd.prog w = .ok (.string (strOfNums [])) w := str_of (Bs.nil w)
theorem read_none {D : DiskV} {s : ByteArray} {w w' : World} {e : Ending} (h : ReadP D s w e w') (h1 : D.down = false) (h2 : look D.dir s = none) : e = .returned (.tuple #[.slice none 0 0, .int .i64 6]) ∧ Below w.heap.size w w' := by
  rcases h with ⟨h, _⟩ | ⟨_, _, h⟩ | ⟨_, i, v, h, _⟩
  · rw [h1] at h; cases h
  · exact h
  · rw [h2] at h; cases h
theorem read_some {D : DiskV} {s : ByteArray} {w w' : World} {e : Ending} (h : ReadP D s w e w') (h1 : D.down = false) {i : Nat} (h2 : look D.dir s = some i) : ∃ v, e = .returned (.tuple #[v, .int .i64 0]) ∧ Ow w w' v (D.fs i).b := by
  rcases h with ⟨h, _⟩ | ⟨_, h, _⟩ | ⟨_, j, v, h, h3, h4⟩
  · rw [h1] at h; cases h
  · rw [h2] at h; cases h
  · rw [h2] at h
    obtain rfl := Option.some.inj h
    exact ⟨v, h3, h4⟩
theorem stat_down {D : DiskV} {s : ByteArray} {w w' : World} {e : Ending} (h : StatP D s w e w') (h1 : D.down = true) : e = .returned (.tuple #[.agg #[.int .i64 0, .int .i64 0], .int .i64 8]) ∧ Below w.heap.size w w' := by
  obtain ⟨hb, ⟨_, h⟩ | ⟨h, _⟩ | ⟨h, _⟩⟩ := h
  · exact ⟨h, hb⟩
  · rw [h1] at h; cases h
  · rw [h1] at h; cases h
theorem stat_none {D : DiskV} {s : ByteArray} {w w' : World} {e : Ending} (h : StatP D s w e w') (h1 : D.down = false) (h2 : look D.dir s = none) : e = .returned (.tuple #[.agg #[.int .i64 0, .int .i64 0], .int .i64 6]) ∧ Below w.heap.size w w' := by
  obtain ⟨hb, ⟨h, _⟩ | ⟨_, _, h⟩ | ⟨_, i, h, _⟩⟩ := h
  · rw [h1] at h; cases h
  · exact ⟨h, hb⟩
  · rw [h2] at h; cases h
theorem stat_some {D : DiskV} {s : ByteArray} {w w' : World} {e : Ending} (h : StatP D s w e w') (h1 : D.down = false) {i : Nat} (h2 : look D.dir s = some i) : e = .returned (.tuple #[.agg #[.int .i64 ((D.fs i).b.length : Int), .int .i64 ((D.fs i).time : Int)], .int .i64 0]) ∧ Below w.heap.size w w' := by
  obtain ⟨hb, ⟨h, _⟩ | ⟨_, h, _⟩ | ⟨_, j, h, h3⟩⟩ := h
  · rw [h1] at h; cases h
  · rw [h2] at h; cases h
  · rw [h2] at h
    obtain rfl := Option.some.inj h
    exact ⟨h3, hb⟩
--BEGIN AWAKE
set_option maxRecDepth 100000 in
set_option maxHeartbeats 4000000 in
theorem awake04 (w : World) :
    Calls Tryd.prog 26 #[] w fun e w' => e = .returned (.bool true) ∧ Below w.heap.size w w' := by
  have kc := fun (w : World) (C : Array Value) (n c : Nat) => Lib.run_convert_bytes_const (P := Tryd.prog) w 22 5 C n c Tryd.underlying22 Tryd.underlying5
  have KC := Lib.hid kc
  clear kc
  go_enter Tryd.func26, Tryd.ntmps26
  go_wp2
  go_loopw [1] (fun i wr => ∃ k : Nat, k ≤ 2 ∧ i = .int .i64 k ∧ Hid (Below w.heap.size w wr)) (fun i _ => 2 - (intOf i).toNat)
  case atStart => exact ⟨0, by omega, rfl, Below.refl _ _⟩
  case round =>
    obtain ⟨k, hk, rfl, HB⟩ := hrel
    by_cases l1 : k < 2
    · go_wp2_with fail
      refine (new_q (B := w.heap.size) 100 (by omega) wr HB.out.size).mono ?_
      rintro e w1 ⟨g, rfl, d1, b1⟩
      have HD1 := Lib.hid d1
      have HB1 := Lib.hid (HB.out.trans (b1.mono HB.out.size))
      have kc := KC.out
      clear d1 b1
      go_wp2_with fail
      clear kc
      --S1
      obtain ⟨W, hW⟩ : ∃ W, W = w1.alloc (.cells #[.int .u8 97] 5 (1, 2)) := ⟨_, rfl⟩
      have hv : Bs W (.slice (some ⟨w1.heap.size, 0, none⟩) 1 1) [97] := by rw [hW]; exact Bs.mark w1 5 [97] 1 rfl (by simp) (1, 2)
      have hb : Below w1.heap.size w1 W := by rw [hW]; exact below_alloc (Below.refl _ _) _
      rw [← hW]
      refine (write_q ⟨#[102]⟩ _ [97] (HD1.out.below hb) (by decide) hv (fun q hq => .inr (by rw [← Option.some.inj hq]; exact Nat.le_refl _)) (by simp) (by omega)).mono ?_
      rintro e w2 ⟨D2, k2, rfl, d2, r2, b2⟩
      obtain ⟨rfl, j, o2, a2, _⟩ := (NoneI.new 100 _).writeD (by show (-1 : Int) ≠ 0; omega) right_f (by simp) (by simp) (by intro h; cases h) r2
      have HD2 := Lib.hid d2
      have HO2 := Lib.hid o2
      have HA2 : Hid (D2.armed = -1) := a2
      have HB2 := Lib.hid ((HB1.out.trans (hb.mono HB1.out.size)).trans (b2.mono (Nat.le_refl _)))
      have kc := KC.out
      clear d2 r2 o2 a2 b2 hW hv hb
      go_wp2_with fail
      clear kc
      --S2
      obtain ⟨W, hW⟩ : ∃ W, W = w2.alloc (.cells #[.int .u8 98] 5 (1, 2)) := ⟨_, rfl⟩
      have hv : Bs W (.slice (some ⟨w2.heap.size, 0, none⟩) 1 1) [98] := by rw [hW]; exact Bs.mark w2 5 [98] 1 rfl (by simp) (1, 2)
      have hb : Below w2.heap.size w2 W := by rw [hW]; exact below_alloc (Below.refl _ _) _
      rw [← hW]
      refine (append_q ⟨#[102]⟩ _ [98] (HD2.out.below hb) (by decide) hv (fun q hq => .inr (by rw [← Option.some.inj hq]; exact Nat.le_refl _)) (by simp) (by omega)).mono ?_
      rintro e w3 ⟨D3, k3, rfl, d3, r3, b3⟩
      obtain ⟨rfl, o3, a3, _⟩ := HO2.out.appendD (by rw [HA2.out]; omega) right_f (by simp) (by simp) r3
      have HD3 := Lib.hid d3
      have HO3 := Lib.hid o3
      have HA3 : Hid (D3.armed = -1) := a3.trans (count_minus HA2.out)
      have HB3 := Lib.hid ((HB2.out.trans (hb.mono HB2.out.size)).trans (b3.mono (Nat.le_refl _)))
      clear d3 r3 o3 a3 b3 hW hv hb
      go_wp2_with fail
      --S3
      refine (sync_q ⟨#[102]⟩ HD3.out (by decide) (by omega)).mono ?_
      rintro e w4 ⟨D4, k4, rfl, d4, r4, b4⟩
      obtain ⟨rfl, o4, a4, _⟩ := HO3.out.syncD (by rw [HA3.out]; omega) right_f r4
      have HD4 := Lib.hid d4
      have HO4 := Lib.hid o4
      have HB4 := Lib.hid (HB3.out.trans (b4.mono (Nat.le_refl _)))
      clear d4 r4 o4 a4 b4
      go_wp2_with fail
      --S4
      refine (restart_q 1 (k : Int) (.slice none 0 0) [] HD4.out (by have h := HO4.out.sy; rw [if_neg (by decide)] at h; rw [h.1, h.2]; exact Nat.le_refl _) ⟨none, 0, rfl, by rfl, by simp, fun h => absurd h (Nat.lt_irrefl 0)⟩ (fun q hq => by cases hq) (by omega) (by simp) (by omega)).mono ?_
      rintro e w5 ⟨rfl, d5, b5⟩
      have HD5 := Lib.hid d5
      have HB5 := Lib.hid (HB4.out.trans (b5.mono (Nat.le_refl _)))
      clear d5 b5
      go_wp2_with fail
      --S5
      refine (read_q ⟨#[102]⟩ HD5.out (by decide)).mono ?_
      rintro e w6 hr
      by_cases hkz : k = 0
      · have b0 : ((k : Int) == 0) = true := by rw [hkz]; rfl
        have b1 : ((k : Int) == 1) = false := by rw [hkz]; rfl
        have hk0 : look (restartV D4 (k : Int) []).dir ⟨#[102]⟩ = none := by
          rw [(restart_dir D4 _ []).1, hkz]
          unfold keptV
          have h := HO4.out.sy
          rw [if_neg (by decide)] at h
          rw [h.1, h.2]
          rfl
        obtain ⟨h6, b6⟩ := read_none hr (restart_dir D4 _ []).2.2.2.2.1 hk0
        subst h6
        have HB6 := Lib.hid (HB5.out.trans (b6.mono HB5.out.size))
        clear hr hk0 b6 hkz
        go_wp2
        go_roundw
        case rel => exact ⟨k + 1, by omega, by go_num, HB6.out⟩
        case measure => simp [intOf]; omega
      · have b0 : ((k : Int) == 0) = false := by rw [beq_eq_false_iff_ne]; omega
        have b1 : ((k : Int) == 1) = true := by rw [beq_iff_eq]; omega
        have h7 := HO4.out.restart (by intro h; cases h) (k : Int) [] (.inr (by omega)) 2 (by rfl)
        rw [if_neg (by simp)] at h7
        obtain ⟨v6, rfl, o6⟩ := read_some hr h7.down (i := j) (by rw [h7.dir]; exact look_one _ _)
        rw [h7.file] at o6
        have HO6 : Hid (Ow w5 w6 v6 [97, 98]) := o6
        obtain ⟨A6, n6, c6, rfl, hn6⟩ := o6.slice
        obtain rfl : n6 = 2 := hn6
        have ks := str_of HO6.out.bs
        have k2 : ((strOfNums [97, 98]).toList == [97, 98]) = true := by decide +kernel
        have HB6 := Lib.hid (HB5.out.trans (HO6.out.below.mono HB5.out.size))
        clear hr h7 o6 hkz
        try clear hn6
        go_wp2
        go_roundw
        case rel => exact ⟨k + 1, by omega, by go_num, HB6.out⟩
        case measure => simp [intOf]; omega
    · go_wp2
      go_ret
      exact ⟨rfl, HB.out⟩
--END AWAKE
end Go.Proofs.YtononoakdebjeaaDoor.Dk
