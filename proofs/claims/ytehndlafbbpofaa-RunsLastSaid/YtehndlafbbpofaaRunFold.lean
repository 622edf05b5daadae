/- The contract of runs.Fold (a walk). -/
import Derived.Test.YtehndlafbbpofaaRunClones
import Derived.Test.YtehndlafbbpofaaRunSame
import Derived.Test.YtehndlafbbpofaaRunFoldMap
namespace Go.Proofs.Ytehndlafbbpofaa.Run
open Go.RowKit Go.Proofs.YtehndlafbbpofaaW.PrintWords Go.Proofs.YtehndlafbbpofaaW.PrintLast Go.Proofs.Ytehndlafbbpofaa.Base Go.Proofs.Ytehndlafbbpofaa.Pack Go.Maps
set_option linter.unusedVariables false
set_option linter.unusedSimpArgs false

theorem ownsMap_size {w : World} {P : Program} {k : TypeId} {R : Value → Option (DataW Value × List MemPlace)} {b n : Nat} {D : DataW Value} (h : w.ownsMap P k R b n D) : Maps.size D ≤ n := by
  obtain ⟨es, clock, _, _, hs, rfl⟩ := h
  show List.length _ ≤ n
  rw [length_sorted]
  simpa using hs
theorem strKeys_len (D : DataW Value) : (strKeys D).length ≤ Maps.size D := by
  cases D <;> simp [strKeys, Maps.size]
theorem keys_last {w0 w : World} {D : DataW Value} {ls : List RunV} {b n : Nat} (h : Dm w D ls) (hown : w0.ownsMap Try.prog 9 RH b n D) {x : List UInt8} (hx : x ∈ strKeys D) : ∃ r, lastR ⟨x.toArray⟩ ls = some r := by
  obtain ⟨es, rfl, hkeys⟩ := hown.keysOf
  obtain ⟨p, hp, rfl⟩ := List.mem_map.1 (show x ∈ es.map (fun p => strOf p.1) from hx)
  obtain ⟨v, hv⟩ := hkeys p hp
  obtain ⟨y, _, e, _⟩ := keyOf_str Try.underlying9 hv
  refine Option.isSome_iff_exists.1 ?_
  rw [← h.has, has_eq, List.any_eq_true]
  exact ⟨p, hp, by rw [e]; simp [Lit.sameKey, strOf]⟩
theorem map_get {w0 w : World} {D : DataW Value} {ls : List RunV} {b n : Nat} (h : Dm w0 D ls) (hown : w.ownsMap Try.prog 9 RH b n D) {s : ByteArray} {r : RunV} (hr : lastR s ls = some r) (hs : s.size ≤ maxLen) :
    ∃ v, (Instr.lookup 104 (.map (some b)) (.string s) false).run Try.prog w = .ok v w ∧ RunIs w0 v r := by
  have hz : (zeroValue 33).run Try.prog w = .ok (.agg #[.string ⟨#[]⟩, .string ⟨#[]⟩, .int .i64 0, .int .i64 0, .slice none 0 0, .slice none 0 0]) w := by kernel_rfl
  obtain ⟨v, ps, hrun, hv⟩ := hown.lookup (string_keyed Try.underlying9) Try.underlying104 hz rfl (Go.WideMaps.keyOf_string_mk Try.underlying9 hs)
  obtain ⟨v', h1, h2⟩ := h.at_ s r hr
  rw [h2] at hv
  simp only [RH, Option.some.injEq, Prod.mk.injEq, DataW.held.injEq] at hv
  rw [← hv.1] at h1
  exact ⟨v, hrun, h1⟩
--BEGIN WALK
set_option maxRecDepth 100000 in
set_option maxHeartbeats 8000000 in
theorem fold_any (v : Value) (l : List RunV) (w w0 : World) (h : Rz w0 w v l) (hw0 : Below w0.heap.size w0 w) (hl : l.length ≤ 1000) (hL : ∀ r ∈ l, LightR r) :
    Calls Try.prog 24 #[v] w fun e w' => ∃ v' wm, e = .returned v' ∧ (krun wm).R 33 w' wm.heap.size (fun _ => True) v' (foldR l) ∧ Below wm.heap.size wm w' ∧ Below w.heap.size w wm := by
  obtain ⟨A, c, rfl, hc, hC⟩ := h
  have hm := hC.2.1
  have HC := Lib.hid hC
  have HW0 := Lib.hid hw0
  have HLL := Lib.hid hL
  clear hC hw0 hL
  have hmm := @run_makeMap Try.prog
  obtain ⟨b, hb⟩ : ∃ b, w.heap.size = b := ⟨_, rfl⟩
  obtain ⟨Wb, hWb⟩ : ∃ Wb, Wb = w.alloc (.map #[] 0) := ⟨_, rfl⟩
  have hown : Wb.ownsMap Try.prog 9 RH b 0 (.map []) := by rw [hWb, ← hb]; exact World.ownsMap_made _ _ _ _
  have HB0 : Hid (Below w.heap.size w Wb) := by show Below _ _ _; rw [hWb]; exact below_alloc (Below.refl _ _) _
  have HOWN := Lib.hid hown
  have HWB := Lib.hid hWb
  have HBE := Lib.hid hb
  clear hown hWb
  go_enter Try.func24, Try.ntmps24
  go_wp2
  rw [← HWB.out]
  try rw [hb]
  clear hb hmm
  --S1
  go_loopw [12] (fun i wr => ∃ (k : Nat) (D : DataW Value), k ≤ l.length ∧ i = .int .i64 k ∧ Hid (wr.ownsMap Try.prog 9 RH b k D) ∧ Hid (Dm wr D (l.take k)) ∧ Hid (Below w.heap.size w wr)) (fun i _ => l.length - (intOf i).toNat)
  case atStart => exact ⟨0, _, by omega, rfl, HOWN.out, by rw [List.take_zero]; exact Dm.nil _, HB0.out⟩
  case round =>
    clear HOWN HB0 HWB
    obtain ⟨k, D, hk, rfl, HM, HD, HB⟩ := hrel
    by_cases l1 : k < l.length
    · obtain ⟨ad, vi, vf, e1, a6, h1, h2⟩ := c_at6 HC.out k l1
      cases e1
      have hr0 : l.getD k zv ∈ l := by rw [List.getD_eq_getElem?_getD, List.getElem?_eq_getElem l1]; exact List.getElem_mem l1
      have HIN : Hid (l.take (k + 1) = l.take k ++ [l.getD k zv]) := by
        show _ = _
        rw [List.take_add_one, List.getElem?_eq_getElem l1, List.getD_eq_getElem?_getD, List.getElem?_eq_getElem l1]; rfl
      have HLR := Lib.hid (HLL.out _ hr0)
      have HI6 := Lib.hid (a6.below HB.out)
      obtain ⟨r, hr⟩ : ∃ r, r = l.getD k zv := ⟨_, rfl⟩
      rw [← hr] at HIN HLR HI6 h1 h2
      have HRE := Lib.hid hr
      have HI1 := Lib.hid (h1.below HW0.out)
      have HF1 := Lib.hid (h2.below HW0.out)
      clear a6 hr0 hr h1 h2
      obtain ⟨A5, c5, e5, _, _⟩ := HI1.out.len
      obtain ⟨A6, c6, e6, _, _⟩ := HF1.out.len
      subst e5
      subst e6
      obtain ⟨ri, hri⟩ : ∃ ri, ri = r.ins.length := ⟨_, rfl⟩
      obtain ⟨rf, hrf⟩ : ∃ rf, rf = r.found.length := ⟨_, rfl⟩
      rw [← hri] at HI6 HI1
      rw [← hrf] at HI6 HF1
      have HRL : Hid (r.ins.length ≤ 500 ∧ r.found.length ≤ 700) := ⟨HLR.out.ins, HLR.out.found⟩
      clear hri hrf
      obtain ⟨q0, q1, q2, q3, q4, q5⟩ := HI6.out
      obtain ⟨W1, hW1⟩ : ∃ W1, W1 = wr.alloc (.cells #[.string r.out, .string r.cmd, .int .i64 r.time, .int .i64 r.mark, .slice A5 ri c5, .slice A6 rf c6] 33) := ⟨_, rfl⟩
      have HB1 : Hid (Below wr.heap.size wr W1) := by show Below _ _ _; rw [hW1]; exact below_alloc (Below.refl _ _) _
      obtain ⟨hh, hhh⟩ : ∃ hh, wr.heap.size = hh := ⟨_, rfl⟩
      have X1 : Hid (W1.heap[hh]? = some (.cells #[.string r.out, .string r.cmd, .int .i64 r.time, .int .i64 r.mark, .slice A5 ri c5, .slice A6 rf c6] 33 (0, 0))) := by show _ = _; rw [hW1, ← hhh]; exact blk_new wr _
      have HHE := Lib.hid hhh
      have HI2 := Lib.hid ((HI1.out.below HB.out).below HB1.out)
      have HF2 := Lib.hid ((HF1.out.below HB.out).below HB1.out)
      have HW1 := Lib.hid hW1
      clear hW1
      go_wp2
      rw [← HW1.out]
      try rw [hhh]
      clear hhh q0 q1 q2 q3 q4 q5
      have Q4 : Hid (W1.cell? ⟨hh, 4, none⟩ = some (.slice A5 ri c5)) := blk_cell X1.out 4
      have Q5 : Hid (W1.cell? ⟨hh, 5, none⟩ = some (.slice A6 rf c6)) := blk_cell X1.out 5
      --S2
      refine start_ (n := 10) (S := fun w' => Below W1.heap.size W1 w' ∧ w'.cell? ⟨hh, 4, none⟩ = some (.slice A5 ri c5) ∧ w'.cell? ⟨hh, 5, none⟩ = some (.slice A6 rf c6)) (ds := [7, 9]) #[false, false, false, false, false, false, false, false, false, false] (by kernel_rfl) rfl rfl ⟨Below.drew (Below.refl _ _), Q4.out, Q5.out⟩ (fun hHeld => ?_)
      refine pure_ (i := 0) (N := some 16) (v := ?_) (a' := ?_) #[true, false, false, false, false, false, false, false, false, false] rfl rfl (by kernel_rfl) (fun _ _ _ h => h) (Or.inl ⟨by rfl, ?_⟩) ?_ ?_
      rotate_left
      · intro w'
        go_simp
        with_reducible rfl
      rotate_left
      · simp only [Act.put, List.setIfInBounds_toArray, List.set_cons_zero, List.set_cons_succ, i64_w, i32_w]
        rfl
      refine pure_ (i := 3) (N := some 19) (v := ?_) (a' := ?_) #[true, false, false, true, false, false, false, false, false, false] rfl rfl (by kernel_rfl) (fun _ _ _ h => h) (Or.inl ⟨by rfl, ?_⟩) ?_ ?_
      rotate_left
      · intro w'
        go_simp
        with_reducible rfl
      rotate_left
      · simp only [Act.put, List.setIfInBounds_toArray, List.set_cons_zero, List.set_cons_succ, i64_w, i32_w]
        rfl
      refine take_ (i := 1) (N := some 17) (v := ?_) (a' := ?_) #[true, true, false, true, false, false, false, false, false, false] rfl rfl (by kernel_rfl) (fun _ _ _ h => h) (Or.inl ⟨by rfl, ?_⟩) hHeld ?_ ?_
      rotate_left
      · rintro w' ⟨s0, s1, s2⟩
        go_simp
        with_reducible rfl
      rotate_left
      · simp only [Act.put, List.setIfInBounds_toArray, List.set_cons_zero, List.set_cons_succ, i64_w, i32_w]
        rfl
      refine take_ (i := 4) (N := some 20) (v := ?_) (a' := ?_) #[true, true, false, true, true, false, false, false, false, false] rfl rfl (by kernel_rfl) (fun _ _ _ h => h) (Or.inl ⟨by rfl, ?_⟩) hHeld ?_ ?_
      rotate_left
      · rintro w' ⟨s0, s1, s2⟩
        go_simp
        with_reducible rfl
      rotate_left
      · simp only [Act.put, List.setIfInBounds_toArray, List.set_cons_zero, List.set_cons_succ, i64_w, i32_w]
        rfl
      refine one_ (i := 2) (N := some 18) #[true, true, true, true, true, false, false, false, false, false] rfl rfl (by kernel_rfl) (by decide) (fun K hK => ?_)
      refine goes_ Try.func58 (by kernel_rfl) rfl #[.slice A5 ri c5] (by rfl) rfl rfl (by first | (simp only [List.map_toArray, List.map_cons, List.map_nil]; done) | (simp only [List.map_toArray, List.map_cons, List.map_nil]; rfl) | rfl) ?_
      with_reducible refine (clone_ins _ r.ins _ (HI2.out.below hHeld.1) (by have := HRL.out.1; omega)).mono ?_
      rintro e w3 ⟨v3, rfl, r3, b3⟩
      refine ⟨_, rfl, ?_⟩
      have HR3 := Lib.hid r3
      have hb3 := hHeld.1.trans (b3.mono hHeld.1.size)
      obtain ⟨A3, c3, e3, _, _⟩ := (ri_is r3).len
      obtain ⟨n3, hn3⟩ : ∃ n3, n3 = r.ins.length := ⟨_, rfl⟩
      rw [← hn3] at e3
      subst e3
      clear r3 hn3 b3
      refine hK.out _ _ ⟨hb3, pw_cell_below (hb3) Q4.out, pw_cell_below (hb3) Q5.out⟩ (fun hHeld => ?_)
      clear hK K
      refine norm_ (a' := ?_) ?_ ?_
      rotate_left
      · show Act.put _ (some 18) _ = _
        simp only [Act.put, List.setIfInBounds_toArray, List.set_cons_zero, List.set_cons_succ, i64_w, i32_w]
        rfl
      refine pure_ (i := 6) (N := some 22) (v := ?_) (a' := ?_) #[true, true, true, true, true, false, true, false, false, false] rfl rfl (by kernel_rfl) (fun _ _ _ h => h) (Or.inl ⟨by rfl, ?_⟩) ?_ ?_
      rotate_left
      · intro w'
        go_simp
        with_reducible rfl
      rotate_left
      · simp only [Act.put, List.setIfInBounds_toArray, List.set_cons_zero, List.set_cons_succ, i64_w, i32_w]
        rfl
      refine one_ (i := 5) (N := some 21) #[true, true, true, true, true, true, true, false, false, false] rfl rfl (by kernel_rfl) (by decide) (fun K hK => ?_)
      refine goes_ Try.func59 (by kernel_rfl) rfl #[.slice A6 rf c6] (by rfl) rfl rfl (by first | (simp only [List.map_toArray, List.map_cons, List.map_nil]; done) | (simp only [List.map_toArray, List.map_cons, List.map_nil]; rfl) | rfl) ?_
      with_reducible refine (clone_ints _ r.found _ (HF2.out.below hHeld.1) (by have := HRL.out.2; omega)).mono ?_
      rintro e w4 ⟨v4, rfl, o4⟩
      refine ⟨_, rfl, ?_⟩
      have HO4 := Lib.hid o4
      have hb4 := hHeld.1.trans (o4.below.mono hHeld.1.size)
      have HR4 := Lib.hid (Kd.R_below HR3.out o4.below)
      have X4 : Hid (w4.heap[hh]? = some (.cells #[.string r.out, .string r.cmd, .int .i64 r.time, .int .i64 r.mark, .slice A5 ri c5, .slice A6 rf c6] 33 (0, 0))) := (hb4.block hh (blk_lt X1.out)).trans X1.out
      have f4 := blk_frozen X4.out 4
      have k4 := blk_cell X4.out 4
      obtain ⟨A4, n4, c4, e4, hn4⟩ := o4.slice
      subst e4
      clear o4 hn4
      refine hK.out _ _ ⟨hb4, pw_cell_below (hb4) Q4.out, pw_cell_below (hb4) Q5.out⟩ (fun hHeld => ?_)
      clear hK K
      refine norm_ (a' := ?_) ?_ ?_
      rotate_left
      · show Act.put _ (some 21) _ = _
        simp only [Act.put, List.setIfInBounds_toArray, List.set_cons_zero, List.set_cons_succ, i64_w, i32_w]
        rfl
      refine last_ (i := 7) (N := none) #[true, true, true, true, true, true, true, true, false, false] rfl rfl (by kernel_rfl) (by decide) (fun K hK => ?_)
      refine skip_ (w1 := ?_) (by rfl) rfl ?_ ?_
      rotate_left
      · go_simp
        rfl
      refine hK.out _ _ ?_
      clear hK K
      refine pure_ (i := 8) (N := some 23) (v := ?_) (a' := ?_) #[true, true, true, true, true, true, true, true, true, false] rfl rfl (by kernel_rfl) (fun _ _ _ h => h) (Or.inl ⟨by rfl, ?_⟩) ?_ ?_
      rotate_left
      · intro w'
        go_simp
        with_reducible rfl
      rotate_left
      · simp only [Act.put, List.setIfInBounds_toArray, List.set_cons_zero, List.set_cons_succ, i64_w, i32_w]
        rfl
      refine last_ (i := 9) (N := none) #[true, true, true, true, true, true, true, true, true, true] rfl rfl (by kernel_rfl) (by decide) (fun K hK => ?_)
      have X5 : Hid ((w4.setCell ⟨hh, 4, none⟩ (.slice A3 n3 c3)).heap[hh]? = some (.cells #[.string r.out, .string r.cmd, .int .i64 r.time, .int .i64 r.mark, .slice A3 n3 c3, .slice A6 rf c6] 33 (0, 0))) := blk_set X4.out 4 _
      have f5 := blk_frozen X5.out 5
      have k5 := blk_cell X5.out 5
      refine skip_ (w1 := ?_) (by rfl) rfl ?_ ?_
      rotate_left
      · go_simp
        rfl
      refine hK.out _ _ ?_
      clear hK K
      refine done_ (by kernel_rfl) ?_
      --S3
      have HX6 : Hid (((w4.setCell ⟨hh, 4, none⟩ (.slice A3 n3 c3)).setCell ⟨hh, 5, none⟩ (.slice A4 n4 c4)).heap[hh]? = some (.cells #[.string r.out, .string r.cmd, .int .i64 r.time, .int .i64 r.mark, .slice A3 n3 c3, .slice A4 n4 c4] 33 (0, 0))) := blk_set X5.out 5 _
      obtain ⟨W5, hW5⟩ : ∃ W5, W5 = ((w4.setCell ⟨hh, 4, none⟩ (.slice A3 n3 c3)).setCell ⟨hh, 5, none⟩ (.slice A4 n4 c4)) := ⟨_, rfl⟩
      rw [← hW5] at HX6
      rw [← hW5]
      have hle : wr.heap.size ≤ hh := by rw [← HHE.out]; exact Nat.le_refl _
      have B5 : Hid (Below wr.heap.size wr W5) := by show Below _ _ _; rw [hW5]; exact ((HB1.out.trans (hb4.mono HB1.out.size)).setCell hle _).setCell hle _
      have I5 : Hid (Is W5 (.slice A3 n3 c3) r.ins) := by show Is _ _ _; rw [hW5]; exact ri_is (Kd.R_set (Kd.R_set HR4.out X4.out (by decide) 4 _) X5.out (by decide) 5 _)
      have F5 : Hid (Fs W5 (.slice A4 n4 c4) r.found) := by
        show Fs _ _ _
        rw [hW5]
        exact fs_own (own_setCell (own_setCell HO4.out.own (own_ne HO4.out.own X4.out (by decide)) _) (own_ne (own_setCell HO4.out.own (own_ne HO4.out.own X4.out (by decide)) _) X5.out (by decide)) _)
      have RV : Hid (RunIs W5 (.agg #[.string r.out, .string r.cmd, .int .i64 r.time, .int .i64 r.mark, .slice A3 n3 c3, .slice A4 n4 c4]) r) := ⟨_, _, rfl, I5.out, F5.out⟩
      have M5 : Hid (W5.ownsMap Try.prog 9 RH b k D) := HM.out.kept (grown_of_below B5.out none) (by simp)
      have q0 := blk_cell HX6.out 0
      have hks : Hid (r.out.size ≤ maxLen) := by show r.out.size ≤ maxLen; have := HLR.out.out; simp only [maxLen]; omega
      have hkl : Hid (k < maxLen) := by show k < maxLen; simp only [maxLen]; omega
      clear hW5 X1 X4 X5 f4 f5 k4 k5 hb4 hHeld hle Q4 Q5
      go_wp2_with (with_reducible refine gate_ (.load 33 (.tmp 5)) rfl ?_; refine Held.of ?_)
      --S4
      refine Held.out (wpList_load_row rfl 33 (.tmp 5) rfl hh rfl 33 _ (0, 0) _ HX6.out Try.underlying33 rfl (by kernel_rfl) ?_)
      go_wp2_with (at_mapUpdate; refine Held.of ?_)
      --S5
      refine Held.out (wpList_mapUpdate_own _ rfl _ _ _ 104 rfl 9 33 (string_keyed Try.underlying9) Try.underlying104 RH b k D rfl M5.out hkl.out _ _ (.string r.out.data.toList) rfl rfl (Go.WideMaps.keyOf_string_mk Try.underlying9 hks.out) (.held (.agg #[.string r.out, .string r.cmd, .int .i64 r.time, .int .i64 r.mark, .slice A3 n3 c3, .slice A4 n4 c4])) [] rfl ?_)
      intro W6 m6 g6
      have HM6 := Lib.hid m6
      have HD6 : Hid (Dm W6 (D.put (.string r.out.data.toList) (.held (.agg #[.string r.out, .string r.cmd, .int .i64 r.time, .int .i64 r.mark, .slice A3 n3 c3, .slice A4 n4 c4]))) (l.take (k + 1))) := by
        show Dm _ _ _
        rw [HIN.out]
        obtain ⟨es, clk, hbm, _⟩ := M5.out
        exact ((HD.out.move (fun _ _ h => h.below B5.out)).put RV.out).move (fun _ _ h => h.map hbm g6)
      have HB6 : Hid (Below w.heap.size w W6) := (HB.out.trans (B5.out.mono HB.out.size)).grown g6 (HB.out.trans (B5.out.mono HB.out.size)).size (fun k' hk' => by injection hk' with hk'; rw [← hk', ← HBE.out]; exact Nat.le_refl _)
      clear m6 g6 q0
      go_wp2
      go_roundw
      case rel => exact ⟨k + 1, _, by omega, by go_num, HM6.out, HD6.out, HB6.out⟩
      case measure => simp [intOf]; omega
    · have hk2 : k = l.length := by omega
      have HD1 : Hid (Dm wr D l) := by have h := HD.out; rw [hk2, List.take_length] at h; exact h
      have hkn : k ≤ 1000 := by omega
      clear hk2 HD
      --S6
      have hsz : Hid (Maps.size D ≤ k) := ownsMap_size HM.out
      go_wp2_with fail
      refine (callsIn_wide.1 (Try.maps_Keys_61 (some b) _)).mono ?_
      rintro e w1 ⟨rfl, rfl⟩
      go_wp2_with fail
      refine (callsIn_wide.1 (Try.slices_Sorted_keys_60_61 b k D RH wr HM.out (by have := hsz.out; simp only [maxLen]; omega) (by have := hsz.out; omega))).mono ?_
      rintro e w2 ⟨v2, ss, rfl, hss, hrow, _, hb2⟩
      --S7
      obtain ⟨ks, hks⟩ : ∃ ks, ks = ss.mergeSort (fun x y => decide (x ≤ y)) := ⟨_, rfl⟩
      have HF : Hid (runsOf l ks = foldR l) := by show _ = _; rw [hks]; exact sorted_keys HD1.out HM.out hss
      have hlen : ss.length = ks.length := by rw [hks]; exact (List.length_mergeSort ss).symm
      have hkl2 : ks.length ≤ k := by
        have h1 := hss.length_eq
        rw [← hlen, h1]
        exact Nat.le_trans (strKeys_len D) hsz.out
      have HKM : Hid (∀ x ∈ ks, ∃ r, lastR ⟨x.toArray⟩ l = some r) := by
        intro x hx
        have h1 : x ∈ strKeys D := hss.mem_iff.1 ((List.mergeSort_perm ss _).mem_iff.1 (by rw [← hks]; exact hx))
        exact keys_last HD1.out HM.out h1
      rw [← hks, hlen] at hrow
      obtain ⟨A3, c3, e3, hc3, hr3⟩ := own_reads_of_le (enc := encStr) (d := []) hrow
      subst e3
      have HB1 := Lib.hid (below_alloc (Below.refl wr.heap.size wr) (.cells #[.map (some b)] 104))
      have HB2 := Lib.hid (HB1.out.trans (hb2.mono HB1.out.size))
      have HBm : Hid (Below w.heap.size w w2) := HB.out.trans (HB2.out.mono HB.out.size)
      have HMm := Lib.hid (HM.out.kept (grown_of_below HB2.out none) (by simp))
      have HDm := Lib.hid (HD1.out.move (fun _ _ h => h.below HB2.out))
      have HR3 := Lib.hid hr3
      have HKS := Lib.hid hks
      obtain ⟨n3, hn3⟩ : ∃ n3, n3 = ks.length := ⟨_, rfl⟩
      rw [← hn3] at hc3 hr3
      have HN3 := Lib.hid hn3
      have hm3 : n3 ≤ 1000 := by rw [hn3]; omega
      rw [← hn3]
      clear hlen hkl2 hrow hr3 hks hss hb2 hsz HD1 HM HB hn3
      obtain ⟨wm, hwm⟩ : ∃ wm, wm = w2 := ⟨_, rfl⟩
      subst hwm
      go_wp2
      --S8
      go_loopw [6, 33] (fun s6 i wr => ∃ (j : Nat), j ≤ n3 ∧ i = .int .i64 j ∧ Hid ((krun wm).R 33 wr wm.heap.size (fun _ => True) s6 (runsOf l (ks.take j))) ∧ Hid (Below wm.heap.size wm wr)) (fun _ i _ => n3 - (intOf i).toNat)
      case atStart => exact ⟨0, by omega, rfl, by rw [List.take_zero]; exact Kd.R_nil _ _ _ _ _, Below.refl _ _⟩
      case round =>
        obtain ⟨j, hj, rfl, HA, HBk⟩ := hrel
        by_cases l2 : j < n3
        · obtain ⟨x, hx⟩ : ∃ x, x = ks.getD j [] := ⟨_, rfl⟩
          have hjk : j < ks.length := by rw [← HN3.out]; exact l2
          have hxe : ks[j]? = some x := by rw [hx, List.getD_eq_getElem?_getD, List.getElem?_eq_getElem hjk]; rfl
          have hxk : x ∈ ks := List.mem_of_getElem? hxe
          obtain ⟨r, hr⟩ := HKM.out x hxk
          have hTK : runsOf l (ks.take (j + 1)) = runsOf l (ks.take j) ++ [r] := by
            unfold runsOf
            rw [List.take_add_one, hxe]
            simp [hr]
          have HTK := Lib.hid hTK
          obtain ⟨ad3, e3, q3⟩ := (HR3.out.below HBk.out).2.2 (by rw [← HN3.out]; omega)
          subst e3
          have q4 := q3 j hjk
          rw [← hx] at q4
          obtain ⟨s, hs⟩ : ∃ s : ByteArray, s = ⟨x.toArray⟩ := ⟨_, rfl⟩
          have hse : encStr x = .string s := by rw [hs]
          rw [hse] at q4
          rw [← hs] at hr
          have hsl : s.size ≤ maxLen := by
            obtain ⟨h1, h2⟩ := lastR_out hr
            have := (HLL.out r h2).out
            rw [← h1]
            simp only [maxLen]; omega
          have hml : (ks.take j).length = j := by rw [List.length_take]; omega
          have HML := Lib.hid hml
          obtain ⟨v, hrun, hv⟩ := map_get HDm.out (HMm.out.kept (grown_of_below HBk.out none) (by simp)) hr hsl
          obtain ⟨vi, vf, ev, hi, hf⟩ := hv
          subst ev
          have HI := Lib.hid hi
          have HF1 := Lib.hid hf
          obtain ⟨A6, c6, e6⟩ := Kd.R_slice HA.out
          subst e6
          have hrl : (runsOf l (ks.take j)).length = j := by unfold runsOf; rw [List.length_map, hml]
          have HRL := Lib.hid hrl
          rw [hrl] at HA
          rw [hrl]
          clear hx hjk hxe hxk hr hTK q3 hs hse hsl hml hi hf hrl
          go_wp2_with (at_builtin; refine Held.of ?_)
          --S9
          refine Held.out (Kd.R_append (krun wm) (w0 := wm) wm.heap.size rfl (.tmp 37) (.tmp 41) 54 33 (.agg #[.string ⟨#[]⟩, .string ⟨#[]⟩, .int .i64 0, .int .i64 0, .slice none 0 0, .slice none 0 0]) 96 rfl Try.underlying54 (by kernel_rfl) rfl (by show 0 < 6; decide) (by decide) (.slice A6 j c6) (runsOf l (ks.take j)) r [.string r.out, .string r.cmd, .int .i64 r.time, .int .i64 r.mark, vi, vf] (fun _ => True) (fun _ => False) rfl rfl ⟨vi, vf, rfl, HI.out, HF1.out⟩ (fun _ hk => hk.elim) (fun _ _ => trivial) HA.out HBk.out HBk.out.size (by rw [HRL.out]; omega) ?_)
          intro va w1 r1 b1 _ _
          rw [← HTK.out] at r1
          have HR1 := Lib.hid r1
          have HB3 := Lib.hid b1
          clear r1 b1 q4 hrun
          go_wp2
          go_roundw
          case rel => exact ⟨j + 1, by omega, by go_num, HR1.out, HB3.out⟩
          case measure => simp [intOf]; omega
        · have hj2 : j = n3 := by omega
          have HAe := HA.out
          rw [hj2, HN3.out, List.take_length, HF.out] at HAe
          have HAe := Lib.hid HAe
          clear hj2
          go_wp2
          go_ret
          exact ⟨_, wm, rfl, HAe.out, HBk.out, HBm.out⟩
--END WALK
end Go.Proofs.Ytehndlafbbpofaa.Run
