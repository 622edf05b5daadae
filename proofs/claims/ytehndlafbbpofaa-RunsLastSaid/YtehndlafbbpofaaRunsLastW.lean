/- The law RunsLast returns true (a walk). -/
import Derived.Test.YtehndlafbbpofaaRunPartsPure
namespace Go.Proofs.Ytehndlafbbpofaa.Run
open Go.RowKit Go.Proofs.YtehndlafbbpofaaW.PrintWords Go.Proofs.YtehndlafbbpofaaW.PrintLast Go.Proofs.Ytehndlafbbpofaa.Base Go.Proofs.Ytehndlafbbpofaa.Pack
set_option linter.unusedVariables false
set_option linter.unusedSimpArgs false

theorem metR_snoc (s : ByteArray) (l : List RunV) (x : RunV) : metR s (l ++ [x]) = (metR s l || decide (x.out = s)) := by simp [metR]
--BEGIN WALK
set_option maxRecDepth 100000 in
set_option maxHeartbeats 8000000 in
theorem RunsLast_any (v va : Value) (l : List RunV) (r : RunV) (w : World) (h : Rz w w v l) (h1 : RunIs w va r) (hfl : ∀ r ∈ l, FitR r) (hfa : FitR r) :
    Calls Try.prog 9 #[v, va] w fun e w' => e = .returned (.bool true) ∧ Below w.heap.size w w' := by
  obtain ⟨vi1, vf1, rfl, hI1, hF1⟩ := h1
  obtain ⟨AI1, cI1, rfl, hcI1, hmI1⟩ := hI1.len
  obtain ⟨AF1, cF1, rfl, hcF1, hmF1⟩ := hF1.len
  obtain ⟨i1, hi1⟩ : ∃ i1, i1 = r.ins.length := ⟨_, rfl⟩
  obtain ⟨f1, hf1⟩ : ∃ f1, f1 = r.found.length := ⟨_, rfl⟩
  rw [← hi1] at hI1 hcI1 hmI1 ⊢
  rw [← hf1] at hF1 hcF1 hmF1 ⊢
  obtain ⟨Wb, hWb⟩ : ∃ Wb, Wb = w.alloc (.cells #[.string r.out, .string r.cmd, .int .i64 r.time, .int .i64 r.mark, .slice AI1 i1 cI1, .slice AF1 f1 cF1] 25) := ⟨_, rfl⟩
  have hb0 : Below w.heap.size w Wb := by rw [hWb]; exact below_alloc (Below.refl _ _) _
  have hx1 : Wb.heap[w.heap.size]? = some (.cells #[.string r.out, .string r.cmd, .int .i64 r.time, .int .i64 r.mark, .slice AI1 i1 cI1, .slice AF1 f1 cF1] 25 (0, 0)) := by rw [hWb]; exact blk_new w _
  have RA : Hid (RunIs Wb (.agg #[.string r.out, .string r.cmd, .int .i64 r.time, .int .i64 r.mark, .slice AI1 i1 cI1, .slice AF1 f1 cF1]) r) := ⟨_, _, rfl, hI1.below hb0, hF1.below hb0⟩
  obtain ⟨A, c, rfl, hc, hm⟩ := h.len
  have RL := Lib.hid (h.both hb0)
  have X1 := Lib.hid hx1
  have HB0 := Lib.hid hb0
  have HWB := Lib.hid hWb
  have HFL := Lib.hid hfl
  have HFA := Lib.hid hfa
  clear h hI1 hF1 hb0 hWb hx1 hi1 hf1 hfl hfa
  obtain ⟨n, hn⟩ : ∃ n, n = l.length := ⟨_, rfl⟩
  rw [← hn] at hc hm RL
  rw [← hn]
  have HN := Lib.hid hn
  clear hn
  go_enter Try.func9, Try.ntmps9
  go_wp2_with fail
  rw [← HWB.out]
  refine (all_any _ l _ RL.out HFL.out).mono ?_
  rintro e w1 ⟨he, hb1⟩
  have HB1 := Lib.hid (HB0.out.trans (hb1.mono HB0.out.size))
  have RL1 := Lib.hid (RL.out.both hb1)
  have RA1 := Lib.hid (RA.out.below hb1)
  have X11 := Lib.hid ((hb1.block _ (blk_lt X1.out)).trans X1.out)
  clear hb1 RL RA X1 HB0
  rcases he with ⟨rfl, hl60, hL⟩ | rfl
  case inr =>
    go_wp2
    go_ret
    exact ⟨rfl, HB1.out⟩
  have HLL := Lib.hid hL
  clear hL
  have hn60 : n ≤ 60 := by rw [HN.out]; exact hl60
  clear hl60
  have q0 := blk_cell X11.out 0
  have q1 := blk_cell X11.out 1
  have q2 := blk_cell X11.out 2
  have q3 := blk_cell X11.out 3
  have q4 := blk_cell X11.out 4
  have q5 := blk_cell X11.out 5
  go_wp2_with fail
  clear q0 q1 q2 q3 q4 q5
  --S1
  refine (light_any _ r _ RA1.out HFA.out.out HFA.out.cmd HFA.out.names).mono ?_
  rintro e Wc ⟨he, hb2⟩
  have HBc := Lib.hid (HB1.out.trans (hb2.mono HB1.out.size))
  have RL3 := Lib.hid (RL1.out.both hb2)
  have RA3 := Lib.hid (RA1.out.below hb2)
  have X3 := Lib.hid ((hb2.block _ (blk_lt X11.out)).trans X11.out)
  clear hb2 RL1 RA1 X11 HB1
  rcases he with ⟨rfl, hL⟩ | rfl
  case inr =>
    go_wp2
    go_ret
    exact ⟨rfl, HBc.out⟩
  have HLA := Lib.hid hL
  clear hL
  go_wp2
  --S2
  go_loopw [5, 6, 7] (fun sx sm i wr => ∃ (k : Nat) (mt : Bool), k ≤ n ∧ i = .int .i64 k ∧ sm = .bool mt ∧ Hid (mt = metR r.out (l.take k)) ∧ Hid (kown.R 33 wr Wc.heap.size (fun _ => True) sx (l.take k)) ∧ Hid (Below Wc.heap.size Wc wr)) (fun _ _ i _ => n - (intOf i).toNat)
  case atStart => exact ⟨0, false, by omega, rfl, rfl, rfl, by rw [List.take_zero]; exact Kd.R_nil _ _ _ _ _, Below.refl _ _⟩
  case round =>
    obtain ⟨k, mt, hk, rfl, rfl, HMT, HX, HB⟩ := hrel
    by_cases l1 : k < n
    · have hkl : k < l.length := by rw [← HN.out]; exact l1
      have hC0 := rz_c RL3.out
      obtain ⟨ad1, vi1, vf1, e1, a1, hI1, hF1⟩ := c_at6 hC0 k hkl
      subst e1
      have hr0 : l.getD k zv ∈ l := by rw [List.getD_eq_getElem?_getD, List.getElem?_eq_getElem hkl]; exact List.getElem_mem hkl
      have HLR := Lib.hid (HLL.out _ hr0)
      have HTK : Hid (l.take (k + 1) = l.take k ++ [l.getD k zv]) := by
        show _ = _
        rw [List.take_add_one, List.getElem?_eq_getElem hkl, List.getD_eq_getElem?_getD, List.getElem?_eq_getElem hkl]; rfl
      have B1 := a1.below HB.out
      have HI1 := Lib.hid (And.intro (hI1.below HB.out) (hF1.below HB.out))
      have HC0 := Lib.hid a1.c0
      generalize l.getD k zv = x at B1 HI1 HLR HTK HC0
      clear a1 hI1 hF1 hr0 hC0
      obtain ⟨A3, c3, rfl, _, _⟩ := HI1.out.1.len
      obtain ⟨A4, c4, rfl, _, _⟩ := HI1.out.2.len
      obtain ⟨ri, hri⟩ : ∃ ri, ri = x.ins.length := ⟨_, rfl⟩
      obtain ⟨rf, hrf⟩ : ∃ rf, rf = x.found.length := ⟨_, rfl⟩
      rw [← hri, ← hrf] at B1 HI1
      have HRI : Hid (RunIs wr (.agg #[.string x.out, .string x.cmd, .int .i64 x.time, .int .i64 x.mark, .slice A3 ri c3, .slice A4 rf c4]) x) := ⟨_, _, rfl, HI1.out.1, HI1.out.2⟩
      clear hri hrf HI1
      obtain ⟨q0, q1, q2, q3, q4, q5⟩ := B1
      go_wp2_with fail
      --S4
      refine (of_any_own _ x _ HRI.out (by have := HLR.out.ins; omega) (by have := HLR.out.found; omega)).mono ?_
      rintro e w5 ⟨v5, rfl, ro, bo⟩
      obtain ⟨vi5, vf5, ev5, _, _⟩ := id ro
      subst ev5
      have HM5 := Lib.hid (kown.M_lower HB.out.size (ro_m ro))
      have HB5 := Lib.hid (HB.out.trans (bo.mono HB.out.size))
      have HX5 := Lib.hid (Kd.R_below HX.out bo)
      have HOK : Hid (∀ k', (wr.heap.size ≤ k' ∧ k' < w5.heap.size) → some k' ≠ Value.ownBlock _) := fun k' hk' he' => by
        obtain ⟨inner, ho⟩ := Kd.R_own HX.out
        have := own_lt ho k' he'.symm
        omega
      have hlk : (l.take k).length = k := by rw [List.length_take]; omega
      have HLK := Lib.hid hlk
      clear ro bo q0 q1 q2 q3 q4 q5 hlk hkl
      go_wp2_with (at_builtin; refine Held.of ?_)
      refine Held.out (Kd.R_append kown (w0 := Wc) Wc.heap.size rfl (.tmp 27) (.tmp 33) 54 33 (.agg #[.string ⟨#[]⟩, .string ⟨#[]⟩, .int .i64 0, .int .i64 0, .slice none 0 0, .slice none 0 0]) 96 rfl Try.underlying54 (by kernel_rfl) rfl (by show 0 < 6; decide) (by decide) _ (l.take k) x [.string x.out, .string x.cmd, .int .i64 x.time, .int .i64 x.mark, vi5, vf5] (fun _ => True) (fun k' => wr.heap.size ≤ k' ∧ k' < w5.heap.size) rfl rfl HM5.out (fun k' hk' => ⟨trivial, HOK.out k' hk'⟩) (fun _ _ => trivial) HX5.out HB5.out HB5.out.size (by rw [HLK.out]; omega) ?_)
      intro v6 w6 r6 b6 _ _
      rw [← HTK.out] at r6
      have HX6 := Lib.hid r6
      have HB6 := Lib.hid b6
      have HMS : Hid (metR r.out (l.take (k + 1)) = (mt || decide (x.out = r.out))) := by show _ = _; rw [HTK.out, metR_snoc, ← HMT.out]
      have q0 : w6.cell? (ad1.add (k * 6)) = some (.string x.out) := pw_cell_below HB6.out HC0.out
      have x0 : w6.cell? ⟨w.heap.size, 0, none⟩ = some (.string r.out) := blk_cell ((HB6.out.block _ (blk_lt X3.out)).trans X3.out) 0
      clear r6 b6 HM5 HX5 HOK HX
      --S5
      cases mt
      · by_cases hs : x.out = r.out
        · have hq : (x.out.toList == r.out.toList) = true := by rw [str_eq_iff]; exact decide_eq_true hs
          have HE : Hid (metR r.out (l.take (k + 1)) = true) := by show _ = _; rw [HMS.out, decide_eq_true hs]; rfl
          clear hs
          go_wp2
          go_quiet (fail)
          go_wp2
          go_roundw
          case rel => exact ⟨k + 1, true, by omega, by go_num, rfl, HE.out.symm, Kd.R_below HX6.out (pw_below_drewN (Below.refl _ _) _), pw_below_drewN HB6.out _⟩
          case measure => simp [intOf]; omega
        · have hq : (x.out.toList == r.out.toList) = false := by rw [str_eq_iff]; exact decide_eq_false hs
          have HE : Hid (metR r.out (l.take (k + 1)) = false) := by show _ = _; rw [HMS.out, decide_eq_false hs]; rfl
          clear hs
          go_wp2
          go_quiet (fail)
          go_wp2
          go_roundw
          case rel => exact ⟨k + 1, false, by omega, by go_num, rfl, HE.out.symm, Kd.R_below HX6.out (pw_below_drewN (Below.refl _ _) _), pw_below_drewN HB6.out _⟩
          case measure => simp [intOf]; omega
      · have HE : Hid (metR r.out (l.take (k + 1)) = true) := by show _ = _; rw [HMS.out]; rfl
        go_wp2
        go_quiet (fail)
        go_wp2
        go_roundw
        case rel => exact ⟨k + 1, true, by omega, by go_num, rfl, HE.out.symm, Kd.R_below HX6.out (pw_below_drewN (Below.refl _ _) _), pw_below_drewN HB6.out _⟩
        case measure => simp [intOf]; omega
    · have hk2 : k = n := by omega
      have HXe := HX.out
      rw [hk2, HN.out, List.take_length] at HXe
      have RX := Lib.hid (own_rz HXe)
      obtain ⟨A7, c7, e7, hc7, _⟩ := RX.out.len
      subst e7
      have HMe : Hid (mt = metR r.out l) := by have h := HMT.out; rw [hk2, HN.out, List.take_length] at h; exact h
      have hl60 : l.length ≤ 60 := by rw [← HN.out]; exact hn60
      rw [← HN.out] at RX hc7 HXe
      rw [← HN.out]
      have HXE := Lib.hid HXe
      have HL60 := Lib.hid hl60
      have RAw := Lib.hid (RA3.out.below HB.out)
      have X1w := Lib.hid ((HB.out.block _ (blk_lt X3.out)).trans X3.out)
      have HBw := Lib.hid (HBc.out.trans (HB.out.mono HBc.out.size))
      clear hk2 HXe HX hl60 RL3 HMT
      obtain ⟨wz, hwz⟩ : ∃ wz, wz = wr := ⟨_, rfl⟩
      subst hwz
      go_wp2_with fail
      --S6
      refine (fold_any _ l _ wz RX.out (Below.refl _ _) (by have := HL60.out; omega) HLL.out).mono ?_
      rintro e w8 ⟨v8, m8, rfl, rr, bb, bb2⟩
      have HB8 := Lib.hid (bb2.trans (bb.mono bb2.size))
      obtain ⟨A8, c8, e8, _, _⟩ := (krun_rz rr).len
      subst e8
      obtain ⟨m, hmm⟩ : ∃ m, m = (foldR l).length := ⟨_, rfl⟩
      rw [← hmm]
      have HMM := Lib.hid hmm
      have hm60 : m ≤ 60 := by rw [hmm]; exact Nat.le_trans (foldR_len l) HL60.out
      have HBx := Lib.hid (HB.out.trans (HB8.out.mono HB.out.size))
      have HX8 := Lib.hid (Kd.R_below HXE.out HB8.out)
      have RA8 := Lib.hid (RAw.out.below HB8.out)
      have X8 := Lib.hid ((HB8.out.block _ (blk_lt X1w.out)).trans X1w.out)
      clear rr bb bb2 hmm RX HXE HB
      have q0 := blk_cell X8.out 0
      have q1 := blk_cell X8.out 1
      have q2 := blk_cell X8.out 2
      have q3 := blk_cell X8.out 3
      have q4 := blk_cell X8.out 4
      have q5 := blk_cell X8.out 5
      go_wp2_with fail
      clear q0 q1 q2 q3 q4 q5
      --S7
      refine (of_any_own _ r _ RA8.out (by have := HLA.out.ins; omega) (by have := HLA.out.found; omega)).mono ?_
      rintro e w5 ⟨v5, rfl, ro, bo⟩
      obtain ⟨vi5, vf5, ev5, _, _⟩ := id ro
      subst ev5
      have HM5 := Lib.hid (kown.M_lower HBx.out.size (ro_m ro))
      have HB5 := Lib.hid (HBx.out.trans (bo.mono HBx.out.size))
      have HX5 := Lib.hid (Kd.R_below HX8.out bo)
      have HOK : Hid (∀ k', (w8.heap.size ≤ k' ∧ k' < w5.heap.size) → some k' ≠ Value.ownBlock _) := fun k' hk' he' => by
        obtain ⟨inner, ho⟩ := Kd.R_own HX8.out
        have := own_lt ho k' he'.symm
        omega
      have HB85 := Lib.hid bo
      clear ro bo
      go_wp2_with (at_builtin; refine Held.of ?_)
      --S8
      refine Held.out (Kd.R_append kown (w0 := Wc) Wc.heap.size rfl (.tmp 48) (.tmp 51) 54 33 (.agg #[.string ⟨#[]⟩, .string ⟨#[]⟩, .int .i64 0, .int .i64 0, .slice none 0 0, .slice none 0 0]) 96 rfl Try.underlying54 (by kernel_rfl) rfl (by show 0 < 6; decide) (by decide) _ l r [.string r.out, .string r.cmd, .int .i64 r.time, .int .i64 r.mark, vi5, vf5] (fun _ => True) (fun k' => w8.heap.size ≤ k' ∧ k' < w5.heap.size) rfl rfl HM5.out (fun k' hk' => ⟨trivial, HOK.out k' hk'⟩) (fun _ _ => trivial) HX5.out HB5.out HB5.out.size (by have := HL60.out; omega) ?_)
      intro v6 w6 r6 b6 g6 _
      have HX6 := Lib.hid r6
      have HB6 := Lib.hid b6
      have RX6 := Lib.hid (own_rz r6)
      have HL1 : Hid (∀ y ∈ l ++ [r], LightR y) := fun y hy => by
        rcases List.mem_append.1 hy with h | h
        · exact HLL.out y h
        · rw [List.mem_singleton.1 h]; exact HLA.out
      have HL61 : Hid ((l ++ [r]).length ≤ 1000) := by show (l ++ [r]).length ≤ 1000; rw [List.length_append, List.length_singleton]; have := HL60.out; omega
      have RA6 := Lib.hid (RA3.out.below HB6.out)
      have X6 := Lib.hid ((HB6.out.block _ (blk_lt X3.out)).trans X3.out)
      clear r6 b6 g6 HM5 HX5 HOK HX8 RA8 X8 RAw X1w HB85
      go_wp2_with fail
      --S9
      refine (fold_any _ _ _ w6 RX6.out (Below.refl _ _) HL61.out HL1.out).mono ?_
      rintro e w9 ⟨v9, m9, rfl, rr, bb, bb2⟩
      have hbb := bb2.trans (bb.mono bb2.size)
      have HB9 := Lib.hid (HB6.out.trans (hbb.mono HB6.out.size))
      have HM9 := Lib.hid bb
      have R9 := Lib.hid (krun_rz rr)
      obtain ⟨A9, c9, e9, hc9, _⟩ := R9.out.len
      obtain ⟨m2, hmm2⟩ : ∃ m2, m2 = (foldR (l ++ [r])).length := ⟨_, rfl⟩
      rw [← hmm2] at e9 hc9
      subst e9
      have HM2 := Lib.hid hmm2
      have hm61 : m2 ≤ 1000 := by rw [hmm2]; exact Nat.le_trans (foldR_len _) HL61.out
      have RA9 := Lib.hid (RA6.out.below hbb)
      have X9 := Lib.hid ((hbb.block _ (blk_lt X6.out)).trans X6.out)
      have HBy := Lib.hid (HBc.out.trans (HB9.out.mono HBc.out.size))
      have HLN : Hid (m2 = if mt = true then m else m + 1) := by show _ = _; rw [hmm2, fold_snoc_len, HMe.out, HMM.out]
      clear rr bb bb2 hbb hmm2 RX6 HX6 HB6 HB5 HBx HB8 HBw
      obtain ⟨wy, hwy⟩ : ∃ wy, wy = w9 := ⟨_, rfl⟩
      subst hwy
      cases mt
      · have hln : m2 = m + 1 := HLN.out
        have hql : ((m2 : Int) == (m : Int) + 1) = true := by rw [hln]; simp
        clear hln
        go_wp2
        --S10False
        go_loopw [11, 12] (fun st i wr => ∃ (j ct : Nat), j ≤ m2 ∧ i = .int .i64 j ∧ ct ≤ j ∧ st = .int .i64 ct ∧ Hid (ct = cntR r.out ((foldR (l ++ [r])).take j)) ∧ Hid (Below wy.heap.size wy wr)) (fun _ i _ => m2 - (intOf i).toNat)
        case atStart => exact ⟨0, 0, by omega, rfl, by omega, rfl, rfl, Below.refl _ _⟩
        case round =>
          obtain ⟨j, ct, hj, rfl, hct, rfl, HCT, HB⟩ := hrel
          by_cases l2 : j < m2
          · have hjl : j < (foldR (l ++ [r])).length := by rw [← HM2.out]; exact l2
            obtain ⟨ad1, vi1, vf1, e1, a1, hI1, hF1⟩ := c_at6 (rz_c R9.out) j hjl
            subst e1
            have HTK : Hid ((foldR (l ++ [r])).take (j + 1) = (foldR (l ++ [r])).take j ++ [(foldR (l ++ [r])).getD j zv]) := by
              show _ = _
              rw [List.take_add_one, List.getElem?_eq_getElem hjl, List.getD_eq_getElem?_getD, List.getElem?_eq_getElem hjl]; rfl
            have HYM : Hid ((foldR (l ++ [r])).getD j zv ∈ foldR (l ++ [r])) := by show _ ∈ _; rw [List.getD_eq_getElem?_getD, List.getElem?_eq_getElem hjl]; exact List.getElem_mem hjl
            have B1 := a1.below HB.out
            have HI1 := Lib.hid (And.intro ((hI1.below HM9.out).below HB.out) ((hF1.below HM9.out).below HB.out))
            generalize (foldR (l ++ [r])).getD j zv = y at B1 HI1 HTK HYM
            clear a1 hI1 hF1 hjl
            obtain ⟨A3, c3, rfl, _, _⟩ := HI1.out.1.len
            obtain ⟨A4, c4, rfl, _, _⟩ := HI1.out.2.len
            obtain ⟨ri, hri⟩ : ∃ ri, ri = y.ins.length := ⟨_, rfl⟩
            obtain ⟨rf, hrf⟩ : ∃ rf, rf = y.found.length := ⟨_, rfl⟩
            rw [← hri, ← hrf] at B1 HI1
            have HRI : Hid (RunIs wr (.agg #[.string y.out, .string y.cmd, .int .i64 y.time, .int .i64 y.mark, .slice A3 ri c3, .slice A4 rf c4]) y) := ⟨_, _, rfl, HI1.out.1, HI1.out.2⟩
            clear hri hrf HI1
            have HB61 := Lib.hid B1
            have q0 := B1.c0
            have Xr := Lib.hid ((HB.out.block _ (blk_lt X9.out)).trans X9.out)
            have x0 : wr.cell? ⟨w.heap.size, 0, none⟩ = some (.string r.out) := blk_cell Xr.out 0
            clear B1
            by_cases hs : y.out = r.out
            · have hq : (y.out.toList == r.out.toList) = true := by rw [str_eq_iff]; exact decide_eq_true hs
              have HYR : Hid (y = r) := fold_snoc_at l r y HYM.out hs
              have HCN : Hid (ct + 1 = cntR r.out ((foldR (l ++ [r])).take (j + 1))) := by show _ = _; rw [HTK.out, cntR_snoc, if_pos hs, ← HCT.out]
              clear hs
              go_wp2
              go_quiet (fail)
              go_upto_region 21 with fail
              clear q0 x0
              obtain ⟨wq, hwq⟩ : ∃ wq, wq = wr.drewN nq := ⟨_, rfl⟩
              rw [← hwq]
              have HBQ : Hid (Below wr.heap.size wr wq) := by show Below _ _ _; rw [hwq]; exact pw_below_drewN (Below.refl _ _) _
              have HRJ : Hid (RunIs wq (.agg #[.string y.out, .string y.cmd, .int .i64 y.time, .int .i64 y.mark, .slice A3 ri c3, .slice A4 rf c4]) r) := by have h := HRI.out.below HBQ.out; rw [HYR.out] at h ⊢; exact h
              have RAq := Lib.hid ((RA9.out.below HB.out).below HBQ.out)
              have Xq := Lib.hid ((HBQ.out.block _ (blk_lt Xr.out)).trans Xr.out)
              obtain ⟨q0, q1, q2, q3, q4, q5⟩ := HB61.out.below HBQ.out
              clear hwq
              have Q0 : Hid (wq.cell? (ad1.add (j * 6)) = some (.string y.out)) := q0
              have Q1 : Hid (wq.cell? ⟨(ad1.add (j * 6)).block, (ad1.add (j * 6)).off + 1, none⟩ = some (.string y.cmd)) := q1
              have Q2 : Hid (wq.cell? ⟨(ad1.add (j * 6)).block, (ad1.add (j * 6)).off + 2, none⟩ = some (.int .i64 y.time)) := q2
              have Q3 : Hid (wq.cell? ⟨(ad1.add (j * 6)).block, (ad1.add (j * 6)).off + 3, none⟩ = some (.int .i64 y.mark)) := q3
              have Q4 : Hid (wq.cell? ⟨(ad1.add (j * 6)).block, (ad1.add (j * 6)).off + 4, none⟩ = some (.slice A3 ri c3)) := q4
              have Q5 : Hid (wq.cell? ⟨(ad1.add (j * 6)).block, (ad1.add (j * 6)).off + 5, none⟩ = some (.slice A4 rf c4)) := q5
              have P0 : Hid (wq.cell? ⟨w.heap.size, 0, none⟩ = some (.string r.out)) := blk_cell Xq.out 0
              have P1 : Hid (wq.cell? ⟨w.heap.size, 1, none⟩ = some (.string r.cmd)) := blk_cell Xq.out 1
              have P2 : Hid (wq.cell? ⟨w.heap.size, 2, none⟩ = some (.int .i64 r.time)) := blk_cell Xq.out 2
              have P3 : Hid (wq.cell? ⟨w.heap.size, 3, none⟩ = some (.int .i64 r.mark)) := blk_cell Xq.out 3
              have P4 : Hid (wq.cell? ⟨w.heap.size, 4, none⟩ = some (.slice AI1 i1 cI1)) := blk_cell Xq.out 4
              have P5 : Hid (wq.cell? ⟨w.heap.size, 5, none⟩ = some (.slice AF1 f1 cF1)) := blk_cell Xq.out 5
              clear q0 q1 q2 q3 q4 q5
              --S11False
              refine start_ (n := 8) (S := fun w' => Below wq.heap.size wq w' ∧ w'.cell? (ad1.add (j * 6)) = some (.string y.out) ∧ w'.cell? ⟨(ad1.add (j * 6)).block, (ad1.add (j * 6)).off + 1, none⟩ = some (.string y.cmd) ∧ w'.cell? ⟨(ad1.add (j * 6)).block, (ad1.add (j * 6)).off + 2, none⟩ = some (.int .i64 y.time) ∧ w'.cell? ⟨(ad1.add (j * 6)).block, (ad1.add (j * 6)).off + 3, none⟩ = some (.int .i64 y.mark) ∧ w'.cell? ⟨(ad1.add (j * 6)).block, (ad1.add (j * 6)).off + 4, none⟩ = some (.slice A3 ri c3) ∧ w'.cell? ⟨(ad1.add (j * 6)).block, (ad1.add (j * 6)).off + 5, none⟩ = some (.slice A4 rf c4) ∧ w'.cell? ⟨w.heap.size, 0, none⟩ = some (.string r.out) ∧ w'.cell? ⟨w.heap.size, 1, none⟩ = some (.string r.cmd) ∧ w'.cell? ⟨w.heap.size, 2, none⟩ = some (.int .i64 r.time) ∧ w'.cell? ⟨w.heap.size, 3, none⟩ = some (.int .i64 r.mark) ∧ w'.cell? ⟨w.heap.size, 4, none⟩ = some (.slice AI1 i1 cI1) ∧ w'.cell? ⟨w.heap.size, 5, none⟩ = some (.slice AF1 f1 cF1)) (ds := []) #[false, false, false, false, false, false, false, false] (by kernel_rfl) rfl rfl ⟨Below.drew (Below.refl _ _), Q0.out, Q1.out, Q2.out, Q3.out, Q4.out, Q5.out, P0.out, P1.out, P2.out, P3.out, P4.out, P5.out⟩ (fun hHeld => ?_)
              refine pure_ (i := 0) (N := some 76) (v := ?_) (a' := ?_) #[true, false, false, false, false, false, false, false] rfl rfl (by kernel_rfl) (fun _ _ _ h => h) (Or.inl ⟨by rfl, ?_⟩) ?_ ?_
              rotate_left
              · intro w'
                go_simp
                with_reducible rfl
              rotate_left
              · simp only [Act.put, List.setIfInBounds_toArray, List.set_cons_zero, List.set_cons_succ, i64_w, i32_w]
                rfl
              refine pure_ (i := 1) (N := some 77) (v := ?_) (a' := ?_) #[true, true, false, false, false, false, false, false] rfl rfl (by kernel_rfl) (fun _ _ _ h => h) (Or.inl ⟨by rfl, ?_⟩) ?_ ?_
              rotate_left
              · intro w'
                go_simp
                with_reducible rfl
              rotate_left
              · simp only [Act.put, List.setIfInBounds_toArray, List.set_cons_zero, List.set_cons_succ, i64_w, i32_w]
                rfl
              refine pure_ (i := 2) (N := some 78) (v := ?_) (a' := ?_) #[true, true, true, false, false, false, false, false] rfl rfl (by kernel_rfl) (fun _ _ _ h => h) (Or.inl ⟨by rfl, ?_⟩) ?_ ?_
              rotate_left
              · intro w'
                go_simp
                with_reducible rfl
              rotate_left
              · simp only [Act.put, List.setIfInBounds_toArray, List.set_cons_zero, List.set_cons_succ, i64_w, i32_w]
                rfl
              refine take_ (i := 3) (N := some 79) (v := ?_) (a' := ?_) #[true, true, true, true, false, false, false, false] rfl rfl (by kernel_rfl) (fun _ _ _ h => h) (Or.inl ⟨by rfl, ?_⟩) hHeld ?_ ?_
              rotate_left
              · rintro w' ⟨s0, s1, s2, s3, s4, s5, s6, s7, s8, s9, s10, s11, s12⟩
                go_simp
                with_reducible rfl
              rotate_left
              · simp only [Act.put, List.setIfInBounds_toArray, List.set_cons_zero, List.set_cons_succ, i64_w, i32_w]
                rfl
              refine take_ (i := 4) (N := some 80) (v := ?_) (a' := ?_) #[true, true, true, true, true, false, false, false] rfl rfl (by kernel_rfl) (fun _ _ _ h => h) (Or.inl ⟨by rfl, ?_⟩) hHeld ?_ ?_
              rotate_left
              · rintro w' ⟨s0, s1, s2, s3, s4, s5, s6, s7, s8, s9, s10, s11, s12⟩
                go_simp
                with_reducible rfl
              rotate_left
              · simp only [Act.put, List.setIfInBounds_toArray, List.set_cons_zero, List.set_cons_succ, i64_w, i32_w]
                rfl
              refine one_ (i := 5) (N := some 81) #[true, true, true, true, true, true, false, false] rfl rfl (by kernel_rfl) (by decide) (fun K hK => ?_)
              refine goes_ Try.func15 (by kernel_rfl) rfl #[.agg #[.string r.out, .string r.cmd, .int .i64 r.time, .int .i64 r.mark, .slice AI1 i1 cI1, .slice AF1 f1 cF1]] (by rfl) rfl rfl (by first | (simp only [List.map_toArray, List.map_cons, List.map_nil]; done) | (simp only [List.map_toArray, List.map_cons, List.map_nil]; rfl) | rfl) ?_
              with_reducible refine (of_any _ r _ (RAq.out.below hHeld.1) (by have := HLA.out.ins; omega) (by have := HLA.out.found; omega)).mono ?_
              rintro e w_a ⟨v_a, rfl, rr, bb⟩
              refine ⟨_, rfl, ?_⟩
              have hb_a := hHeld.1.trans (bb.mono hHeld.1.size)
              have R_a := Lib.hid rr
              clear rr bb
              refine hK.out _ _ ⟨hb_a, pw_cell_below (hb_a) Q0.out, pw_cell_below (hb_a) Q1.out, pw_cell_below (hb_a) Q2.out, pw_cell_below (hb_a) Q3.out, pw_cell_below (hb_a) Q4.out, pw_cell_below (hb_a) Q5.out, pw_cell_below (hb_a) P0.out, pw_cell_below (hb_a) P1.out, pw_cell_below (hb_a) P2.out, pw_cell_below (hb_a) P3.out, pw_cell_below (hb_a) P4.out, pw_cell_below (hb_a) P5.out⟩ (fun hHeld => ?_)
              clear hK K
              refine norm_ (a' := ?_) ?_ ?_
              rotate_left
              · show Act.put _ (some 81) _ = _
                simp only [Act.put, List.setIfInBounds_toArray, List.set_cons_zero, List.set_cons_succ, i64_w, i32_w]
                rfl
              refine one_ (i := 6) (N := some 82) #[true, true, true, true, true, true, true, false] rfl rfl (by kernel_rfl) (by decide) (fun K hK => ?_)
              refine goes_ Try.func26 (by kernel_rfl) rfl #[.agg #[.string y.out, .string y.cmd, .int .i64 y.time, .int .i64 y.mark, .slice A3 ri c3, .slice A4 rf c4], v_a] (by rfl) rfl rfl (by first | (simp only [List.map_toArray, List.map_cons, List.map_nil]; done) | (simp only [List.map_toArray, List.map_cons, List.map_nil]; rfl) | rfl) ?_
              with_reducible refine (psame_true _ _ r _ (HRJ.out.below hHeld.1) R_a.out).mono ?_
              rintro e w_s ⟨rfl, bb⟩
              refine ⟨_, rfl, ?_⟩
              have hb_s := hHeld.1.trans (bb.mono hHeld.1.size)
              clear bb
              refine hK.out _ _ ⟨hb_s, pw_cell_below (hb_s) Q0.out, pw_cell_below (hb_s) Q1.out, pw_cell_below (hb_s) Q2.out, pw_cell_below (hb_s) Q3.out, pw_cell_below (hb_s) Q4.out, pw_cell_below (hb_s) Q5.out, pw_cell_below (hb_s) P0.out, pw_cell_below (hb_s) P1.out, pw_cell_below (hb_s) P2.out, pw_cell_below (hb_s) P3.out, pw_cell_below (hb_s) P4.out, pw_cell_below (hb_s) P5.out⟩ (fun hHeld => ?_)
              clear hK K
              refine norm_ (a' := ?_) ?_ ?_
              rotate_left
              · show Act.put _ (some 82) _ = _
                simp only [Act.put, List.setIfInBounds_toArray, List.set_cons_zero, List.set_cons_succ, i64_w, i32_w]
                rfl
              refine pure_ (i := 7) (N := some 83) (v := ?_) (a' := ?_) #[true, true, true, true, true, true, true, true] rfl rfl (by kernel_rfl) (fun _ _ _ h => h) (Or.inl ⟨by rfl, ?_⟩) ?_ ?_
              rotate_left
              · intro w'
                go_simp
                with_reducible rfl
              rotate_left
              · simp only [Act.put, List.setIfInBounds_toArray, List.set_cons_zero, List.set_cons_succ, i64_w, i32_w]
                rfl
              refine done_ (by kernel_rfl) ?_
              --S12False
              have HH := Lib.hid (HB.out.trans ((HBQ.out.trans (hHeld.1.mono HBQ.out.size)).mono HB.out.size))
              clear hHeld
              go_wp2
              go_roundw
              case rel => exact ⟨j + 1, ct + 1, by omega, by go_num, by omega, by go_num, HCN.out, HH.out⟩
              case measure => simp [intOf]; omega
            · have hq : (y.out.toList == r.out.toList) = false := by rw [str_eq_iff]; exact decide_eq_false hs
              have HCN : Hid (ct = cntR r.out ((foldR (l ++ [r])).take (j + 1))) := by show _ = _; rw [HTK.out, cntR_snoc, if_neg hs, ← HCT.out]
              clear hs
              go_wp2
              go_quiet (fail)
              go_wp2
              go_roundw
              case rel => exact ⟨j + 1, ct, by omega, by go_num, by omega, by go_num, HCN.out, pw_below_drewN HB.out _⟩
              case measure => simp [intOf]; omega
          · have hj2 : j = m2 := by omega
            have hc1 : ct = 1 := by have h := HCT.out; rw [hj2, HM2.out, List.take_length, fold_snoc_cnt] at h; exact h
            subst hc1
            clear hj2
            go_wp2_with fail
            --S13False
            refine (awake_any _).mono ?_
            rintro e wv ⟨rfl, bs⟩
            have HH := Lib.hid (HB.out.trans (bs.mono HB.out.size))
            clear bs
            go_wp2
            go_ret
            exact ⟨rfl, HBy.out.trans (HH.out.mono HBy.out.size)⟩
      · have hln : m2 = m := HLN.out
        have hql : ((m2 : Int) == (m : Int)) = true := by rw [hln]; simp
        clear hln
        go_wp2
        --S10True
        go_loopw [11, 12] (fun st i wr => ∃ (j ct : Nat), j ≤ m2 ∧ i = .int .i64 j ∧ ct ≤ j ∧ st = .int .i64 ct ∧ Hid (ct = cntR r.out ((foldR (l ++ [r])).take j)) ∧ Hid (Below wy.heap.size wy wr)) (fun _ i _ => m2 - (intOf i).toNat)
        case atStart => exact ⟨0, 0, by omega, rfl, by omega, rfl, rfl, Below.refl _ _⟩
        case round =>
          obtain ⟨j, ct, hj, rfl, hct, rfl, HCT, HB⟩ := hrel
          by_cases l2 : j < m2
          · have hjl : j < (foldR (l ++ [r])).length := by rw [← HM2.out]; exact l2
            obtain ⟨ad1, vi1, vf1, e1, a1, hI1, hF1⟩ := c_at6 (rz_c R9.out) j hjl
            subst e1
            have HTK : Hid ((foldR (l ++ [r])).take (j + 1) = (foldR (l ++ [r])).take j ++ [(foldR (l ++ [r])).getD j zv]) := by
              show _ = _
              rw [List.take_add_one, List.getElem?_eq_getElem hjl, List.getD_eq_getElem?_getD, List.getElem?_eq_getElem hjl]; rfl
            have HYM : Hid ((foldR (l ++ [r])).getD j zv ∈ foldR (l ++ [r])) := by show _ ∈ _; rw [List.getD_eq_getElem?_getD, List.getElem?_eq_getElem hjl]; exact List.getElem_mem hjl
            have B1 := a1.below HB.out
            have HI1 := Lib.hid (And.intro ((hI1.below HM9.out).below HB.out) ((hF1.below HM9.out).below HB.out))
            generalize (foldR (l ++ [r])).getD j zv = y at B1 HI1 HTK HYM
            clear a1 hI1 hF1 hjl
            obtain ⟨A3, c3, rfl, _, _⟩ := HI1.out.1.len
            obtain ⟨A4, c4, rfl, _, _⟩ := HI1.out.2.len
            obtain ⟨ri, hri⟩ : ∃ ri, ri = y.ins.length := ⟨_, rfl⟩
            obtain ⟨rf, hrf⟩ : ∃ rf, rf = y.found.length := ⟨_, rfl⟩
            rw [← hri, ← hrf] at B1 HI1
            have HRI : Hid (RunIs wr (.agg #[.string y.out, .string y.cmd, .int .i64 y.time, .int .i64 y.mark, .slice A3 ri c3, .slice A4 rf c4]) y) := ⟨_, _, rfl, HI1.out.1, HI1.out.2⟩
            clear hri hrf HI1
            have HB61 := Lib.hid B1
            have q0 := B1.c0
            have Xr := Lib.hid ((HB.out.block _ (blk_lt X9.out)).trans X9.out)
            have x0 : wr.cell? ⟨w.heap.size, 0, none⟩ = some (.string r.out) := blk_cell Xr.out 0
            clear B1
            by_cases hs : y.out = r.out
            · have hq : (y.out.toList == r.out.toList) = true := by rw [str_eq_iff]; exact decide_eq_true hs
              have HYR : Hid (y = r) := fold_snoc_at l r y HYM.out hs
              have HCN : Hid (ct + 1 = cntR r.out ((foldR (l ++ [r])).take (j + 1))) := by show _ = _; rw [HTK.out, cntR_snoc, if_pos hs, ← HCT.out]
              clear hs
              go_wp2
              go_quiet (fail)
              go_upto_region 21 with fail
              clear q0 x0
              obtain ⟨wq, hwq⟩ : ∃ wq, wq = wr.drewN nq := ⟨_, rfl⟩
              rw [← hwq]
              have HBQ : Hid (Below wr.heap.size wr wq) := by show Below _ _ _; rw [hwq]; exact pw_below_drewN (Below.refl _ _) _
              have HRJ : Hid (RunIs wq (.agg #[.string y.out, .string y.cmd, .int .i64 y.time, .int .i64 y.mark, .slice A3 ri c3, .slice A4 rf c4]) r) := by have h := HRI.out.below HBQ.out; rw [HYR.out] at h ⊢; exact h
              have RAq := Lib.hid ((RA9.out.below HB.out).below HBQ.out)
              have Xq := Lib.hid ((HBQ.out.block _ (blk_lt Xr.out)).trans Xr.out)
              obtain ⟨q0, q1, q2, q3, q4, q5⟩ := HB61.out.below HBQ.out
              clear hwq
              have Q0 : Hid (wq.cell? (ad1.add (j * 6)) = some (.string y.out)) := q0
              have Q1 : Hid (wq.cell? ⟨(ad1.add (j * 6)).block, (ad1.add (j * 6)).off + 1, none⟩ = some (.string y.cmd)) := q1
              have Q2 : Hid (wq.cell? ⟨(ad1.add (j * 6)).block, (ad1.add (j * 6)).off + 2, none⟩ = some (.int .i64 y.time)) := q2
              have Q3 : Hid (wq.cell? ⟨(ad1.add (j * 6)).block, (ad1.add (j * 6)).off + 3, none⟩ = some (.int .i64 y.mark)) := q3
              have Q4 : Hid (wq.cell? ⟨(ad1.add (j * 6)).block, (ad1.add (j * 6)).off + 4, none⟩ = some (.slice A3 ri c3)) := q4
              have Q5 : Hid (wq.cell? ⟨(ad1.add (j * 6)).block, (ad1.add (j * 6)).off + 5, none⟩ = some (.slice A4 rf c4)) := q5
              have P0 : Hid (wq.cell? ⟨w.heap.size, 0, none⟩ = some (.string r.out)) := blk_cell Xq.out 0
              have P1 : Hid (wq.cell? ⟨w.heap.size, 1, none⟩ = some (.string r.cmd)) := blk_cell Xq.out 1
              have P2 : Hid (wq.cell? ⟨w.heap.size, 2, none⟩ = some (.int .i64 r.time)) := blk_cell Xq.out 2
              have P3 : Hid (wq.cell? ⟨w.heap.size, 3, none⟩ = some (.int .i64 r.mark)) := blk_cell Xq.out 3
              have P4 : Hid (wq.cell? ⟨w.heap.size, 4, none⟩ = some (.slice AI1 i1 cI1)) := blk_cell Xq.out 4
              have P5 : Hid (wq.cell? ⟨w.heap.size, 5, none⟩ = some (.slice AF1 f1 cF1)) := blk_cell Xq.out 5
              clear q0 q1 q2 q3 q4 q5
              --S11True
              refine start_ (n := 8) (S := fun w' => Below wq.heap.size wq w' ∧ w'.cell? (ad1.add (j * 6)) = some (.string y.out) ∧ w'.cell? ⟨(ad1.add (j * 6)).block, (ad1.add (j * 6)).off + 1, none⟩ = some (.string y.cmd) ∧ w'.cell? ⟨(ad1.add (j * 6)).block, (ad1.add (j * 6)).off + 2, none⟩ = some (.int .i64 y.time) ∧ w'.cell? ⟨(ad1.add (j * 6)).block, (ad1.add (j * 6)).off + 3, none⟩ = some (.int .i64 y.mark) ∧ w'.cell? ⟨(ad1.add (j * 6)).block, (ad1.add (j * 6)).off + 4, none⟩ = some (.slice A3 ri c3) ∧ w'.cell? ⟨(ad1.add (j * 6)).block, (ad1.add (j * 6)).off + 5, none⟩ = some (.slice A4 rf c4) ∧ w'.cell? ⟨w.heap.size, 0, none⟩ = some (.string r.out) ∧ w'.cell? ⟨w.heap.size, 1, none⟩ = some (.string r.cmd) ∧ w'.cell? ⟨w.heap.size, 2, none⟩ = some (.int .i64 r.time) ∧ w'.cell? ⟨w.heap.size, 3, none⟩ = some (.int .i64 r.mark) ∧ w'.cell? ⟨w.heap.size, 4, none⟩ = some (.slice AI1 i1 cI1) ∧ w'.cell? ⟨w.heap.size, 5, none⟩ = some (.slice AF1 f1 cF1)) (ds := []) #[false, false, false, false, false, false, false, false] (by kernel_rfl) rfl rfl ⟨Below.drew (Below.refl _ _), Q0.out, Q1.out, Q2.out, Q3.out, Q4.out, Q5.out, P0.out, P1.out, P2.out, P3.out, P4.out, P5.out⟩ (fun hHeld => ?_)
              refine pure_ (i := 0) (N := some 76) (v := ?_) (a' := ?_) #[true, false, false, false, false, false, false, false] rfl rfl (by kernel_rfl) (fun _ _ _ h => h) (Or.inl ⟨by rfl, ?_⟩) ?_ ?_
              rotate_left
              · intro w'
                go_simp
                with_reducible rfl
              rotate_left
              · simp only [Act.put, List.setIfInBounds_toArray, List.set_cons_zero, List.set_cons_succ, i64_w, i32_w]
                rfl
              refine pure_ (i := 1) (N := some 77) (v := ?_) (a' := ?_) #[true, true, false, false, false, false, false, false] rfl rfl (by kernel_rfl) (fun _ _ _ h => h) (Or.inl ⟨by rfl, ?_⟩) ?_ ?_
              rotate_left
              · intro w'
                go_simp
                with_reducible rfl
              rotate_left
              · simp only [Act.put, List.setIfInBounds_toArray, List.set_cons_zero, List.set_cons_succ, i64_w, i32_w]
                rfl
              refine pure_ (i := 2) (N := some 78) (v := ?_) (a' := ?_) #[true, true, true, false, false, false, false, false] rfl rfl (by kernel_rfl) (fun _ _ _ h => h) (Or.inl ⟨by rfl, ?_⟩) ?_ ?_
              rotate_left
              · intro w'
                go_simp
                with_reducible rfl
              rotate_left
              · simp only [Act.put, List.setIfInBounds_toArray, List.set_cons_zero, List.set_cons_succ, i64_w, i32_w]
                rfl
              refine take_ (i := 3) (N := some 79) (v := ?_) (a' := ?_) #[true, true, true, true, false, false, false, false] rfl rfl (by kernel_rfl) (fun _ _ _ h => h) (Or.inl ⟨by rfl, ?_⟩) hHeld ?_ ?_
              rotate_left
              · rintro w' ⟨s0, s1, s2, s3, s4, s5, s6, s7, s8, s9, s10, s11, s12⟩
                go_simp
                with_reducible rfl
              rotate_left
              · simp only [Act.put, List.setIfInBounds_toArray, List.set_cons_zero, List.set_cons_succ, i64_w, i32_w]
                rfl
              refine take_ (i := 4) (N := some 80) (v := ?_) (a' := ?_) #[true, true, true, true, true, false, false, false] rfl rfl (by kernel_rfl) (fun _ _ _ h => h) (Or.inl ⟨by rfl, ?_⟩) hHeld ?_ ?_
              rotate_left
              · rintro w' ⟨s0, s1, s2, s3, s4, s5, s6, s7, s8, s9, s10, s11, s12⟩
                go_simp
                with_reducible rfl
              rotate_left
              · simp only [Act.put, List.setIfInBounds_toArray, List.set_cons_zero, List.set_cons_succ, i64_w, i32_w]
                rfl
              refine one_ (i := 5) (N := some 81) #[true, true, true, true, true, true, false, false] rfl rfl (by kernel_rfl) (by decide) (fun K hK => ?_)
              refine goes_ Try.func15 (by kernel_rfl) rfl #[.agg #[.string r.out, .string r.cmd, .int .i64 r.time, .int .i64 r.mark, .slice AI1 i1 cI1, .slice AF1 f1 cF1]] (by rfl) rfl rfl (by first | (simp only [List.map_toArray, List.map_cons, List.map_nil]; done) | (simp only [List.map_toArray, List.map_cons, List.map_nil]; rfl) | rfl) ?_
              with_reducible refine (of_any _ r _ (RAq.out.below hHeld.1) (by have := HLA.out.ins; omega) (by have := HLA.out.found; omega)).mono ?_
              rintro e w_a ⟨v_a, rfl, rr, bb⟩
              refine ⟨_, rfl, ?_⟩
              have hb_a := hHeld.1.trans (bb.mono hHeld.1.size)
              have R_a := Lib.hid rr
              clear rr bb
              refine hK.out _ _ ⟨hb_a, pw_cell_below (hb_a) Q0.out, pw_cell_below (hb_a) Q1.out, pw_cell_below (hb_a) Q2.out, pw_cell_below (hb_a) Q3.out, pw_cell_below (hb_a) Q4.out, pw_cell_below (hb_a) Q5.out, pw_cell_below (hb_a) P0.out, pw_cell_below (hb_a) P1.out, pw_cell_below (hb_a) P2.out, pw_cell_below (hb_a) P3.out, pw_cell_below (hb_a) P4.out, pw_cell_below (hb_a) P5.out⟩ (fun hHeld => ?_)
              clear hK K
              refine norm_ (a' := ?_) ?_ ?_
              rotate_left
              · show Act.put _ (some 81) _ = _
                simp only [Act.put, List.setIfInBounds_toArray, List.set_cons_zero, List.set_cons_succ, i64_w, i32_w]
                rfl
              refine one_ (i := 6) (N := some 82) #[true, true, true, true, true, true, true, false] rfl rfl (by kernel_rfl) (by decide) (fun K hK => ?_)
              refine goes_ Try.func26 (by kernel_rfl) rfl #[.agg #[.string y.out, .string y.cmd, .int .i64 y.time, .int .i64 y.mark, .slice A3 ri c3, .slice A4 rf c4], v_a] (by rfl) rfl rfl (by first | (simp only [List.map_toArray, List.map_cons, List.map_nil]; done) | (simp only [List.map_toArray, List.map_cons, List.map_nil]; rfl) | rfl) ?_
              with_reducible refine (psame_true _ _ r _ (HRJ.out.below hHeld.1) R_a.out).mono ?_
              rintro e w_s ⟨rfl, bb⟩
              refine ⟨_, rfl, ?_⟩
              have hb_s := hHeld.1.trans (bb.mono hHeld.1.size)
              clear bb
              refine hK.out _ _ ⟨hb_s, pw_cell_below (hb_s) Q0.out, pw_cell_below (hb_s) Q1.out, pw_cell_below (hb_s) Q2.out, pw_cell_below (hb_s) Q3.out, pw_cell_below (hb_s) Q4.out, pw_cell_below (hb_s) Q5.out, pw_cell_below (hb_s) P0.out, pw_cell_below (hb_s) P1.out, pw_cell_below (hb_s) P2.out, pw_cell_below (hb_s) P3.out, pw_cell_below (hb_s) P4.out, pw_cell_below (hb_s) P5.out⟩ (fun hHeld => ?_)
              clear hK K
              refine norm_ (a' := ?_) ?_ ?_
              rotate_left
              · show Act.put _ (some 82) _ = _
                simp only [Act.put, List.setIfInBounds_toArray, List.set_cons_zero, List.set_cons_succ, i64_w, i32_w]
                rfl
              refine pure_ (i := 7) (N := some 83) (v := ?_) (a' := ?_) #[true, true, true, true, true, true, true, true] rfl rfl (by kernel_rfl) (fun _ _ _ h => h) (Or.inl ⟨by rfl, ?_⟩) ?_ ?_
              rotate_left
              · intro w'
                go_simp
                with_reducible rfl
              rotate_left
              · simp only [Act.put, List.setIfInBounds_toArray, List.set_cons_zero, List.set_cons_succ, i64_w, i32_w]
                rfl
              refine done_ (by kernel_rfl) ?_
              --S12True
              have HH := Lib.hid (HB.out.trans ((HBQ.out.trans (hHeld.1.mono HBQ.out.size)).mono HB.out.size))
              clear hHeld
              go_wp2
              go_roundw
              case rel => exact ⟨j + 1, ct + 1, by omega, by go_num, by omega, by go_num, HCN.out, HH.out⟩
              case measure => simp [intOf]; omega
            · have hq : (y.out.toList == r.out.toList) = false := by rw [str_eq_iff]; exact decide_eq_false hs
              have HCN : Hid (ct = cntR r.out ((foldR (l ++ [r])).take (j + 1))) := by show _ = _; rw [HTK.out, cntR_snoc, if_neg hs, ← HCT.out]
              clear hs
              go_wp2
              go_quiet (fail)
              go_wp2
              go_roundw
              case rel => exact ⟨j + 1, ct, by omega, by go_num, by omega, by go_num, HCN.out, pw_below_drewN HB.out _⟩
              case measure => simp [intOf]; omega
          · have hj2 : j = m2 := by omega
            have hc1 : ct = 1 := by have h := HCT.out; rw [hj2, HM2.out, List.take_length, fold_snoc_cnt] at h; exact h
            subst hc1
            clear hj2
            go_wp2_with fail
            --S13True
            refine (awake_any _).mono ?_
            rintro e wv ⟨rfl, bs⟩
            have HH := Lib.hid (HB.out.trans (bs.mono HB.out.size))
            clear bs
            go_wp2
            go_ret
            exact ⟨rfl, HBy.out.trans (HH.out.mono HBy.out.size)⟩
--END WALK
end Go.Proofs.Ytehndlafbbpofaa.Run
