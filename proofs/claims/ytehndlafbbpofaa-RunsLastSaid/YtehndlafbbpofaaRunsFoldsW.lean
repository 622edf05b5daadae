/- The law RunsFolds returns true (a walk). -/
import Derived.Test.YtehndlafbbpofaaRunFolded
import Derived.Test.YtehndlafbbpofaaRunSames
import Derived.Test.YtehndlafbbpofaaRunAwake
namespace Go.Proofs.Ytehndlafbbpofaa.Run
open Go.RowKit Go.Proofs.YtehndlafbbpofaaW.PrintWords Go.Proofs.YtehndlafbbpofaaW.PrintLast Go.Proofs.Ytehndlafbbpofaa.Base Go.Proofs.Ytehndlafbbpofaa.Pack
set_option linter.unusedVariables false
set_option linter.unusedSimpArgs false

theorem Rz.inner {W0 W1 w : World} {v : Value} {l : List RunV} (h : Rz W0 w v l) (hb : Below W0.heap.size W0 W1) : Rz W1 w v l := by
  obtain ⟨A, c, rfl, hc, hr⟩ := h
  exact ⟨A, c, rfl, hc, ReadsRow.imp_ hr (Below.refl _ _) (fun _ _ ⟨vi, vf, e, h1, h2⟩ => ⟨vi, vf, e, h1.below hb, h2.below hb⟩)⟩
theorem Rz.both {W w : World} {v : Value} {l : List RunV} (h : Rz W W v l) (hb : Below W.heap.size W w) : Rz w w v l := (h.below hb).inner hb
theorem rz_c {W w : World} {A : Option Addr} {n c : Nat} {l : List RunV} (h : Rz W w (.slice A n c) l) : (krun W).C w A l.length l := by
  obtain ⟨A0, c0, e0, _, hC0⟩ := h
  injection e0 with e0 _ _
  subst e0
  exact hC0
theorem foldR_sub {l : List RunV} {r : RunV} (h : r ∈ foldR l) : r ∈ l := (lastR_out (((foldR_rising l).2 r).1 h)).2
theorem foldR_len (l : List RunV) : (foldR l).length ≤ l.length := by
  refine snoc_ind (P := fun l => (foldR l).length ≤ l.length) (Nat.le_refl _) (fun l x ih => ?_) l
  rw [foldR_snoc, List.length_append, List.length_singleton]
  exact Nat.le_trans (insR_len x (foldR l)) (by omega)
theorem sameB_self (r : RunV) : sameB r r = true := by simp [sameB]
theorem psame_true (v1 v2 : Value) (r : RunV) (w : World) (h1 : RunIs w v1 r) (h2 : RunIs w v2 r) :
    Calls Try.prog 26 #[v1, v2] w fun e w' => e = .returned (.bool true) ∧ Below w.heap.size w w' :=
  (psame_any v1 v2 r r w h1 h2).mono fun _ _ ⟨h, hb⟩ => ⟨by rw [h, sameB_self], hb⟩
theorem psame_sb {sb : Bool} {v1 v2 : Value} {a b : RunV} {w : World} (hs : sb = sameB a b) (h1 : RunIs w v1 a) (h2 : RunIs w v2 b) :
    Calls Try.prog 26 #[v1, v2] w fun e w' => e = .returned (.bool sb) ∧ Below w.heap.size w w' := by rw [hs]; exact psame_any v1 v2 a b w h1 h2
theorem rsame_sb {sb : Bool} {v1 v2 : Value} {a b : RunV} {w : World} (hs : sb = sameB a b) (h1 : RunIs w v1 a) (h2 : RunIs w v2 b) :
    Calls Try.prog 20 #[v1, v2] w fun e w' => e = .returned (.bool sb) ∧ Below w.heap.size w w' := by rw [hs]; exact rsame_any v1 v2 a b w h1 h2

--BEGIN WALK
set_option maxRecDepth 100000 in
set_option maxHeartbeats 8000000 in
theorem RunsFolds_any (v va vb : Value) (l : List RunV) (a b : RunV) (w : World) (h : Rz w w v l) (h1 : RunIs w va a) (h2 : RunIs w vb b) (hfl : ∀ r ∈ l, FitR r) (hfa : FitR a) (hfb : FitR b) :
    Calls Try.prog 7 #[v, va, vb] w fun e w' => e = .returned (.bool true) ∧ Below w.heap.size w w' := by
  obtain ⟨vi1, vf1, rfl, hI1, hF1⟩ := h1
  obtain ⟨vi2, vf2, rfl, hI2, hF2⟩ := h2
  obtain ⟨AI1, cI1, rfl, hcI1, hmI1⟩ := hI1.len
  obtain ⟨AI2, cI2, rfl, hcI2, hmI2⟩ := hI2.len
  obtain ⟨AF1, cF1, rfl, hcF1, hmF1⟩ := hF1.len
  obtain ⟨AF2, cF2, rfl, hcF2, hmF2⟩ := hF2.len
  obtain ⟨i1, hi1⟩ : ∃ i1, i1 = a.ins.length := ⟨_, rfl⟩
  obtain ⟨i2, hi2⟩ : ∃ i2, i2 = b.ins.length := ⟨_, rfl⟩
  obtain ⟨f1, hf1⟩ : ∃ f1, f1 = a.found.length := ⟨_, rfl⟩
  obtain ⟨f2, hf2⟩ : ∃ f2, f2 = b.found.length := ⟨_, rfl⟩
  rw [← hi1] at hI1 hcI1 hmI1 ⊢
  rw [← hi2] at hI2 hcI2 hmI2 ⊢
  rw [← hf1] at hF1 hcF1 hmF1 ⊢
  rw [← hf2] at hF2 hcF2 hmF2 ⊢
  obtain ⟨Wb, hWb⟩ : ∃ Wb, Wb = (w.alloc (.cells #[.string a.out, .string a.cmd, .int .i64 a.time, .int .i64 a.mark, .slice AI1 i1 cI1, .slice AF1 f1 cF1] 25)).alloc (.cells #[.string b.out, .string b.cmd, .int .i64 b.time, .int .i64 b.mark, .slice AI2 i2 cI2, .slice AF2 f2 cF2] 25) := ⟨_, rfl⟩
  have hb0 : Below w.heap.size w Wb := by rw [hWb]; exact below_alloc (below_alloc (Below.refl _ _) _) _
  have hx1 : Wb.heap[w.heap.size]? = some (.cells #[.string a.out, .string a.cmd, .int .i64 a.time, .int .i64 a.mark, .slice AI1 i1 cI1, .slice AF1 f1 cF1] 25 (0, 0)) := by rw [hWb]; exact (Below.heap_alloc _ _ _ (by simp)).trans (heap_alloc_new w _)
  have hx2 : Wb.heap[w.heap.size + 1]? = some (.cells #[.string b.out, .string b.cmd, .int .i64 b.time, .int .i64 b.mark, .slice AI2 i2 cI2, .slice AF2 f2 cF2] 25 (0, 0)) := by
    have e : (w.alloc (.cells #[.string a.out, .string a.cmd, .int .i64 a.time, .int .i64 a.mark, .slice AI1 i1 cI1, .slice AF1 f1 cF1] 25)).heap.size = w.heap.size + 1 := by simp
    rw [hWb, ← e]
    exact heap_alloc_new _ _
  have RA : Hid (RunIs Wb (.agg #[.string a.out, .string a.cmd, .int .i64 a.time, .int .i64 a.mark, .slice AI1 i1 cI1, .slice AF1 f1 cF1]) a) := ⟨_, _, rfl, hI1.below hb0, hF1.below hb0⟩
  have RB : Hid (RunIs Wb (.agg #[.string b.out, .string b.cmd, .int .i64 b.time, .int .i64 b.mark, .slice AI2 i2 cI2, .slice AF2 f2 cF2]) b) := ⟨_, _, rfl, hI2.below hb0, hF2.below hb0⟩
  obtain ⟨A, c, rfl, hc, hm⟩ := h.len
  have RL := Lib.hid (h.both hb0)
  have X1 := Lib.hid hx1
  have X2 := Lib.hid hx2
  have HB0 := Lib.hid hb0
  have HWB := Lib.hid hWb
  have HFL := Lib.hid hfl
  have HFA := Lib.hid hfa
  have HFB := Lib.hid hfb
  clear h hI1 hI2 hF1 hF2 hb0 hWb hx1 hx2 hi1 hi2 hf1 hf2 hfl hfa hfb
  obtain ⟨n, hn⟩ : ∃ n, n = l.length := ⟨_, rfl⟩
  rw [← hn] at hc hm
  rw [← hn]
  have HN := Lib.hid hn
  clear hn
  go_enter Try.func7, Try.ntmps7
  go_wp2_with fail
  rw [← HWB.out]
  have e0 : (Value.slice A n c) = .slice A l.length c := by rw [HN.out]
  rw [← HN.out] at RL
  refine (all_any _ l _ RL.out HFL.out).mono ?_
  rintro e w1 ⟨he, hb1⟩
  have HB1 := Lib.hid (HB0.out.trans (hb1.mono HB0.out.size))
  have RL1 := Lib.hid (RL.out.both hb1)
  have RA1 := Lib.hid (RA.out.below hb1)
  have RB1 := Lib.hid (RB.out.below hb1)
  have X11 := Lib.hid ((hb1.block _ (blk_lt X1.out)).trans X1.out)
  have X21 := Lib.hid ((hb1.block _ (blk_lt X2.out)).trans X2.out)
  clear hb1 RL RA RB X1 X2 e0 HB0
  rcases he with ⟨rfl, hl60, hL⟩ | rfl
  case inr =>
    go_wp2
    go_ret
    exact ⟨rfl, HB1.out⟩
  have HLL := Lib.hid hL
  clear hL
  have hn60 : n ≤ 60 := by rw [HN.out]; exact hl60
  clear hl60
  have q0 := blk_cell X11.out 0
  have q1 := blk_cell X11.out 1
  have q2 := blk_cell X11.out 2
  have q3 := blk_cell X11.out 3
  have q4 := blk_cell X11.out 4
  have q5 := blk_cell X11.out 5
  go_wp2_with fail
  clear q0 q1 q2 q3 q4 q5
  --S1
  refine (light_any _ a _ RA1.out HFA.out.out HFA.out.cmd HFA.out.names).mono ?_
  rintro e w2 ⟨he, hb2⟩
  have HB2 := Lib.hid (HB1.out.trans (hb2.mono HB1.out.size))
  have RL2 := Lib.hid (RL1.out.both hb2)
  have RA2 := Lib.hid (RA1.out.below hb2)
  have RB2 := Lib.hid (RB1.out.below hb2)
  have X12 := Lib.hid ((hb2.block _ (blk_lt X11.out)).trans X11.out)
  have X22 := Lib.hid ((hb2.block _ (blk_lt X21.out)).trans X21.out)
  clear hb2 RL1 RA1 RB1 X11 X21 HB1
  rcases he with ⟨rfl, hL⟩ | rfl
  case inr =>
    go_wp2
    go_ret
    exact ⟨rfl, HB2.out⟩
  have HLA := Lib.hid hL
  clear hL
  have q0 := blk_cell X22.out 0
  have q1 := blk_cell X22.out 1
  have q2 := blk_cell X22.out 2
  have q3 := blk_cell X22.out 3
  have q4 := blk_cell X22.out 4
  have q5 := blk_cell X22.out 5
  go_wp2_with fail
  clear q0 q1 q2 q3 q4 q5
  --S2
  refine (light_any _ b _ RB2.out HFB.out.out HFB.out.cmd HFB.out.names).mono ?_
  rintro e w3 ⟨he, hb2⟩
  have HB3 := Lib.hid (HB2.out.trans (hb2.mono HB2.out.size))
  have RL3 := Lib.hid (RL2.out.both hb2)
  have RA3 := Lib.hid (RA2.out.below hb2)
  have RB3 := Lib.hid (RB2.out.below hb2)
  have X13 := Lib.hid ((hb2.block _ (blk_lt X12.out)).trans X12.out)
  have X23 := Lib.hid ((hb2.block _ (blk_lt X22.out)).trans X22.out)
  clear hb2 RL2 RA2 RB2 X12 X22 HB2
  rcases he with ⟨rfl, hL⟩ | rfl
  case inr =>
    go_wp2
    go_ret
    exact ⟨rfl, HB3.out⟩
  have HLB := Lib.hid hL
  clear hL
  obtain ⟨Wc, hWc⟩ : ∃ Wc, Wc = w3 := ⟨_, rfl⟩
  subst hWc
  go_wp2
  --S3
  go_loopw [7, 8] (fun s7 i wr => ∃ k : Nat, k ≤ n ∧ i = .int .i64 k ∧ Hid (kown.R 33 wr Wc.heap.size (fun _ => True) s7 (l.take k)) ∧ Hid (Below Wc.heap.size Wc wr)) (fun _ i _ => n - (intOf i).toNat)
  case atStart => exact ⟨0, by omega, rfl, by rw [List.take_zero]; exact Kd.R_nil _ _ _ _ _, Below.refl _ _⟩
  case round =>
    obtain ⟨k, hk, rfl, HX, HB⟩ := hrel
    by_cases l1 : k < n
    · have hkl : k < l.length := by rw [← HN.out]; exact l1
      have hC0 := rz_c RL3.out
      obtain ⟨ad1, vi1, vf1, e1, a1, hI1, hF1⟩ := c_at6 hC0 k hkl
      subst e1
      have hr0 : l.getD k zv ∈ l := by rw [List.getD_eq_getElem?_getD, List.getElem?_eq_getElem hkl]; exact List.getElem_mem hkl
      have HLR := Lib.hid (HLL.out _ hr0)
      have HTK : Hid (l.take (k + 1) = l.take k ++ [l.getD k zv]) := by
        show _ = _
        rw [List.take_add_one, List.getElem?_eq_getElem hkl, List.getD_eq_getElem?_getD, List.getElem?_eq_getElem hkl]; rfl
      have B1 := a1.below HB.out
      have HI1 := Lib.hid (And.intro (hI1.below HB.out) (hF1.below HB.out))
      generalize l.getD k zv = r at B1 HI1 HLR HTK
      clear a1 hI1 hF1 hr0 hC0
      obtain ⟨A3, c3, rfl, _, _⟩ := HI1.out.1.len
      obtain ⟨A4, c4, rfl, _, _⟩ := HI1.out.2.len
      obtain ⟨ri, hri⟩ : ∃ ri, ri = r.ins.length := ⟨_, rfl⟩
      obtain ⟨rf, hrf⟩ : ∃ rf, rf = r.found.length := ⟨_, rfl⟩
      rw [← hri, ← hrf] at B1 HI1
      have HRI : Hid (RunIs wr (.agg #[.string r.out, .string r.cmd, .int .i64 r.time, .int .i64 r.mark, .slice A3 ri c3, .slice A4 rf c4]) r) := ⟨_, _, rfl, HI1.out.1, HI1.out.2⟩
      clear hri hrf HI1
      obtain ⟨q0, q1, q2, q3, q4, q5⟩ := B1
      go_wp2_with fail
      --S4
      refine (of_any_own _ r _ HRI.out (by have := HLR.out.ins; omega) (by have := HLR.out.found; omega)).mono ?_
      rintro e w5 ⟨v5, rfl, ro, bo⟩
      obtain ⟨vi5, vf5, ev5, _, _⟩ := id ro
      subst ev5
      have HM5 := Lib.hid (kown.M_lower HB.out.size (ro_m ro))
      have HB5 := Lib.hid (HB.out.trans (bo.mono HB.out.size))
      have HX5 := Lib.hid (Kd.R_below HX.out bo)
      have HOK : Hid (∀ k', (wr.heap.size ≤ k' ∧ k' < w5.heap.size) → some k' ≠ Value.ownBlock _) := fun k' hk' he' => by
        obtain ⟨inner, ho⟩ := Kd.R_own HX.out
        have := own_lt ho k' he'.symm
        omega
      have hlk : (l.take k).length = k := by rw [List.length_take]; omega
      have HLK := Lib.hid hlk
      clear ro bo q0 q1 q2 q3 q4 q5 hlk hkl
      go_wp2_with (at_builtin; refine Held.of ?_)
      --S5
      refine Held.out (Kd.R_append kown (w0 := Wc) Wc.heap.size rfl (.tmp 28) (.tmp 34) 54 33 (.agg #[.string ⟨#[]⟩, .string ⟨#[]⟩, .int .i64 0, .int .i64 0, .slice none 0 0, .slice none 0 0]) 96 rfl Try.underlying54 (by kernel_rfl) rfl (by show 0 < 6; decide) (by decide) _ (l.take k) r [.string r.out, .string r.cmd, .int .i64 r.time, .int .i64 r.mark, vi5, vf5] (fun _ => True) (fun k' => wr.heap.size ≤ k' ∧ k' < w5.heap.size) rfl rfl HM5.out (fun k' hk' => ⟨trivial, HOK.out k' hk'⟩) (fun _ _ => trivial) HX5.out HB5.out HB5.out.size (by rw [HLK.out]; omega) ?_)
      intro v6 w6 r6 b6 _ _
      rw [← HTK.out] at r6
      have HX6 := Lib.hid r6
      have HB6 := Lib.hid b6
      clear r6 b6 HM5 HX5 HOK HX
      go_wp2
      go_roundw
      case rel => exact ⟨k + 1, by omega, by go_num, HX6.out, HB6.out⟩
      case measure => simp [intOf]; omega
    · have hk2 : k = n := by omega
      have HXe := HX.out
      rw [hk2, HN.out, List.take_length] at HXe
      have RX := Lib.hid (own_rz HXe)
      obtain ⟨A7, c7, e7, _, _⟩ := RX.out.len
      subst e7
      rw [← HN.out] at RX
      rw [← HN.out]
      have RLw := Lib.hid (RL3.out.both HB.out)
      have RAw := Lib.hid (RA3.out.below HB.out)
      have RBw := Lib.hid (RB3.out.below HB.out)
      have X1w := Lib.hid ((HB.out.block _ (blk_lt X13.out)).trans X13.out)
      have X2w := Lib.hid ((HB.out.block _ (blk_lt X23.out)).trans X23.out)
      have HBw := Lib.hid (HB3.out.trans (HB.out.mono HB3.out.size))
      have HFR : Hid (∀ r ∈ foldR l, r.ins.length ≤ 10000 ∧ r.found.length ≤ 10000) := fun r hr => by
        have h := HLL.out r (foldR_sub hr)
        have h1 := h.ins
        have h2 := h.found
        omega
      have hLa : a.ins.length ≤ 10000 ∧ a.found.length ≤ 10000 := by have h1 := HLA.out.ins; have h2 := HLA.out.found; omega
      have hLb : b.ins.length ≤ 10000 ∧ b.found.length ≤ 10000 := by have h1 := HLB.out.ins; have h2 := HLB.out.found; omega
      have HLa := Lib.hid hLa
      have HLb := Lib.hid hLb
      have hl60 : l.length ≤ 60 := by rw [← HN.out]; exact hn60
      have HL60 := Lib.hid hl60
      obtain ⟨sb, hsb⟩ : ∃ sb, sb = sameB a b := ⟨_, rfl⟩
      have HSB := Lib.hid hsb
      have heq : (sb == sb) = true := by simp
      clear hk2 HXe HX HB hLa hLb hl60 hsb RL3 RA3 RB3 X13 X23 HB3
      have Q0 : Hid (wr.cell? ⟨w.heap.size, 0, none⟩ = some (.string a.out)) := blk_cell X1w.out 0
      have Q1 : Hid (wr.cell? ⟨w.heap.size, 1, none⟩ = some (.string a.cmd)) := blk_cell X1w.out 1
      have Q2 : Hid (wr.cell? ⟨w.heap.size, 2, none⟩ = some (.int .i64 a.time)) := blk_cell X1w.out 2
      have Q3 : Hid (wr.cell? ⟨w.heap.size, 3, none⟩ = some (.int .i64 a.mark)) := blk_cell X1w.out 3
      have Q4 : Hid (wr.cell? ⟨w.heap.size, 4, none⟩ = some (.slice AI1 i1 cI1)) := blk_cell X1w.out 4
      have Q5 : Hid (wr.cell? ⟨w.heap.size, 5, none⟩ = some (.slice AF1 f1 cF1)) := blk_cell X1w.out 5
      have Q6 : Hid (wr.cell? ⟨w.heap.size + 1, 0, none⟩ = some (.string b.out)) := blk_cell X2w.out 0
      have Q7 : Hid (wr.cell? ⟨w.heap.size + 1, 1, none⟩ = some (.string b.cmd)) := blk_cell X2w.out 1
      have Q8 : Hid (wr.cell? ⟨w.heap.size + 1, 2, none⟩ = some (.int .i64 b.time)) := blk_cell X2w.out 2
      have Q9 : Hid (wr.cell? ⟨w.heap.size + 1, 3, none⟩ = some (.int .i64 b.mark)) := blk_cell X2w.out 3
      have Q10 : Hid (wr.cell? ⟨w.heap.size + 1, 4, none⟩ = some (.slice AI2 i2 cI2)) := blk_cell X2w.out 4
      have Q11 : Hid (wr.cell? ⟨w.heap.size + 1, 5, none⟩ = some (.slice AF2 f2 cF2)) := blk_cell X2w.out 5
      obtain ⟨wz, hwz⟩ : ∃ wz, wz = wr := ⟨_, rfl⟩
      subst hwz
      go_wp2
      --S6
      refine start_ (n := 27) (S := fun w' => Below wz.heap.size wz w' ∧ w'.cell? ⟨w.heap.size, 0, none⟩ = some (.string a.out) ∧ w'.cell? ⟨w.heap.size, 1, none⟩ = some (.string a.cmd) ∧ w'.cell? ⟨w.heap.size, 2, none⟩ = some (.int .i64 a.time) ∧ w'.cell? ⟨w.heap.size, 3, none⟩ = some (.int .i64 a.mark) ∧ w'.cell? ⟨w.heap.size, 4, none⟩ = some (.slice AI1 i1 cI1) ∧ w'.cell? ⟨w.heap.size, 5, none⟩ = some (.slice AF1 f1 cF1) ∧ w'.cell? ⟨w.heap.size + 1, 0, none⟩ = some (.string b.out) ∧ w'.cell? ⟨w.heap.size + 1, 1, none⟩ = some (.string b.cmd) ∧ w'.cell? ⟨w.heap.size + 1, 2, none⟩ = some (.int .i64 b.time) ∧ w'.cell? ⟨w.heap.size + 1, 3, none⟩ = some (.int .i64 b.mark) ∧ w'.cell? ⟨w.heap.size + 1, 4, none⟩ = some (.slice AI2 i2 cI2) ∧ w'.cell? ⟨w.heap.size + 1, 5, none⟩ = some (.slice AF2 f2 cF2)) (ds := []) #[false, false, false, false, false, false, false, false, false, false, false, false, false, false, false, false, false, false, false, false, false, false, false, false, false, false, false] (by kernel_rfl) rfl rfl ⟨Below.drew (Below.refl _ _), Q0.out, Q1.out, Q2.out, Q3.out, Q4.out, Q5.out, Q6.out, Q7.out, Q8.out, Q9.out, Q10.out, Q11.out⟩ (fun hHeld => ?_)
      refine pure_ (i := 0) (N := some 36) (v := ?_) (a' := ?_) #[true, false, false, false, false, false, false, false, false, false, false, false, false, false, false, false, false, false, false, false, false, false, false, false, false, false, false] rfl rfl (by kernel_rfl) (fun _ _ _ h => h) (Or.inl ⟨by rfl, ?_⟩) ?_ ?_
      rotate_left
      · intro w'
        go_simp
        with_reducible rfl
      rotate_left
      · simp only [Act.put, List.setIfInBounds_toArray, List.set_cons_zero, List.set_cons_succ, i64_w, i32_w]
        rfl
      refine pure_ (i := 2) (N := some 38) (v := ?_) (a' := ?_) #[true, false, true, false, false, false, false, false, false, false, false, false, false, false, false, false, false, false, false, false, false, false, false, false, false, false, false] rfl rfl (by kernel_rfl) (fun _ _ _ h => h) (Or.inl ⟨by rfl, ?_⟩) ?_ ?_
      rotate_left
      · intro w'
        go_simp
        with_reducible rfl
      rotate_left
      · simp only [Act.put, List.setIfInBounds_toArray, List.set_cons_zero, List.set_cons_succ, i64_w, i32_w]
        rfl
      refine one_ (i := 1) (N := some 37) #[true, true, true, false, false, false, false, false, false, false, false, false, false, false, false, false, false, false, false, false, false, false, false, false, false, false, false] rfl rfl (by kernel_rfl) (by decide) (fun K hK => ?_)
      refine goes_ Try.func24 (by kernel_rfl) rfl #[.slice A7 n c7] (by rfl) rfl rfl (by first | (simp only [List.map_toArray, List.map_cons, List.map_nil]; done) | (simp only [List.map_toArray, List.map_cons, List.map_nil]; rfl) | rfl) ?_
      with_reducible refine (fold_any _ l _ wz (RX.out.below hHeld.1) hHeld.1 (by have := HL60.out; omega) HLL.out).mono ?_
      rintro e w_x ⟨v_x, wm, rfl, rr, bb, bb2⟩
      refine ⟨_, rfl, ?_⟩
      have hb_x := hHeld.1.trans ((bb2.trans (bb.mono bb2.size)).mono hHeld.1.size)
      have R_x := Lib.hid (krun_rz rr)
      have B_x := Lib.hid bb
      clear rr bb bb2
      refine hK.out _ _ ⟨hb_x, pw_cell_below (hb_x) Q0.out, pw_cell_below (hb_x) Q1.out, pw_cell_below (hb_x) Q2.out, pw_cell_below (hb_x) Q3.out, pw_cell_below (hb_x) Q4.out, pw_cell_below (hb_x) Q5.out, pw_cell_below (hb_x) Q6.out, pw_cell_below (hb_x) Q7.out, pw_cell_below (hb_x) Q8.out, pw_cell_below (hb_x) Q9.out, pw_cell_below (hb_x) Q10.out, pw_cell_below (hb_x) Q11.out⟩ (fun hHeld => ?_)
      clear hK K
      refine norm_ (a' := ?_) ?_ ?_
      rotate_left
      · show Act.put _ (some 37) _ = _
        simp only [Act.put, List.setIfInBounds_toArray, List.set_cons_zero, List.set_cons_succ, i64_w, i32_w]
        rfl
      refine one_ (i := 3) (N := some 39) #[true, true, true, true, false, false, false, false, false, false, false, false, false, false, false, false, false, false, false, false, false, false, false, false, false, false, false] rfl rfl (by kernel_rfl) (by decide) (fun K hK => ?_)
      refine goes_ Try.func25 (by kernel_rfl) rfl #[.slice A n c] (by rfl) rfl rfl (by first | (simp only [List.map_toArray, List.map_cons, List.map_nil]; done) | (simp only [List.map_toArray, List.map_cons, List.map_nil]; rfl) | rfl) ?_
      with_reducible refine (reffold_any _ l w_x (RLw.out.both hHeld.1) (by have := HL60.out; omega)).mono ?_
      rintro e w_y ⟨v_y, rfl, rr, bb⟩
      refine ⟨_, rfl, ?_⟩
      have hb_y := hHeld.1.trans (bb.mono hHeld.1.size)
      have R_y := Lib.hid (krun_rz rr)
      have B_y := Lib.hid bb
      clear rr bb
      refine hK.out _ _ ⟨hb_y, pw_cell_below (hb_y) Q0.out, pw_cell_below (hb_y) Q1.out, pw_cell_below (hb_y) Q2.out, pw_cell_below (hb_y) Q3.out, pw_cell_below (hb_y) Q4.out, pw_cell_below (hb_y) Q5.out, pw_cell_below (hb_y) Q6.out, pw_cell_below (hb_y) Q7.out, pw_cell_below (hb_y) Q8.out, pw_cell_below (hb_y) Q9.out, pw_cell_below (hb_y) Q10.out, pw_cell_below (hb_y) Q11.out⟩ (fun hHeld => ?_)
      clear hK K
      refine norm_ (a' := ?_) ?_ ?_
      rotate_left
      · show Act.put _ (some 39) _ = _
        simp only [Act.put, List.setIfInBounds_toArray, List.set_cons_zero, List.set_cons_succ, i64_w, i32_w]
        rfl
      refine one_ (i := 4) (N := some 40) #[true, true, true, true, true, false, false, false, false, false, false, false, false, false, false, false, false, false, false, false, false, false, false, false, false, false, false] rfl rfl (by kernel_rfl) (by decide) (fun K hK => ?_)
      refine goes_ Try.func23 (by kernel_rfl) rfl #[v_x, v_y] (by rfl) rfl rfl (by first | (simp only [List.map_toArray, List.map_cons, List.map_nil]; done) | (simp only [List.map_toArray, List.map_cons, List.map_nil]; rfl) | rfl) ?_
      with_reducible refine (folded_true _ _ (foldR l) _ wm w_x (R_x.out.below B_y.out) R_y.out (B_x.out.trans (B_y.out.mono B_x.out.size)) B_y.out HFR.out).mono ?_
      rintro e w_z ⟨rfl, bb⟩
      refine ⟨_, rfl, ?_⟩
      have hb_z := hHeld.1.trans (bb.mono hHeld.1.size)
      clear bb
      refine hK.out _ _ ⟨hb_z, pw_cell_below (hb_z) Q0.out, pw_cell_below (hb_z) Q1.out, pw_cell_below (hb_z) Q2.out, pw_cell_below (hb_z) Q3.out, pw_cell_below (hb_z) Q4.out, pw_cell_below (hb_z) Q5.out, pw_cell_below (hb_z) Q6.out, pw_cell_below (hb_z) Q7.out, pw_cell_below (hb_z) Q8.out, pw_cell_below (hb_z) Q9.out, pw_cell_below (hb_z) Q10.out, pw_cell_below (hb_z) Q11.out⟩ (fun hHeld => ?_)
      clear hK K
      refine norm_ (a' := ?_) ?_ ?_
      rotate_left
      · show Act.put _ (some 40) _ = _
        simp only [Act.put, List.setIfInBounds_toArray, List.set_cons_zero, List.set_cons_succ, i64_w, i32_w]
        rfl
      refine pure_ (i := 5) (N := some 41) (v := ?_) (a' := ?_) #[true, true, true, true, true, true, false, false, false, false, false, false, false, false, false, false, false, false, false, false, false, false, false, false, false, false, false] rfl rfl (by kernel_rfl) (fun _ _ _ h => h) (Or.inl ⟨by rfl, ?_⟩) ?_ ?_
      rotate_left
      · intro w'
        go_simp
        with_reducible rfl
      rotate_left
      · simp only [Act.put, List.setIfInBounds_toArray, List.set_cons_zero, List.set_cons_succ, i64_w, i32_w]
        rfl
      refine take_ (i := 6) (N := some 42) (v := ?_) (a' := ?_) #[true, true, true, true, true, true, true, false, false, false, false, false, false, false, false, false, false, false, false, false, false, false, false, false, false, false, false] rfl rfl (by kernel_rfl) (fun _ _ _ h => h) (Or.inl ⟨by rfl, ?_⟩) hHeld ?_ ?_
      rotate_left
      · rintro w' ⟨s0, s1, s2, s3, s4, s5, s6, s7, s8, s9, s10, s11, s12⟩
        go_simp
        with_reducible rfl
      rotate_left
      · simp only [Act.put, List.setIfInBounds_toArray, List.set_cons_zero, List.set_cons_succ, i64_w, i32_w]
        rfl
      refine take_ (i := 8) (N := some 44) (v := ?_) (a' := ?_) #[true, true, true, true, true, true, true, false, true, false, false, false, false, false, false, false, false, false, false, false, false, false, false, false, false, false, false] rfl rfl (by kernel_rfl) (fun _ _ _ h => h) (Or.inl ⟨by rfl, ?_⟩) hHeld ?_ ?_
      rotate_left
      · rintro w' ⟨s0, s1, s2, s3, s4, s5, s6, s7, s8, s9, s10, s11, s12⟩
        go_simp
        with_reducible rfl
      rotate_left
      · simp only [Act.put, List.setIfInBounds_toArray, List.set_cons_zero, List.set_cons_succ, i64_w, i32_w]
        rfl
      refine take_ (i := 11) (N := some 47) (v := ?_) (a' := ?_) #[true, true, true, true, true, true, true, false, true, false, false, true, false, false, false, false, false, false, false, false, false, false, false, false, false, false, false] rfl rfl (by kernel_rfl) (fun _ _ _ h => h) (Or.inl ⟨by rfl, ?_⟩) hHeld ?_ ?_
      rotate_left
      · rintro w' ⟨s0, s1, s2, s3, s4, s5, s6, s7, s8, s9, s10, s11, s12⟩
        go_simp
        with_reducible rfl
      rotate_left
      · simp only [Act.put, List.setIfInBounds_toArray, List.set_cons_zero, List.set_cons_succ, i64_w, i32_w]
        rfl
      refine take_ (i := 12) (N := some 48) (v := ?_) (a' := ?_) #[true, true, true, true, true, true, true, false, true, false, false, true, true, false, false, false, false, false, false, false, false, false, false, false, false, false, false] rfl rfl (by kernel_rfl) (fun _ _ _ h => h) (Or.inl ⟨by rfl, ?_⟩) hHeld ?_ ?_
      rotate_left
      · rintro w' ⟨s0, s1, s2, s3, s4, s5, s6, s7, s8, s9, s10, s11, s12⟩
        go_simp
        with_reducible rfl
      rotate_left
      · simp only [Act.put, List.setIfInBounds_toArray, List.set_cons_zero, List.set_cons_succ, i64_w, i32_w]
        rfl
      refine one_ (i := 7) (N := some 43) #[true, true, true, true, true, true, true, true, true, false, false, true, true, false, false, false, false, false, false, false, false, false, false, false, false, false, false] rfl rfl (by kernel_rfl) (by decide) (fun K hK => ?_)
      refine goes_ Try.func15 (by kernel_rfl) rfl #[.agg #[.string a.out, .string a.cmd, .int .i64 a.time, .int .i64 a.mark, .slice AI1 i1 cI1, .slice AF1 f1 cF1]] (by rfl) rfl rfl (by first | (simp only [List.map_toArray, List.map_cons, List.map_nil]; done) | (simp only [List.map_toArray, List.map_cons, List.map_nil]; rfl) | rfl) ?_
      with_reducible refine (of_any _ a _ (RAw.out.below hHeld.1) HLa.out.1 HLa.out.2).mono ?_
      rintro e w_a1 ⟨v_a1, rfl, rr, bb⟩
      refine ⟨_, rfl, ?_⟩
      have hb_a1 := hHeld.1.trans (bb.mono hHeld.1.size)
      have R_a1 := Lib.hid rr
      have B_a1 := Lib.hid bb
      clear rr bb
      refine hK.out _ _ ⟨hb_a1, pw_cell_below (hb_a1) Q0.out, pw_cell_below (hb_a1) Q1.out, pw_cell_below (hb_a1) Q2.out, pw_cell_below (hb_a1) Q3.out, pw_cell_below (hb_a1) Q4.out, pw_cell_below (hb_a1) Q5.out, pw_cell_below (hb_a1) Q6.out, pw_cell_below (hb_a1) Q7.out, pw_cell_below (hb_a1) Q8.out, pw_cell_below (hb_a1) Q9.out, pw_cell_below (hb_a1) Q10.out, pw_cell_below (hb_a1) Q11.out⟩ (fun hHeld => ?_)
      clear hK K
      refine norm_ (a' := ?_) ?_ ?_
      rotate_left
      · show Act.put _ (some 43) _ = _
        simp only [Act.put, List.setIfInBounds_toArray, List.set_cons_zero, List.set_cons_succ, i64_w, i32_w]
        rfl
      refine one_ (i := 9) (N := some 45) #[true, true, true, true, true, true, true, true, true, true, false, true, true, false, false, false, false, false, false, false, false, false, false, false, false, false, false] rfl rfl (by kernel_rfl) (by decide) (fun K hK => ?_)
      refine goes_ Try.func15 (by kernel_rfl) rfl #[.agg #[.string b.out, .string b.cmd, .int .i64 b.time, .int .i64 b.mark, .slice AI2 i2 cI2, .slice AF2 f2 cF2]] (by rfl) rfl rfl (by first | (simp only [List.map_toArray, List.map_cons, List.map_nil]; done) | (simp only [List.map_toArray, List.map_cons, List.map_nil]; rfl) | rfl) ?_
      with_reducible refine (of_any _ b _ (RBw.out.below hHeld.1) HLb.out.1 HLb.out.2).mono ?_
      rintro e w_b1 ⟨v_b1, rfl, rr, bb⟩
      refine ⟨_, rfl, ?_⟩
      have hb_b1 := hHeld.1.trans (bb.mono hHeld.1.size)
      have R_b1 := Lib.hid rr
      have B_b1 := Lib.hid bb
      clear rr bb
      refine hK.out _ _ ⟨hb_b1, pw_cell_below (hb_b1) Q0.out, pw_cell_below (hb_b1) Q1.out, pw_cell_below (hb_b1) Q2.out, pw_cell_below (hb_b1) Q3.out, pw_cell_below (hb_b1) Q4.out, pw_cell_below (hb_b1) Q5.out, pw_cell_below (hb_b1) Q6.out, pw_cell_below (hb_b1) Q7.out, pw_cell_below (hb_b1) Q8.out, pw_cell_below (hb_b1) Q9.out, pw_cell_below (hb_b1) Q10.out, pw_cell_below (hb_b1) Q11.out⟩ (fun hHeld => ?_)
      clear hK K
      refine norm_ (a' := ?_) ?_ ?_
      rotate_left
      · show Act.put _ (some 45) _ = _
        simp only [Act.put, List.setIfInBounds_toArray, List.set_cons_zero, List.set_cons_succ, i64_w, i32_w]
        rfl
      refine one_ (i := 10) (N := some 46) #[true, true, true, true, true, true, true, true, true, true, true, true, true, false, false, false, false, false, false, false, false, false, false, false, false, false, false] rfl rfl (by kernel_rfl) (by decide) (fun K hK => ?_)
      refine goes_ Try.func26 (by kernel_rfl) rfl #[v_a1, v_b1] (by rfl) rfl rfl (by first | (simp only [List.map_toArray, List.map_cons, List.map_nil]; done) | (simp only [List.map_toArray, List.map_cons, List.map_nil]; rfl) | rfl) ?_
      with_reducible refine (psame_sb HSB.out (R_a1.out.below B_b1.out) R_b1.out).mono ?_
      rintro e w_s ⟨rfl, bb⟩
      refine ⟨_, rfl, ?_⟩
      have hb_s := hHeld.1.trans (bb.mono hHeld.1.size)
      clear bb
      refine hK.out _ _ ⟨hb_s, pw_cell_below (hb_s) Q0.out, pw_cell_below (hb_s) Q1.out, pw_cell_below (hb_s) Q2.out, pw_cell_below (hb_s) Q3.out, pw_cell_below (hb_s) Q4.out, pw_cell_below (hb_s) Q5.out, pw_cell_below (hb_s) Q6.out, pw_cell_below (hb_s) Q7.out, pw_cell_below (hb_s) Q8.out, pw_cell_below (hb_s) Q9.out, pw_cell_below (hb_s) Q10.out, pw_cell_below (hb_s) Q11.out⟩ (fun hHeld => ?_)
      clear hK K
      refine norm_ (a' := ?_) ?_ ?_
      rotate_left
      · show Act.put _ (some 46) _ = _
        simp only [Act.put, List.setIfInBounds_toArray, List.set_cons_zero, List.set_cons_succ, i64_w, i32_w]
        rfl
      refine one_ (i := 13) (N := some 49) #[true, true, true, true, true, true, true, true, true, true, true, true, true, true, false, false, false, false, false, false, false, false, false, false, false, false, false] rfl rfl (by kernel_rfl) (by decide) (fun K hK => ?_)
      refine goes_ Try.func20 (by kernel_rfl) rfl #[.agg #[.string a.out, .string a.cmd, .int .i64 a.time, .int .i64 a.mark, .slice AI1 i1 cI1, .slice AF1 f1 cF1], .agg #[.string b.out, .string b.cmd, .int .i64 b.time, .int .i64 b.mark, .slice AI2 i2 cI2, .slice AF2 f2 cF2]] (by rfl) rfl rfl (by first | (simp only [List.map_toArray, List.map_cons, List.map_nil]; done) | (simp only [List.map_toArray, List.map_cons, List.map_nil]; rfl) | rfl) ?_
      with_reducible refine (rsame_sb HSB.out (RAw.out.below hHeld.1) (RBw.out.below hHeld.1)).mono ?_
      rintro e w_t ⟨rfl, bb⟩
      refine ⟨_, rfl, ?_⟩
      have hb_t := hHeld.1.trans (bb.mono hHeld.1.size)
      clear bb
      refine hK.out _ _ ⟨hb_t, pw_cell_below (hb_t) Q0.out, pw_cell_below (hb_t) Q1.out, pw_cell_below (hb_t) Q2.out, pw_cell_below (hb_t) Q3.out, pw_cell_below (hb_t) Q4.out, pw_cell_below (hb_t) Q5.out, pw_cell_below (hb_t) Q6.out, pw_cell_below (hb_t) Q7.out, pw_cell_below (hb_t) Q8.out, pw_cell_below (hb_t) Q9.out, pw_cell_below (hb_t) Q10.out, pw_cell_below (hb_t) Q11.out⟩ (fun hHeld => ?_)
      clear hK K
      refine norm_ (a' := ?_) ?_ ?_
      rotate_left
      · show Act.put _ (some 49) _ = _
        simp only [Act.put, List.setIfInBounds_toArray, List.set_cons_zero, List.set_cons_succ, i64_w, i32_w]
        rfl
      refine pure_ (i := 14) (N := some 50) (v := ?_) (a' := ?_) #[true, true, true, true, true, true, true, true, true, true, true, true, true, true, true, false, false, false, false, false, false, false, false, false, false, false, false] rfl rfl (by kernel_rfl) (fun _ _ _ h => h) (Or.inl ⟨by rfl, ?_⟩) ?_ ?_
      rotate_left
      · intro w'
        go_simp
        with_reducible rfl
      rotate_left
      · simp only [Act.put, List.setIfInBounds_toArray, List.set_cons_zero, List.set_cons_succ, i64_w, i32_w]
        rfl
      refine pure_ (i := 15) (N := some 51) (v := ?_) (a' := ?_) #[true, true, true, true, true, true, true, true, true, true, true, true, true, true, true, true, false, false, false, false, false, false, false, false, false, false, false] rfl rfl (by kernel_rfl) (fun _ _ _ h => h) (Or.inl ⟨by rfl, ?_⟩) ?_ ?_
      rotate_left
      · intro w'
        go_simp
        with_reducible rfl
      rotate_left
      · simp only [Act.put, List.setIfInBounds_toArray, List.set_cons_zero, List.set_cons_succ, i64_w, i32_w]
        rfl
      refine pure_ (i := 16) (N := some 52) (v := ?_) (a' := ?_) #[true, true, true, true, true, true, true, true, true, true, true, true, true, true, true, true, true, false, false, false, false, false, false, false, false, false, false] rfl rfl (by kernel_rfl) (fun _ _ _ h => h) (Or.inl ⟨by rfl, ?_⟩) ?_ ?_
      rotate_left
      · intro w'
        go_simp
        with_reducible rfl
      rotate_left
      · simp only [Act.put, List.setIfInBounds_toArray, List.set_cons_zero, List.set_cons_succ, i64_w, i32_w]
        rfl
      refine take_ (i := 17) (N := some 53) (v := ?_) (a' := ?_) #[true, true, true, true, true, true, true, true, true, true, true, true, true, true, true, true, true, true, false, false, false, false, false, false, false, false, false] rfl rfl (by kernel_rfl) (fun _ _ _ h => h) (Or.inl ⟨by rfl, ?_⟩) hHeld ?_ ?_
      rotate_left
      · rintro w' ⟨s0, s1, s2, s3, s4, s5, s6, s7, s8, s9, s10, s11, s12⟩
        go_simp
        with_reducible rfl
      rotate_left
      · simp only [Act.put, List.setIfInBounds_toArray, List.set_cons_zero, List.set_cons_succ, i64_w, i32_w]
        rfl
      refine take_ (i := 19) (N := some 55) (v := ?_) (a' := ?_) #[true, true, true, true, true, true, true, true, true, true, true, true, true, true, true, true, true, true, false, true, false, false, false, false, false, false, false] rfl rfl (by kernel_rfl) (fun _ _ _ h => h) (Or.inl ⟨by rfl, ?_⟩) hHeld ?_ ?_
      rotate_left
      · rintro w' ⟨s0, s1, s2, s3, s4, s5, s6, s7, s8, s9, s10, s11, s12⟩
        go_simp
        with_reducible rfl
      rotate_left
      · simp only [Act.put, List.setIfInBounds_toArray, List.set_cons_zero, List.set_cons_succ, i64_w, i32_w]
        rfl
      refine one_ (i := 18) (N := some 54) #[true, true, true, true, true, true, true, true, true, true, true, true, true, true, true, true, true, true, true, true, false, false, false, false, false, false, false] rfl rfl (by kernel_rfl) (by decide) (fun K hK => ?_)
      refine goes_ Try.func15 (by kernel_rfl) rfl #[.agg #[.string a.out, .string a.cmd, .int .i64 a.time, .int .i64 a.mark, .slice AI1 i1 cI1, .slice AF1 f1 cF1]] (by rfl) rfl rfl (by first | (simp only [List.map_toArray, List.map_cons, List.map_nil]; done) | (simp only [List.map_toArray, List.map_cons, List.map_nil]; rfl) | rfl) ?_
      with_reducible refine (of_any _ a _ (RAw.out.below hHeld.1) HLa.out.1 HLa.out.2).mono ?_
      rintro e w_a2 ⟨v_a2, rfl, rr, bb⟩
      refine ⟨_, rfl, ?_⟩
      have hb_a2 := hHeld.1.trans (bb.mono hHeld.1.size)
      have R_a2 := Lib.hid rr
      have B_a2 := Lib.hid bb
      clear rr bb
      refine hK.out _ _ ⟨hb_a2, pw_cell_below (hb_a2) Q0.out, pw_cell_below (hb_a2) Q1.out, pw_cell_below (hb_a2) Q2.out, pw_cell_below (hb_a2) Q3.out, pw_cell_below (hb_a2) Q4.out, pw_cell_below (hb_a2) Q5.out, pw_cell_below (hb_a2) Q6.out, pw_cell_below (hb_a2) Q7.out, pw_cell_below (hb_a2) Q8.out, pw_cell_below (hb_a2) Q9.out, pw_cell_below (hb_a2) Q10.out, pw_cell_below (hb_a2) Q11.out⟩ (fun hHeld => ?_)
      clear hK K
      refine norm_ (a' := ?_) ?_ ?_
      rotate_left
      · show Act.put _ (some 54) _ = _
        simp only [Act.put, List.setIfInBounds_toArray, List.set_cons_zero, List.set_cons_succ, i64_w, i32_w]
        rfl
      refine one_ (i := 20) (N := some 56) #[true, true, true, true, true, true, true, true, true, true, true, true, true, true, true, true, true, true, true, true, true, false, false, false, false, false, false] rfl rfl (by kernel_rfl) (by decide) (fun K hK => ?_)
      refine goes_ Try.func15 (by kernel_rfl) rfl #[.agg #[.string a.out, .string a.cmd, .int .i64 a.time, .int .i64 a.mark, .slice AI1 i1 cI1, .slice AF1 f1 cF1]] (by rfl) rfl rfl (by first | (simp only [List.map_toArray, List.map_cons, List.map_nil]; done) | (simp only [List.map_toArray, List.map_cons, List.map_nil]; rfl) | rfl) ?_
      with_reducible refine (of_any _ a _ (RAw.out.below hHeld.1) HLa.out.1 HLa.out.2).mono ?_
      rintro e w_a3 ⟨v_a3, rfl, rr, bb⟩
      refine ⟨_, rfl, ?_⟩
      have hb_a3 := hHeld.1.trans (bb.mono hHeld.1.size)
      have R_a3 := Lib.hid rr
      have B_a3 := Lib.hid bb
      clear rr bb
      refine hK.out _ _ ⟨hb_a3, pw_cell_below (hb_a3) Q0.out, pw_cell_below (hb_a3) Q1.out, pw_cell_below (hb_a3) Q2.out, pw_cell_below (hb_a3) Q3.out, pw_cell_below (hb_a3) Q4.out, pw_cell_below (hb_a3) Q5.out, pw_cell_below (hb_a3) Q6.out, pw_cell_below (hb_a3) Q7.out, pw_cell_below (hb_a3) Q8.out, pw_cell_below (hb_a3) Q9.out, pw_cell_below (hb_a3) Q10.out, pw_cell_below (hb_a3) Q11.out⟩ (fun hHeld => ?_)
      clear hK K
      refine norm_ (a' := ?_) ?_ ?_
      rotate_left
      · show Act.put _ (some 56) _ = _
        simp only [Act.put, List.setIfInBounds_toArray, List.set_cons_zero, List.set_cons_succ, i64_w, i32_w]
        rfl
      refine one_ (i := 21) (N := some 57) #[true, true, true, true, true, true, true, true, true, true, true, true, true, true, true, true, true, true, true, true, true, true, false, false, false, false, false] rfl rfl (by kernel_rfl) (by decide) (fun K hK => ?_)
      refine goes_ Try.func26 (by kernel_rfl) rfl #[v_a2, v_a3] (by rfl) rfl rfl (by first | (simp only [List.map_toArray, List.map_cons, List.map_nil]; done) | (simp only [List.map_toArray, List.map_cons, List.map_nil]; rfl) | rfl) ?_
      with_reducible refine (psame_true _ _ a _ (R_a2.out.below B_a3.out) R_a3.out).mono ?_
      rintro e w_u ⟨rfl, bb⟩
      refine ⟨_, rfl, ?_⟩
      have hb_u := hHeld.1.trans (bb.mono hHeld.1.size)
      clear bb
      refine hK.out _ _ ⟨hb_u, pw_cell_below (hb_u) Q0.out, pw_cell_below (hb_u) Q1.out, pw_cell_below (hb_u) Q2.out, pw_cell_below (hb_u) Q3.out, pw_cell_below (hb_u) Q4.out, pw_cell_below (hb_u) Q5.out, pw_cell_below (hb_u) Q6.out, pw_cell_below (hb_u) Q7.out, pw_cell_below (hb_u) Q8.out, pw_cell_below (hb_u) Q9.out, pw_cell_below (hb_u) Q10.out, pw_cell_below (hb_u) Q11.out⟩ (fun hHeld => ?_)
      clear hK K
      refine norm_ (a' := ?_) ?_ ?_
      rotate_left
      · show Act.put _ (some 57) _ = _
        simp only [Act.put, List.setIfInBounds_toArray, List.set_cons_zero, List.set_cons_succ, i64_w, i32_w]
        rfl
      refine pure_ (i := 22) (N := some 58) (v := ?_) (a' := ?_) #[true, true, true, true, true, true, true, true, true, true, true, true, true, true, true, true, true, true, true, true, true, true, true, false, false, false, false] rfl rfl (by kernel_rfl) (fun _ _ _ h => h) (Or.inl ⟨by rfl, ?_⟩) ?_ ?_
      rotate_left
      · intro w'
        go_simp
        with_reducible rfl
      rotate_left
      · simp only [Act.put, List.setIfInBounds_toArray, List.set_cons_zero, List.set_cons_succ, i64_w, i32_w]
        rfl
      refine pure_ (i := 23) (N := some 59) (v := ?_) (a' := ?_) #[true, true, true, true, true, true, true, true, true, true, true, true, true, true, true, true, true, true, true, true, true, true, true, true, false, false, false] rfl rfl (by kernel_rfl) (fun _ _ _ h => h) (Or.inl ⟨by rfl, ?_⟩) ?_ ?_
      rotate_left
      · intro w'
        go_simp
        with_reducible rfl
      rotate_left
      · simp only [Act.put, List.setIfInBounds_toArray, List.set_cons_zero, List.set_cons_succ, i64_w, i32_w]
        rfl
      refine one_ (i := 24) (N := some 60) #[true, true, true, true, true, true, true, true, true, true, true, true, true, true, true, true, true, true, true, true, true, true, true, true, true, false, false] rfl rfl (by kernel_rfl) (by decide) (fun K hK => ?_)
      refine goes_ Try.func17 (by kernel_rfl) rfl #[] (by rfl) rfl rfl (by first | (simp only [List.map_toArray, List.map_cons, List.map_nil]; done) | (simp only [List.map_toArray, List.map_cons, List.map_nil]; rfl) | rfl) ?_
      with_reducible refine (awake_any _).mono ?_
      rintro e w_v ⟨rfl, bb⟩
      refine ⟨_, rfl, ?_⟩
      have hb_v := hHeld.1.trans (bb.mono hHeld.1.size)
      clear bb
      refine hK.out _ _ ⟨hb_v, pw_cell_below (hb_v) Q0.out, pw_cell_below (hb_v) Q1.out, pw_cell_below (hb_v) Q2.out, pw_cell_below (hb_v) Q3.out, pw_cell_below (hb_v) Q4.out, pw_cell_below (hb_v) Q5.out, pw_cell_below (hb_v) Q6.out, pw_cell_below (hb_v) Q7.out, pw_cell_below (hb_v) Q8.out, pw_cell_below (hb_v) Q9.out, pw_cell_below (hb_v) Q10.out, pw_cell_below (hb_v) Q11.out⟩ (fun hHeld => ?_)
      clear hK K
      refine norm_ (a' := ?_) ?_ ?_
      rotate_left
      · show Act.put _ (some 60) _ = _
        simp only [Act.put, List.setIfInBounds_toArray, List.set_cons_zero, List.set_cons_succ, i64_w, i32_w]
        rfl
      refine pure_ (i := 25) (N := some 61) (v := ?_) (a' := ?_) #[true, true, true, true, true, true, true, true, true, true, true, true, true, true, true, true, true, true, true, true, true, true, true, true, true, true, false] rfl rfl (by kernel_rfl) (fun _ _ _ h => h) (Or.inl ⟨by rfl, ?_⟩) ?_ ?_
      rotate_left
      · intro w'
        go_simp
        with_reducible rfl
      rotate_left
      · simp only [Act.put, List.setIfInBounds_toArray, List.set_cons_zero, List.set_cons_succ, i64_w, i32_w]
        rfl
      refine pure_ (i := 26) (N := some 6) (v := ?_) (a' := ?_) #[true, true, true, true, true, true, true, true, true, true, true, true, true, true, true, true, true, true, true, true, true, true, true, true, true, true, true] rfl rfl (by kernel_rfl) (fun _ _ _ h => h) (Or.inl ⟨by rfl, ?_⟩) ?_ ?_
      rotate_left
      · intro w'
        go_simp
        with_reducible rfl
      rotate_left
      · simp only [Act.put, List.setIfInBounds_toArray, List.set_cons_zero, List.set_cons_succ, i64_w, i32_w]
        rfl
      refine done_ (by kernel_rfl) ?_
      --S7
      have HH := Lib.hid hHeld.1
      clear hHeld
      go_wp2
      go_ret
      exact ⟨rfl, HBw.out.trans (HH.out.mono HBw.out.size)⟩
--END WALK
end Go.Proofs.Ytehndlafbbpofaa.Run
