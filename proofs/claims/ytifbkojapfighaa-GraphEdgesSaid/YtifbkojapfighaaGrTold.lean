/- bellowslaw13.told at one edge (walk). -/
import Derived.Test.YtifbkojapfighaaGrEdgeQ
namespace Go.Proofs.Ytifbkojapfighaa.Gr
open Go.RowKit Go.Proofs.YtifbkojapfighaaW.PrintWords Go.Proofs.YtifbkojapfighaaW.PrintLast Go.Proofs.Ytifbkojapfighaa.Base Go.Maps
set_option linter.unusedVariables false
set_option linter.unusedSimpArgs false
set_option maxRecDepth 100000 in
set_option maxHeartbeats 4000000 in
theorem told_one (b : Nat) (t : TypeId) (e : EdgeV) (w : World) (vo vi vm vr : Value) (hc : w.heap[b]? = some (.cells #[vo, vi, vm, vr, .string e.cmd, .string e.dep] t (0, 0))) (hO : EdO 0 (fun _ => True) w vo vi vm vr e) :
    Calls Try.prog 31 #[.agg #[.slice (some ⟨b, 0, none⟩) 1 1, .slice none 0 0]] w fun r w' => (∃ ve', r = .returned (.agg #[ve', .slice none 0 0]) ∧ Ez w' ve' [e]) ∧ Below w.heap.size w w' := by
  obtain ⟨Ao, co, rfl, _, _⟩ := ss_len hO.c.1
  obtain ⟨Ai, ci, rfl, _, _⟩ := ss_len hO.c.2.1
  obtain ⟨Am, cm, rfl, _, _⟩ := ss_len hO.c.2.2.1
  obtain ⟨Ar, cr, rfl, _, _⟩ := ss_len hO.c.2.2.2
  obtain ⟨no, hno⟩ : ∃ no, no = e.outs.length := ⟨_, rfl⟩
  obtain ⟨ni, hni⟩ : ∃ ni, ni = e.ins.length := ⟨_, rfl⟩
  obtain ⟨nm, hnm⟩ : ∃ nm, nm = e.imp.length := ⟨_, rfl⟩
  obtain ⟨nr, hnr⟩ : ∃ nr, nr = e.ord.length := ⟨_, rfl⟩
  rw [← hno, ← hni, ← hnm, ← hnr] at hc hO
  clear hno hni hnm hnr
  obtain ⟨x, hx⟩ : ∃ x, w.heap.size = x := ⟨_, rfl⟩
  obtain ⟨w1, hw1⟩ : ∃ w1, w1 = (w.alloc (.cells #[.slice (some ⟨b, 0, none⟩) 1 1, .slice none 0 0] 33)).alloc (.cells #[.slice none 0 0, .slice none 0 0] 25) := ⟨_, rfl⟩
  have hb1 : Below w.heap.size w w1 := by rw [hw1]; exact below_alloc (below_alloc (Below.refl _ _) _) _
  have hs1 : w1.heap.size = x + 2 := by rw [hw1, ← hx]; simp
  have hX : w1.heap[x]? = some (.cells #[.slice (some ⟨b, 0, none⟩) 1 1, .slice none 0 0] 33 (0, 0)) := by
    rw [hw1, ← hx]
    have h := blk_new w (.cells #[.slice (some ⟨b, 0, none⟩) 1 1, .slice none 0 0] 33)
    exact ((below_alloc (Below.refl _ _) _).block _ (blk_lt h)).trans h
  have hR : w1.heap[x + 1]? = some (.cells #[.slice none 0 0, .slice none 0 0] 25 (0, 0)) := by
    rw [hw1, ← hx]
    have h := blk_new (w.alloc (.cells #[.slice (some ⟨b, 0, none⟩) 1 1, .slice none 0 0] 33)) (.cells #[.slice none 0 0, .slice none 0 0] 25)
    simpa using h
  have HX := Lib.hid hX
  have HR := Lib.hid hR
  have HC := Lib.hid ((hb1.block _ (blk_lt hc)).trans hc)
  have HO := Lib.hid (hO.below hb1)
  have HB1 := Lib.hid hb1
  have HW := Lib.hid hw1
  have HS1 := Lib.hid hs1
  have HXX := Lib.hid hx
  have q0 := (show w1.cell? ⟨x, 0, none⟩ = some (.slice (some ⟨b, 0, none⟩) 1 1) from blk_cell hX 0)
  have q1 := (show w1.cell? ⟨x, 1, none⟩ = some (.slice none 0 0) from blk_cell hX 1)
  clear hc hO hb1 hX hR hw1 hs1
  go_enter Try.func31, Try.ntmps31
  go_upto_region 1 with (fail)
  rw [← HW.out]
  try rw [hx]
  clear hx
  go_upto_region 2 with (fail)
  obtain ⟨y, hy⟩ : ∃ y, w1.heap.size = y := ⟨_, rfl⟩
  obtain ⟨w2, hw2⟩ : ∃ w2, w2 = w1.alloc (.cells #[.slice none 0 0, .slice none 0 0] 25) := ⟨_, rfl⟩
  have hb2 : Below w1.heap.size w1 w2 := by rw [hw2]; exact below_alloc (Below.refl _ _) _
  have HY2 : Hid (w2.heap[y]? = some (.cells #[.slice none 0 0, .slice none 0 0] 25 (0, 0))) := by show _ = _; rw [hw2, ← hy]; exact blk_new w1 _
  have HX2 := Lib.hid ((hb2.block x (blk_lt HX.out)).trans HX.out)
  have HR2 := Lib.hid ((hb2.block (x + 1) (blk_lt HR.out)).trans HR.out)
  have HC2 := Lib.hid ((hb2.block b (blk_lt HC.out)).trans HC.out)
  have HO2 := Lib.hid (HO.out.below hb2)
  have HB2 := Lib.hid (HB1.out.trans (hb2.mono HB1.out.size))
  have HYE : Hid (y = x + 2 ∧ w.heap.size = x) := ⟨by rw [← hy]; exact HS1.out, HXX.out⟩
  have HNE : Hid (x ≠ y ∧ x + 1 ≠ y ∧ w.heap.size ≤ y ∧ w.heap.size ≤ x + 1) := by
    obtain ⟨h1, h2⟩ := HYE.out
    exact ⟨by omega, by omega, by omega, by omega⟩
  rw [← hw2]
  try rw [hy]
  clear hb2 hw2 hy q0 q1
  go_wp2
  --S1
  go_loopw [4] (fun i wr => (i = .int .i64 0 ∧ wr = w2) ∨ (i = .int .i64 1 ∧ ∃ v1, Hid (wr.heap[y]? = some (.cells #[v1, .slice none 0 0] 25 (0, 0)) ∧ wr.heap[x]? = some (.cells #[.slice (some ⟨b, 0, none⟩) 1 1, .slice none 0 0] 33 (0, 0)) ∧ wr.heap[x + 1]? = some (.cells #[.slice none 0 0, .slice none 0 0] 25 (0, 0)) ∧ kedge.R 46 wr 0 (fun _ => True) v1 [e.x] ∧ Below w.heap.size w wr))) (fun i _ => 1 - (intOf i).toNat)
  case atStart => exact .inl ⟨rfl, rfl⟩
  case round =>
    rcases hrel with ⟨rfl, hwr⟩ | ⟨rfl, v1, HD⟩
    · have hwr := hwr.symm
      subst hwr
      have q0 := (show w2.cell? ⟨x, 0, none⟩ = some (.slice (some ⟨b, 0, none⟩) 1 1) from blk_cell HX2.out 0)
      have p0 := (show w2.cell? ⟨b, 0, none⟩ = some (.slice Ao no co) from blk_cell HC2.out 0)
      have p1 := (show w2.cell? ⟨b, 1, none⟩ = some (.slice Ai ni ci) from blk_cell HC2.out 1)
      have p2 := (show w2.cell? ⟨b, 2, none⟩ = some (.slice Am nm cm) from blk_cell HC2.out 2)
      have p3 := (show w2.cell? ⟨b, 3, none⟩ = some (.slice Ar nr cr) from blk_cell HC2.out 3)
      have p4 := (show w2.cell? ⟨b, 4, none⟩ = some (.string e.cmd) from blk_cell HC2.out 4)
      have p5 := (show w2.cell? ⟨b, 5, none⟩ = some (.string e.dep) from blk_cell HC2.out 5)
      go_upto_region 6 with (fail)
      obtain ⟨z, hz⟩ : ∃ z, w2.heap.size = z := ⟨_, rfl⟩
      obtain ⟨w4, hw4⟩ : ∃ w4, w4 = w2.alloc (.cells #[.slice Ao no co, .slice Ai ni ci, .slice Am nm cm, .slice Ar nr cr, .string e.cmd, .string e.dep] 44) := ⟨_, rfl⟩
      have hb4 : Below w2.heap.size w2 w4 := by rw [hw4]; exact below_alloc (Below.refl _ _) _
      have HZ4 : Hid (w4.heap[z]? = some (.cells #[.slice Ao no co, .slice Ai ni ci, .slice Am nm cm, .slice Ar nr cr, .string e.cmd, .string e.dep] 44 (0, 0))) := by show _ = _; rw [hw4, ← hz]; exact blk_new w2 _
      have HX4 := Lib.hid ((hb4.block x (blk_lt HX2.out)).trans HX2.out)
      have HY4 := Lib.hid ((hb4.block y (blk_lt HY2.out)).trans HY2.out)
      have HR4 := Lib.hid ((hb4.block (x + 1) (blk_lt HR2.out)).trans HR2.out)
      have HO4 := Lib.hid (HO2.out.below hb4)
      have HB4 := Lib.hid (HB2.out.trans (hb4.mono HB2.out.size))
      rw [← hw4]
      try rw [hz]
      clear hb4 hw4 hz q0 p0 p1 p2 p3 p4 p5
      have q0 := (show w4.cell? ⟨y, 0, none⟩ = some (.slice none 0 0) from blk_cell HY4.out 0)
      have p0 := (show w4.cell? ⟨z, 0, none⟩ = some (.slice Ao no co) from blk_cell HZ4.out 0)
      have p1 := (show w4.cell? ⟨z, 1, none⟩ = some (.slice Ai ni ci) from blk_cell HZ4.out 1)
      have p2 := (show w4.cell? ⟨z, 2, none⟩ = some (.slice Am nm cm) from blk_cell HZ4.out 2)
      have p3 := (show w4.cell? ⟨z, 3, none⟩ = some (.slice Ar nr cr) from blk_cell HZ4.out 3)
      have p4 := (show w4.cell? ⟨z, 4, none⟩ = some (.string e.cmd) from blk_cell HZ4.out 4)
      have p5 := (show w4.cell? ⟨z, 5, none⟩ = some (.string e.dep) from blk_cell HZ4.out 5)
      go_wp2_with (at_builtin; refine Held.of ?_)
      clear q0 p0 p1 p2 p3 p4 p5
      have HM : Hid (kedge.M w4 0 (fun k => True ∧ some k ≠ (Value.slice none 0 0).ownBlock) e.x [.slice Ao no co, .slice Ai ni ci, .slice Am nm cm, .slice Ar nr cr, .string e.cmd, .string e.dep]) := (EdO.ne (ok := fun _ => True) HO4.out (es := []) (Kd.R_nil kedge _ _ _ _)).M
      refine Held.out (Kd.R_append kedge (w0 := w4) 0 rfl (.tmp 22) (.tmp 36) 22 46 (.agg #[.slice none 0 0, .slice none 0 0, .slice none 0 0, .slice none 0 0, .string ⟨#[]⟩, .string ⟨#[]⟩]) 128 rfl Try.underlying22 (by kernel_rfl) rfl (by decide) (by decide) _ [] e.x [.slice Ao no co, .slice Ai ni ci, .slice Am nm cm, .slice Ar nr cr, .string e.cmd, .string e.dep] (fun _ => True) _ rfl rfl HM.out (fun _ hk => hk) (fun _ _ => trivial) (Kd.R_nil kedge _ _ _ _) ((Below.refl w4.heap.size w4).mono (Nat.zero_le _)) (Nat.zero_le _) (by simp) ?_)
      intro v5 w5 r5 _ g5 _
      have hb5 : Below w4.heap.size w4 w5 := (Below.refl w4.heap.size w4).grown g5 (Nat.le_refl _) (fun q hq => by cases hq)
      obtain ⟨A5, c5, rfl⟩ := Kd.R_slice r5
      have HR5 := Lib.hid r5
      have HX5 := Lib.hid ((hb5.block x (blk_lt HX4.out)).trans HX4.out)
      have HY5 := Lib.hid ((hb5.block y (blk_lt HY4.out)).trans HY4.out)
      have HRR5 := Lib.hid ((hb5.block (x + 1) (blk_lt HR4.out)).trans HR4.out)
      have HB5 := Lib.hid (HB4.out.trans (hb5.mono HB4.out.size))
      have f0 := blk_frozen HY5.out 0
      have k0 := (show w5.cell? ⟨y, 0, none⟩ = some (.slice none 0 0) from blk_cell HY5.out 0)
      have hnd : Hid (kedge.R 46 (w5.setCell ⟨y, 0, none⟩ (.slice A5 1 c5)) 0 (fun _ => True) (.slice A5 1 c5) [e.x]) := Kd.R_set HR5.out HY5.out (by decide) 0 _
      clear r5 g5 hb5
      go_wp2
      go_roundw
      case rel => exact .inr ⟨rfl, _, ⟨blk_set HY5.out 0 _, (Below.heap_setCell _ _ _ _ HNE.out.1).trans HX5.out, (Below.heap_setCell _ _ _ _ HNE.out.2.1).trans HRR5.out, hnd.out, HB5.out.setCell HNE.out.2.2.1 _⟩⟩
      case measure => simp [intOf]
    · obtain ⟨A1, c1, rfl⟩ := Kd.R_slice HD.out.2.2.2.1
      have q0 := (show wr.cell? ⟨x, 0, none⟩ = some (.slice (some ⟨b, 0, none⟩) 1 1) from blk_cell HD.out.2.1 0)
      go_upto_region 7 with (fail)
      clear q0
      go_wp2_with (with_reducible refine gate_ (.load 25 (.tmp 3)) rfl ?_; refine Held.of ?_)
      refine Held.out (wpList_load_row rfl 25 (.tmp 3) rfl y rfl 25 _ (0, 0) _ HD.out.1 Try.underlying25 rfl (by kernel_rfl) ?_)
      go_wp2_with (with_reducible refine gate_ (.store 25 (.tmp 2) (.tmp 39)) rfl ?_; refine Held.of ?_)
      refine Held.out (wpList_plain rfl fun K hK => wp_store_row 25 (.tmp 2) (.tmp 39) rfl (x + 1) _ rfl rfl 25 _ HD.out.2.2.1 (by kernel_rfl) rfl (by simp [Value.oneCell']) (hK _ _ ?_))
      have HY := Lib.hid (setRow_heap _ (x + 1) _ (#[.slice A1 [e.x].length c1, .slice none 0 0]) _ _ HD.out.2.2.1)
      go_wp2
      (try simp only [Exit.inBlock, Exit.then])
      refine bodyPost_ret (results_cell_row rfl _ _ (x + 1) 25 _ (0, 0) _ rfl HY.out Try.underlying25 rfl (by kernel_rfl)) rfl ?_
      refine ⟨⟨_, rfl, ez_of_R (es := [e]) (R_setRow HD.out.2.2.2.1 HD.out.2.2.1 (by decide) _)⟩, ?_⟩
      exact row_below (g := x + 1) HD.out.2.2.2.2 HNE.out.2.2.2 _
end Go.Proofs.Ytifbkojapfighaa.Gr
