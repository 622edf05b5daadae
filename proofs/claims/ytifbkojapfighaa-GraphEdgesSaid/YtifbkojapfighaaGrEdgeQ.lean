/- graph.(*Graph).Edge; questions to no graph, and beyond the edges (walks). -/
import Derived.Test.YtifbkojapfighaaGrTar
namespace Go.Proofs.Ytifbkojapfighaa.Gr
open Go.RowKit Go.Proofs.YtifbkojapfighaaW.PrintWords Go.Proofs.YtifbkojapfighaaW.PrintLast Go.Proofs.Ytifbkojapfighaa.Base Go.Maps
set_option linter.unusedVariables false
set_option linter.unusedSimpArgs false
abbrev zagg : Value := .agg #[.slice none 0 0, .slice none 0 0, .slice none 0 0, .slice none 0 0, .string ⟨#[]⟩, .string ⟨#[]⟩]
theorem plan_nil (w : World) : Calls Try.prog 15 #[.pointer none, .slice none 0 0] w fun e w' => e = .returned (.tuple #[.slice none 0 0, .int .i64 15]) ∧ w' = w := by
  go_enter Try.func15, Try.ntmps15
  go_wp2
  go_ret2
  exact ⟨rfl, rfl⟩
theorem maker_nil (s : ByteArray) (w : World) : Calls Try.prog 22 #[.pointer none, .string s] w fun e w' => e = .returned (.tuple #[.int .i64 0, .bool false]) ∧ w' = w := by
  go_enter Try.func22, Try.ntmps22
  go_wp2
  go_ret2
  exact ⟨rfl, rfl⟩
theorem sources_nil (w : World) : Calls Try.prog 24 #[.pointer none] w fun e w' => e = .returned (.slice none 0 0) ∧ Below w.heap.size w w' := by
  go_enter Try.func24, Try.ntmps24
  go_wp2
  go_ret
  exact ⟨rfl, below_alloc (Below.refl _ _) _⟩
theorem outs_nil (w : World) : Calls Try.prog 20 #[.pointer none] w fun e w' => e = .returned (.slice none 0 0) ∧ w' = w := by
  go_enter Try.func20, Try.ntmps20
  go_wp2
  go_ret
  exact ⟨rfl, rfl⟩
theorem targets_nil (w : World) : Calls Try.prog 25 #[.pointer none] w fun e w' => e = .returned (.slice none 0 0) ∧ w' = w := by
  go_enter Try.func25, Try.ntmps25
  go_wp2
  go_ret
  exact ⟨rfl, rfl⟩
theorem above_nil (k : Int) (w : World) : Calls Try.prog 19 #[.pointer none, .int .i64 k] w fun e w' => e = .returned (.slice none 0 0) ∧ w' = w := by
  go_enter Try.func19, Try.ntmps19
  go_wp2
  go_ret
  exact ⟨rfl, rfl⟩
theorem above_out (g : Nat) (m : ManV) (a : Int) (w : World) (h : Gx w g m) (ha : a < 0 ∨ (m.edges.length : Int) ≤ a) : Calls Try.prog 19 #[.pointer (some ⟨g, 0, none⟩), .int .i64 a] w fun e w' => e = .returned (.slice none 0 0) ∧ w' = w := by
  obtain ⟨ve, vd, va, mk, nk, hg, hE, hD, hM, hA⟩ := h
  obtain ⟨Ae, ce, rfl, _, _⟩ := hE.len
  obtain ⟨n, hn⟩ : ∃ n, n = m.edges.length := ⟨_, rfl⟩
  rw [← hn] at hg ha
  have g0 := (show w.cell? ⟨g, 0, none⟩ = some (.slice Ae n ce) from blk_cell hg 0)
  clear hg hE hD hM hA hn
  by_cases a0 : a < 0
  · have d1 : decide (a < 0) = true := decide_eq_true a0
    go_enter Try.func19, Try.ntmps19
    go_wp2
    go_ret
    exact ⟨rfl, rfl⟩
  · have d1 : decide (a < 0) = false := decide_eq_false a0
    have d2 : decide ((n : Int) ≤ a) = true := decide_eq_true (ha.resolve_left a0)
    go_enter Try.func19, Try.ntmps19
    go_wp2
    go_ret
    exact ⟨rfl, rfl⟩
theorem edge_nil (k : Int) (w : World) : Calls Try.prog 32 #[.pointer none, .int .i64 k] w fun e w' => e = .returned zagg ∧ Below w.heap.size w w' := by
  go_enter Try.func32, Try.ntmps32
  go_wp2
  refine bodyPost_ret (v := zagg) (by simp [results, go_sem]) rfl ⟨rfl, ?_⟩
  exact below_alloc (Below.refl _ _) _
theorem edge_out (g : Nat) (m : ManV) (a : Int) (w : World) (h : Gx w g m) (ha : a < 0 ∨ (m.edges.length : Int) ≤ a) : Calls Try.prog 32 #[.pointer (some ⟨g, 0, none⟩), .int .i64 a] w fun e w' => e = .returned zagg ∧ Below w.heap.size w w' := by
  obtain ⟨ve, vd, va, mk, nk, hg, hE, hD, hM, hA⟩ := h
  obtain ⟨Ae, ce, rfl, _, _⟩ := hE.len
  obtain ⟨n, hn⟩ : ∃ n, n = m.edges.length := ⟨_, rfl⟩
  rw [← hn] at hg ha
  have g0 := (show w.cell? ⟨g, 0, none⟩ = some (.slice Ae n ce) from blk_cell hg 0)
  have hgl : g < w.heap.size := blk_lt hg
  clear hg hE hD hM hA hn
  by_cases a0 : a < 0
  · have d1 : decide (a < 0) = true := decide_eq_true a0
    go_enter Try.func32, Try.ntmps32
    go_wp2
    refine bodyPost_ret (v := zagg) (by simp [results, go_sem]) rfl ⟨rfl, ?_⟩
    exact below_alloc (Below.refl _ _) _
  · have d1 : decide (a < 0) = false := decide_eq_false a0
    have d2 : decide ((n : Int) ≤ a) = true := decide_eq_true (ha.resolve_left a0)
    go_enter Try.func32, Try.ntmps32
    go_wp2
    refine bodyPost_ret (v := zagg) (by simp [results, go_sem]) rfl ⟨rfl, ?_⟩
    exact below_alloc (Below.refl _ _) _
set_option maxRecDepth 100000 in
set_option maxHeartbeats 1600000 in
theorem edge_any (g : Nat) (m : ManV) (k : Nat) (w : World) (h : Gx w g m) (hs : SmallG m) (hk : k < m.edges.length) :
    Calls Try.prog 32 #[.pointer (some ⟨g, 0, none⟩), .int .i64 k] w fun e w' => (∃ vo vi vm vr, e = .returned (.agg #[vo, vi, vm, vr, .string (m.edges.getD k zedge).cmd, .string (m.edges.getD k zedge).dep]) ∧ EdO 0 (fun _ => True) w' vo vi vm vr (m.edges.getD k zedge)) ∧ Below w.heap.size w w' := by
  obtain ⟨ve, vd, va, mk, nk, hg, hE, hD, hM, hA⟩ := h
  obtain ⟨Ae, ce, rfl, _, _⟩ := hE.len
  obtain ⟨n, hn⟩ : ∃ n, n = m.edges.length := ⟨_, rfl⟩
  rw [← hn] at hg hE
  have hkn : k < n := by rw [hn]; exact hk
  have hn4 : n ≤ 10000 := by rw [hn]; exact hs.edges
  have HSE := Lib.hid (hs.each _ (take_at m.edges zedge k hk).2)
  obtain ⟨x, hx⟩ : ∃ x, w.heap.size = x := ⟨_, rfl⟩
  obtain ⟨w1, hw1⟩ : ∃ w1, w1 = w.alloc (.cells #[.slice none 0 0, .slice none 0 0, .slice none 0 0, .slice none 0 0, .string ⟨#[]⟩, .string ⟨#[]⟩] 44) := ⟨_, rfl⟩
  have hb1 : Below w.heap.size w w1 := by rw [hw1]; exact below_alloc (Below.refl _ _) _
  have XR : Hid (w1.heap[x]? = some (.cells #[.slice none 0 0, .slice none 0 0, .slice none 0 0, .slice none 0 0, .string ⟨#[]⟩, .string ⟨#[]⟩] 44 (0, 0))) := by show _ = _; rw [hw1, ← hx]; exact blk_new w _
  have hg1 := (hb1.block _ (blk_lt hg)).trans hg
  have g0 := (show w1.cell? ⟨g, 0, none⟩ = some (.slice Ae n ce) from blk_cell hg1 0)
  obtain ⟨ad, vo, vi, vm, vr, e1, p0, p1, p2, p3, p4, p5, hec⟩ := (hE.below hb1).get k hk
  subst e1
  generalize m.edges.getD k zedge = ey at p4 p5 hec HSE ⊢
  have HEI : Hid (EdIs w1 (.agg #[vo, vi, vm, vr, .string ey.cmd, .string ey.dep]) ey) := ⟨_, _, _, _, rfl, hec⟩
  have HB1 := Lib.hid hb1
  have HW1 := Lib.hid hw1
  have HX := Lib.hid hx
  have d1 : decide ((k : Int) < 0) = false := decide_eq_false (by omega)
  have d2 : decide ((n : Int) ≤ (k : Int)) = false := decide_eq_false (by omega)
  have d3 : decide (n ≤ k) = false := decide_eq_false (by omega)
  clear hg hE hD hM hA hn hs hk hb1 hw1 hg1 hec
  go_enter Try.func32, Try.ntmps32
  go_upto_region 1 with (fail)
  rw [← HW1.out]
  try rw [hx]
  clear hx
  go_wp2_with fail
  refine (copied_any _ ey _ HEI.out HSE.out).mono ?_
  rintro e w2 ⟨vo2, vi2, vm2, vr2, rfl, hO, b2⟩
  obtain ⟨Ao, co, rfl, _, _⟩ := ss_len hO.c.1
  obtain ⟨Ai, ci, rfl, _, _⟩ := ss_len hO.c.2.1
  obtain ⟨Am, cm, rfl, _, _⟩ := ss_len hO.c.2.2.1
  obtain ⟨Ar, cr, rfl, _, _⟩ := ss_len hO.c.2.2.2
  have HO := Lib.hid hO
  have HB2 := Lib.hid b2
  have XR2 := Lib.hid ((b2.block x (blk_lt XR.out)).trans XR.out)
  clear hO b2 p0 p1 p2 p3 p4 p5 g0 d1 d2 d3
  go_wp2_with (with_reducible refine gate_ (.store 44 (.tmp 4) (.tmp 30)) rfl ?_; refine Held.of ?_)
  refine Held.out (wpList_plain rfl fun K hK => wp_store_row 44 (.tmp 4) (.tmp 30) rfl x _ rfl rfl 44 _ XR2.out (by kernel_rfl) rfl (by simp [Value.oneCell']) (hK _ _ ?_))
  have HY := Lib.hid (setRow_heap _ x _ (#[.slice Ao ey.outs.length co, .slice Ai ey.ins.length ci, .slice Am ey.imp.length cm, .slice Ar ey.ord.length cr, .string ey.cmd, .string ey.dep]) _ _ XR2.out)
  go_wp2
  (try simp only [Exit.inBlock, Exit.then])
  refine bodyPost_ret (results_cell_row rfl _ _ x 44 _ (0, 0) _ rfl HY.out Try.underlying44 rfl (by kernel_rfl)) rfl ?_
  have hbb := row_below (g := x) (HB1.out.trans (HB2.out.mono HB1.out.size)) (by rw [HX.out]; omega) #[.slice Ao ey.outs.length co, .slice Ai ey.ins.length ci, .slice Am ey.imp.length cm, .slice Ar ey.ord.length cr, .string ey.cmd, .string ey.dep]
  exact ⟨⟨_, _, _, _, rfl, Kd.R_lower (R_setRow HO.out.1 XR2.out (by decide) _) (Nat.zero_le _), Kd.R_lower (R_setRow HO.out.2.1 XR2.out (by decide) _) (Nat.zero_le _), Kd.R_lower (R_setRow HO.out.2.2.1 XR2.out (by decide) _) (Nat.zero_le _), Kd.R_lower (R_setRow HO.out.2.2.2 XR2.out (by decide) _) (Nat.zero_le _)⟩, hbb⟩
end Go.Proofs.Ytifbkojapfighaa.Gr
