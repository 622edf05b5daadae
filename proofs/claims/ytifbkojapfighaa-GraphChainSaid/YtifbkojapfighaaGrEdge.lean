/- An edge in memory; graph.copied and graph.needs (walks). -/
import Derived.Test.YtifbkojapfighaaGrConcat
namespace Go.Proofs.Ytifbkojapfighaa.Gr
open Go.RowKit Go.Proofs.YtifbkojapfighaaW.PrintWords Go.Proofs.YtifbkojapfighaaW.PrintLast Go.Proofs.Ytifbkojapfighaa.Base Go.Maps
set_option linter.unusedVariables false
set_option linter.unusedSimpArgs false

structure EdgeV where
  outs : List ByteArray
  ins : List ByteArray
  imp : List ByteArray
  ord : List ByteArray
  cmd : ByteArray
  dep : ByteArray
def zedge : EdgeV := ⟨[], [], [], [], ⟨#[]⟩, ⟨#[]⟩⟩
def needsV (e : EdgeV) : List ByteArray := e.ins ++ e.imp ++ e.ord
/-- Its rows are not too long. -/
structure SmallE (e : EdgeV) : Prop where
  outs : e.outs.length ≤ 100000
  ins : e.ins.length ≤ 100000
  imp : e.imp.length ≤ 100000
  ord : e.ord.length ≤ 100000
/-- The cells of an edge, read. -/
def EdC (w : World) (vo vi vm vr : Value) (e : EdgeV) : Prop := Ss w vo e.outs ∧ Ss w vi e.ins ∧ Ss w vm e.imp ∧ Ss w vr e.ord
theorem EdC.below {w w1 : World} {vo vi vm vr : Value} {e : EdgeV} (h : EdC w vo vi vm vr e) (hb : Below w.heap.size w w1) : EdC w1 vo vi vm vr e := ⟨h.1.below hb, h.2.1.below hb, h.2.2.1.below hb, h.2.2.2.below hb⟩
def EdIs (w : World) (v : Value) (e : EdgeV) : Prop := ∃ vo vi vm vr, v = .agg #[vo, vi, vm, vr, .string e.cmd, .string e.dep] ∧ EdC w vo vi vm vr e
theorem EdIs.below {w w1 : World} {v : Value} {e : EdgeV} (h : EdIs w v e) (hb : Below w.heap.size w w1) : EdIs w1 v e := by
  obtain ⟨vo, vi, vm, vr, h1, h2⟩ := h
  exact ⟨vo, vi, vm, vr, h1, h2.below hb⟩
abbrev EdX := List ByteArray × (List ByteArray × (List ByteArray × (List ByteArray × (ByteArray × ByteArray))))
def EdgeV.x (e : EdgeV) : EdX := (e.outs, e.ins, e.imp, e.ord, e.cmd, e.dep)
def kedge : Kd EdX := Kd.pair (Kd.slice 9 Kd.string) (Kd.pair (Kd.slice 9 Kd.string) (Kd.pair (Kd.slice 9 Kd.string) (Kd.pair (Kd.slice 9 Kd.string) (Kd.pair Kd.string Kd.string))))
/-- An edge whose rows are the call's own. -/
def EdO (base : Nat) (ok : Nat → Prop) (w : World) (vo vi vm vr : Value) (e : EdgeV) : Prop :=
  Kd.string.R 9 w base ok vo e.outs ∧ Kd.string.R 9 w base ok vi e.ins ∧ Kd.string.R 9 w base ok vm e.imp ∧ Kd.string.R 9 w base ok vr e.ord
section
variable {w w1 : World} {base : Nat} {ok : Nat → Prop} {vo vi vm vr : Value} {e : EdgeV}
theorem EdO.c (h : EdO base ok w vo vi vm vr e) : EdC w vo vi vm vr e := ⟨r_ss h.1, r_ss h.2.1, r_ss h.2.2.1, r_ss h.2.2.2⟩
theorem EdO.below (h : EdO base ok w vo vi vm vr e) (hb : Below w.heap.size w w1) : EdO base ok w1 vo vi vm vr e := ⟨Kd.R_below h.1 hb, Kd.R_below h.2.1 hb, Kd.R_below h.2.2.1 hb, Kd.R_below h.2.2.2 hb⟩
theorem EdO.M (h : EdO base ok w vo vi vm vr e) : kedge.M w base ok e.x [vo, vi, vm, vr, .string e.cmd, .string e.dep] :=
  ⟨[vo], [vi, vm, vr, .string e.cmd, .string e.dep], rfl, ⟨vo, rfl, h.1⟩, [vi], [vm, vr, .string e.cmd, .string e.dep], rfl, ⟨vi, rfl, h.2.1⟩, [vm], [vr, .string e.cmd, .string e.dep], rfl, ⟨vm, rfl, h.2.2.1⟩, [vr], [.string e.cmd, .string e.dep], rfl, ⟨vr, rfl, h.2.2.2⟩, [.string e.cmd], [.string e.dep], rfl, rfl, rfl⟩
theorem edge_M {cs : List Value} (h : kedge.M w base ok e.x cs) : ∃ vo vi vm vr, cs = [vo, vi, vm, vr, .string e.cmd, .string e.dep] ∧ EdO base ok w vo vi vm vr e := by
  obtain ⟨_, _, rfl, ⟨vo, rfl, h1⟩, _, _, rfl, ⟨vi, rfl, h2⟩, _, _, rfl, ⟨vm, rfl, h3⟩, _, _, rfl, ⟨vr, rfl, h4⟩, c0, c1, rfl, e0, e1⟩ := h
  have e0 : c0 = [.string e.cmd] := e0
  have e1 : c1 = [.string e.dep] := e1
  subst e0 e1
  exact ⟨vo, vi, vm, vr, rfl, h1, h2, h3, h4⟩
end
--BEGIN WALK
set_option maxRecDepth 100000 in
set_option maxHeartbeats 4000000 in
theorem copied_any (v : Value) (e : EdgeV) (w : World) (h : EdIs w v e) (hs : SmallE e) :
    Calls Try.prog 36 #[v] w fun r w' => ∃ vo vi vm vr, r = .returned (.agg #[vo, vi, vm, vr, .string e.cmd, .string e.dep]) ∧ EdO w.heap.size (fun _ => True) w' vo vi vm vr e ∧ Below w.heap.size w w' := by
  obtain ⟨vo, vi, vm, vr, rfl, ho, hi, hm, hr⟩ := h
  obtain ⟨Ao, co, rfl, hco, hmo⟩ := ss_len ho
  obtain ⟨Ai, ci, rfl, hci, hmi⟩ := ss_len hi
  obtain ⟨Am, cm, rfl, hcm, hmm⟩ := ss_len hm
  obtain ⟨Ar, cr, rfl, hcr, hmr⟩ := ss_len hr
  obtain ⟨no, hno⟩ : ∃ no, no = e.outs.length := ⟨_, rfl⟩
  obtain ⟨ni, hni⟩ : ∃ ni, ni = e.ins.length := ⟨_, rfl⟩
  obtain ⟨nm, hnm⟩ : ∃ nm, nm = e.imp.length := ⟨_, rfl⟩
  obtain ⟨nr, hnr⟩ : ∃ nr, nr = e.ord.length := ⟨_, rfl⟩
  rw [← hno, ← hni, ← hnm, ← hnr]
  rw [← hno] at hco hmo ho
  rw [← hni] at hci hmi hi
  rw [← hnm] at hcm hmm hm
  rw [← hnr] at hcr hmr hr
  obtain ⟨x, hx⟩ : ∃ x, w.heap.size = x := ⟨_, rfl⟩
  obtain ⟨Wb, hWb⟩ : ∃ Wb, Wb = (w.alloc (.cells #[.slice Ao no co, .slice Ai ni ci, .slice Am nm cm, .slice Ar nr cr, .string e.cmd, .string e.dep] 44)).alloc (.cells #[.slice none 0 0, .slice none 0 0, .slice none 0 0, .slice none 0 0, .string ⟨#[]⟩, .string ⟨#[]⟩] 44) := ⟨_, rfl⟩
  have hb1 := below_alloc (Below.refl w.heap.size w) (.cells #[.slice Ao no co, .slice Ai ni ci, .slice Am nm cm, .slice Ar nr cr, .string e.cmd, .string e.dep] 44)
  have hb0 : Below w.heap.size w Wb := by rw [hWb]; exact below_alloc hb1 _
  have hXr : Wb.heap[x + 1]? = some (.cells #[.slice none 0 0, .slice none 0 0, .slice none 0 0, .slice none 0 0, .string ⟨#[]⟩, .string ⟨#[]⟩] 44 (0, 0)) := by
    have h := blk_new (w.alloc (.cells #[.slice Ao no co, .slice Ai ni ci, .slice Am nm cm, .slice Ar nr cr, .string e.cmd, .string e.dep] 44)) (.cells #[.slice none 0 0, .slice none 0 0, .slice none 0 0, .slice none 0 0, .string ⟨#[]⟩, .string ⟨#[]⟩] 44)
    rw [hWb, ← hx]
    simpa using h
  have hXb : Wb.heap[x]? = some (.cells #[.slice Ao no co, .slice Ai ni ci, .slice Am nm cm, .slice Ar nr cr, .string e.cmd, .string e.dep] 44 (0, 0)) := by
    have h := blk_new w (.cells #[.slice Ao no co, .slice Ai ni ci, .slice Am nm cm, .slice Ar nr cr, .string e.cmd, .string e.dep] 44)
    have h2 := below_alloc (Below.refl (w.alloc (.cells #[.slice Ao no co, .slice Ai ni ci, .slice Am nm cm, .slice Ar nr cr, .string e.cmd, .string e.dep] 44)).heap.size (w.alloc (.cells #[.slice Ao no co, .slice Ai ni ci, .slice Am nm cm, .slice Ar nr cr, .string e.cmd, .string e.dep] 44))) (.cells #[.slice none 0 0, .slice none 0 0, .slice none 0 0, .slice none 0 0, .string ⟨#[]⟩, .string ⟨#[]⟩] 44)
    rw [hWb, ← hx]
    exact (h2.block w.heap.size (blk_lt h)).trans h
  have P0 := Lib.hid (show Wb.cell? ⟨x, 0, none⟩ = some (.slice Ao no co) from blk_cell hXb 0)
  have P1 := Lib.hid (show Wb.cell? ⟨x, 1, none⟩ = some (.slice Ai ni ci) from blk_cell hXb 1)
  have P2 := Lib.hid (show Wb.cell? ⟨x, 2, none⟩ = some (.slice Am nm cm) from blk_cell hXb 2)
  have P3 := Lib.hid (show Wb.cell? ⟨x, 3, none⟩ = some (.slice Ar nr cr) from blk_cell hXb 3)
  have XR := Lib.hid hXr
  have XB := Lib.hid hXb
  have HB0 := Lib.hid hb0
  have HX := Lib.hid hx
  have HWB := Lib.hid hWb
  have SO := Lib.hid (ho.below hb0)
  have SI := Lib.hid (hi.below hb0)
  have SM := Lib.hid (hm.below hb0)
  have SR := Lib.hid (hr.below hb0)
  have HNO := Lib.hid hno
  have HNI := Lib.hid hni
  have HNM := Lib.hid hnm
  have HNR := Lib.hid hnr
  have HS := Lib.hid hs
  clear ho hi hm hr hb1 hb0 hXr hXb hWb hno hni hnm hnr hs
  go_enter Try.func36, Try.ntmps36
  go_upto_region 1 with (fail)
  rw [← HWB.out]
  try rw [hx]
  clear hx
  go_wp2
  --S1
  refine start_ (n := 20) (S := fun w' => Below Wb.heap.size Wb w' ∧ w'.cell? ⟨x, 0, none⟩ = some (.slice Ao no co) ∧ w'.cell? ⟨x, 1, none⟩ = some (.slice Ai ni ci) ∧ w'.cell? ⟨x, 2, none⟩ = some (.slice Am nm cm) ∧ w'.cell? ⟨x, 3, none⟩ = some (.slice Ar nr cr)) (ds := [13, 15, 17, 19]) #[false, false, false, false, false, false, false, false, false, false, false, false, false, false, false, false, false, false, false, false] (by kernel_rfl) rfl rfl ⟨Below.drew (Below.refl _ _), P0.out, P1.out, P2.out, P3.out⟩ (fun hHeld => ?_)
  refine pure_ (i := 0) (N := some 3) (v := ?_) (a' := ?_) #[true, false, false, false, false, false, false, false, false, false, false, false, false, false, false, false, false, false, false, false] rfl rfl (by kernel_rfl) (fun _ _ _ h => h) (Or.inl ⟨by rfl, ?_⟩) ?_ ?_
  rotate_left
  · intro w'
    go_simp
    with_reducible rfl
  rotate_left
  · simp only [Act.put, List.setIfInBounds_toArray, List.set_cons_zero, List.set_cons_succ, i64_w, i32_w]
    rfl
  refine pure_ (i := 3) (N := some 6) (v := ?_) (a' := ?_) #[true, false, false, true, false, false, false, false, false, false, false, false, false, false, false, false, false, false, false, false] rfl rfl (by kernel_rfl) (fun _ _ _ h => h) (Or.inl ⟨by rfl, ?_⟩) ?_ ?_
  rotate_left
  · intro w'
    go_simp
    with_reducible rfl
  rotate_left
  · simp only [Act.put, List.setIfInBounds_toArray, List.set_cons_zero, List.set_cons_succ, i64_w, i32_w]
    rfl
  refine pure_ (i := 6) (N := some 9) (v := ?_) (a' := ?_) #[true, false, false, true, false, false, true, false, false, false, false, false, false, false, false, false, false, false, false, false] rfl rfl (by kernel_rfl) (fun _ _ _ h => h) (Or.inl ⟨by rfl, ?_⟩) ?_ ?_
  rotate_left
  · intro w'
    go_simp
    with_reducible rfl
  rotate_left
  · simp only [Act.put, List.setIfInBounds_toArray, List.set_cons_zero, List.set_cons_succ, i64_w, i32_w]
    rfl
  refine pure_ (i := 9) (N := some 12) (v := ?_) (a' := ?_) #[true, false, false, true, false, false, true, false, false, true, false, false, false, false, false, false, false, false, false, false] rfl rfl (by kernel_rfl) (fun _ _ _ h => h) (Or.inl ⟨by rfl, ?_⟩) ?_ ?_
  rotate_left
  · intro w'
    go_simp
    with_reducible rfl
  rotate_left
  · simp only [Act.put, List.setIfInBounds_toArray, List.set_cons_zero, List.set_cons_succ, i64_w, i32_w]
    rfl
  refine take_ (i := 1) (N := some 4) (v := ?_) (a' := ?_) #[true, true, false, true, false, false, true, false, false, true, false, false, false, false, false, false, false, false, false, false] rfl rfl (by kernel_rfl) (fun _ _ _ h => h) (Or.inl ⟨by rfl, ?_⟩) hHeld ?_ ?_
  rotate_left
  · rintro w' ⟨s0, s1, s2, s3, s4⟩
    go_simp
    with_reducible rfl
  rotate_left
  · simp only [Act.put, List.setIfInBounds_toArray, List.set_cons_zero, List.set_cons_succ, i64_w, i32_w]
    rfl
  refine take_ (i := 4) (N := some 7) (v := ?_) (a' := ?_) #[true, true, false, true, true, false, true, false, false, true, false, false, false, false, false, false, false, false, false, false] rfl rfl (by kernel_rfl) (fun _ _ _ h => h) (Or.inl ⟨by rfl, ?_⟩) hHeld ?_ ?_
  rotate_left
  · rintro w' ⟨s0, s1, s2, s3, s4⟩
    go_simp
    with_reducible rfl
  rotate_left
  · simp only [Act.put, List.setIfInBounds_toArray, List.set_cons_zero, List.set_cons_succ, i64_w, i32_w]
    rfl
  refine take_ (i := 7) (N := some 10) (v := ?_) (a' := ?_) #[true, true, false, true, true, false, true, true, false, true, false, false, false, false, false, false, false, false, false, false] rfl rfl (by kernel_rfl) (fun _ _ _ h => h) (Or.inl ⟨by rfl, ?_⟩) hHeld ?_ ?_
  rotate_left
  · rintro w' ⟨s0, s1, s2, s3, s4⟩
    go_simp
    with_reducible rfl
  rotate_left
  · simp only [Act.put, List.setIfInBounds_toArray, List.set_cons_zero, List.set_cons_succ, i64_w, i32_w]
    rfl
  refine take_ (i := 10) (N := some 13) (v := ?_) (a' := ?_) #[true, true, false, true, true, false, true, true, false, true, true, false, false, false, false, false, false, false, false, false] rfl rfl (by kernel_rfl) (fun _ _ _ h => h) (Or.inl ⟨by rfl, ?_⟩) hHeld ?_ ?_
  rotate_left
  · rintro w' ⟨s0, s1, s2, s3, s4⟩
    go_simp
    with_reducible rfl
  rotate_left
  · simp only [Act.put, List.setIfInBounds_toArray, List.set_cons_zero, List.set_cons_succ, i64_w, i32_w]
    rfl
  refine one_ (i := 2) (N := some 5) #[true, true, true, true, true, false, true, true, false, true, true, false, false, false, false, false, false, false, false, false] rfl rfl (by kernel_rfl) (by decide) (fun K hK => ?_)
  refine goes_ Try.func35 (by kernel_rfl) rfl #[.slice Ao no co] (by rfl) rfl rfl (by first | (simp only [List.map_toArray, List.map_cons, List.map_nil]; done) | (simp only [List.map_toArray, List.map_cons, List.map_nil]; rfl) | rfl) ?_
  with_reducible refine (clone_strs _ e.outs _ (SO.out.below hHeld.1) (by have := HS.out.outs; omega)).mono ?_
  rintro e w1 ⟨v1, rfl, r1, b1⟩
  refine ⟨_, rfl, ?_⟩
  obtain ⟨A1, c1, e1⟩ := Kd.R_slice r1
  rw [← HNO.out] at e1
  subst e1
  have h1 := hHeld.1.trans (b1.mono hHeld.1.size)
  have R1_1 := Lib.hid (Kd.R_lower r1 (Nat.le_trans HB0.out.size hHeld.1.size))
  clear r1 b1
  refine hK.out _ _ ⟨h1, pw_cell_below (h1) P0.out, pw_cell_below (h1) P1.out, pw_cell_below (h1) P2.out, pw_cell_below (h1) P3.out⟩ (fun hHeld => ?_)
  clear hK K
  refine norm_ (a' := ?_) ?_ ?_
  rotate_left
  · show Act.put _ (some 5) _ = _
    simp only [Act.put, List.setIfInBounds_toArray, List.set_cons_zero, List.set_cons_succ, i64_w, i32_w]
    rfl
  refine pure_ (i := 12) (N := some 15) (v := ?_) (a' := ?_) #[true, true, true, true, true, false, true, true, false, true, true, false, true, false, false, false, false, false, false, false] rfl rfl (by kernel_rfl) (fun _ _ _ h => h) (Or.inl ⟨by rfl, ?_⟩) ?_ ?_
  rotate_left
  · intro w'
    go_simp
    with_reducible rfl
  rotate_left
  · simp only [Act.put, List.setIfInBounds_toArray, List.set_cons_zero, List.set_cons_succ, i64_w, i32_w]
    rfl
  refine one_ (i := 5) (N := some 8) #[true, true, true, true, true, true, true, true, false, true, true, false, true, false, false, false, false, false, false, false] rfl rfl (by kernel_rfl) (by decide) (fun K hK => ?_)
  refine goes_ Try.func35 (by kernel_rfl) rfl #[.slice Ai ni ci] (by rfl) rfl rfl (by first | (simp only [List.map_toArray, List.map_cons, List.map_nil]; done) | (simp only [List.map_toArray, List.map_cons, List.map_nil]; rfl) | rfl) ?_
  with_reducible refine (clone_strs _ e.ins _ (SI.out.below hHeld.1) (by have := HS.out.ins; omega)).mono ?_
  rintro e w2 ⟨v2, rfl, r2, b2⟩
  refine ⟨_, rfl, ?_⟩
  obtain ⟨A2, c2, e2⟩ := Kd.R_slice r2
  rw [← HNI.out] at e2
  subst e2
  have h2 := hHeld.1.trans (b2.mono hHeld.1.size)
  have R2_2 := Lib.hid (Kd.R_lower r2 (Nat.le_trans HB0.out.size hHeld.1.size))
  have R1_2 := Lib.hid (Kd.R_below R1_1.out b2)
  clear r2 b2
  refine hK.out _ _ ⟨h2, pw_cell_below (h2) P0.out, pw_cell_below (h2) P1.out, pw_cell_below (h2) P2.out, pw_cell_below (h2) P3.out⟩ (fun hHeld => ?_)
  clear hK K
  refine norm_ (a' := ?_) ?_ ?_
  rotate_left
  · show Act.put _ (some 8) _ = _
    simp only [Act.put, List.setIfInBounds_toArray, List.set_cons_zero, List.set_cons_succ, i64_w, i32_w]
    rfl
  refine one_ (i := 8) (N := some 11) #[true, true, true, true, true, true, true, true, true, true, true, false, true, false, false, false, false, false, false, false] rfl rfl (by kernel_rfl) (by decide) (fun K hK => ?_)
  refine goes_ Try.func35 (by kernel_rfl) rfl #[.slice Am nm cm] (by rfl) rfl rfl (by first | (simp only [List.map_toArray, List.map_cons, List.map_nil]; done) | (simp only [List.map_toArray, List.map_cons, List.map_nil]; rfl) | rfl) ?_
  with_reducible refine (clone_strs _ e.imp _ (SM.out.below hHeld.1) (by have := HS.out.imp; omega)).mono ?_
  rintro e w3 ⟨v3, rfl, r3, b3⟩
  refine ⟨_, rfl, ?_⟩
  obtain ⟨A3, c3, e3⟩ := Kd.R_slice r3
  rw [← HNM.out] at e3
  subst e3
  have h3 := hHeld.1.trans (b3.mono hHeld.1.size)
  have R3_3 := Lib.hid (Kd.R_lower r3 (Nat.le_trans HB0.out.size hHeld.1.size))
  have R1_3 := Lib.hid (Kd.R_below R1_2.out b3)
  have R2_3 := Lib.hid (Kd.R_below R2_2.out b3)
  clear r3 b3
  refine hK.out _ _ ⟨h3, pw_cell_below (h3) P0.out, pw_cell_below (h3) P1.out, pw_cell_below (h3) P2.out, pw_cell_below (h3) P3.out⟩ (fun hHeld => ?_)
  clear hK K
  refine norm_ (a' := ?_) ?_ ?_
  rotate_left
  · show Act.put _ (some 11) _ = _
    simp only [Act.put, List.setIfInBounds_toArray, List.set_cons_zero, List.set_cons_succ, i64_w, i32_w]
    rfl
  refine one_ (i := 11) (N := some 14) #[true, true, true, true, true, true, true, true, true, true, true, true, true, false, false, false, false, false, false, false] rfl rfl (by kernel_rfl) (by decide) (fun K hK => ?_)
  refine goes_ Try.func35 (by kernel_rfl) rfl #[.slice Ar nr cr] (by rfl) rfl rfl (by first | (simp only [List.map_toArray, List.map_cons, List.map_nil]; done) | (simp only [List.map_toArray, List.map_cons, List.map_nil]; rfl) | rfl) ?_
  with_reducible refine (clone_strs _ e.ord _ (SR.out.below hHeld.1) (by have := HS.out.ord; omega)).mono ?_
  rintro e w4 ⟨v4, rfl, r4, b4⟩
  refine ⟨_, rfl, ?_⟩
  obtain ⟨A4, c4, e4⟩ := Kd.R_slice r4
  rw [← HNR.out] at e4
  subst e4
  have h4 := hHeld.1.trans (b4.mono hHeld.1.size)
  have R4_4 := Lib.hid (Kd.R_lower r4 (Nat.le_trans HB0.out.size hHeld.1.size))
  have R1_4 := Lib.hid (Kd.R_below R1_3.out b4)
  have R2_4 := Lib.hid (Kd.R_below R2_3.out b4)
  have R3_4 := Lib.hid (Kd.R_below R3_3.out b4)
  have X0 : Hid (w4.heap[x]? = some (.cells #[.slice Ao no co, .slice Ai ni ci, .slice Am nm cm, .slice Ar nr cr, .string e.cmd, .string e.dep] 44 (0, 0))) := (h4.block x (blk_lt XB.out)).trans XB.out
  have f0 := blk_frozen X0.out 0
  have k0 := blk_cell X0.out 0
  have X1 := Lib.hid (blk_set X0.out 0 (.slice A1 no c1))
  have f1 := blk_frozen X1.out 1
  have k1 := blk_cell X1.out 1
  have X2 := Lib.hid (blk_set X1.out 1 (.slice A2 ni c2))
  have f2 := blk_frozen X2.out 2
  have k2 := blk_cell X2.out 2
  have X3 := Lib.hid (blk_set X2.out 2 (.slice A3 nm c3))
  have f3 := blk_frozen X3.out 3
  have k3 := blk_cell X3.out 3
  have X4 := Lib.hid (blk_set X3.out 3 (.slice A4 nr c4))
  clear r4 b4
  refine hK.out _ _ ⟨h4, pw_cell_below (h4) P0.out, pw_cell_below (h4) P1.out, pw_cell_below (h4) P2.out, pw_cell_below (h4) P3.out⟩ (fun hHeld => ?_)
  clear hK K
  refine norm_ (a' := ?_) ?_ ?_
  rotate_left
  · show Act.put _ (some 14) _ = _
    simp only [Act.put, List.setIfInBounds_toArray, List.set_cons_zero, List.set_cons_succ, i64_w, i32_w]
    rfl
  refine last_ (i := 13) (N := none) #[true, true, true, true, true, true, true, true, true, true, true, true, true, true, false, false, false, false, false, false] rfl rfl (by kernel_rfl) (by decide) (fun K hK => ?_)
  refine skip_ (w1 := ?_) (by rfl) rfl ?_ ?_
  rotate_left
  · go_simp
    rfl
  refine hK.out _ _ ?_
  clear hK K
  refine pure_ (i := 14) (N := some 16) (v := ?_) (a' := ?_) #[true, true, true, true, true, true, true, true, true, true, true, true, true, true, true, false, false, false, false, false] rfl rfl (by kernel_rfl) (fun _ _ _ h => h) (Or.inl ⟨by rfl, ?_⟩) ?_ ?_
  rotate_left
  · intro w'
    go_simp
    with_reducible rfl
  rotate_left
  · simp only [Act.put, List.setIfInBounds_toArray, List.set_cons_zero, List.set_cons_succ, i64_w, i32_w]
    rfl
  refine last_ (i := 15) (N := none) #[true, true, true, true, true, true, true, true, true, true, true, true, true, true, true, true, false, false, false, false] rfl rfl (by kernel_rfl) (by decide) (fun K hK => ?_)
  refine skip_ (w1 := ?_) (by rfl) rfl ?_ ?_
  rotate_left
  · go_simp
    rfl
  refine hK.out _ _ ?_
  clear hK K
  refine pure_ (i := 16) (N := some 17) (v := ?_) (a' := ?_) #[true, true, true, true, true, true, true, true, true, true, true, true, true, true, true, true, true, false, false, false] rfl rfl (by kernel_rfl) (fun _ _ _ h => h) (Or.inl ⟨by rfl, ?_⟩) ?_ ?_
  rotate_left
  · intro w'
    go_simp
    with_reducible rfl
  rotate_left
  · simp only [Act.put, List.setIfInBounds_toArray, List.set_cons_zero, List.set_cons_succ, i64_w, i32_w]
    rfl
  refine last_ (i := 17) (N := none) #[true, true, true, true, true, true, true, true, true, true, true, true, true, true, true, true, true, true, false, false] rfl rfl (by kernel_rfl) (by decide) (fun K hK => ?_)
  refine skip_ (w1 := ?_) (by rfl) rfl ?_ ?_
  rotate_left
  · go_simp
    rfl
  refine hK.out _ _ ?_
  clear hK K
  refine pure_ (i := 18) (N := some 18) (v := ?_) (a' := ?_) #[true, true, true, true, true, true, true, true, true, true, true, true, true, true, true, true, true, true, true, false] rfl rfl (by kernel_rfl) (fun _ _ _ h => h) (Or.inl ⟨by rfl, ?_⟩) ?_ ?_
  rotate_left
  · intro w'
    go_simp
    with_reducible rfl
  rotate_left
  · simp only [Act.put, List.setIfInBounds_toArray, List.set_cons_zero, List.set_cons_succ, i64_w, i32_w]
    rfl
  refine last_ (i := 19) (N := none) #[true, true, true, true, true, true, true, true, true, true, true, true, true, true, true, true, true, true, true, true] rfl rfl (by kernel_rfl) (by decide) (fun K hK => ?_)
  refine skip_ (w1 := ?_) (by rfl) rfl ?_ ?_
  rotate_left
  · go_simp
    rfl
  refine hK.out _ _ ?_
  clear hK K
  refine done_ (by kernel_rfl) ?_
  --S2
  obtain ⟨ww, hww⟩ : ∃ ww, ww = ((((w4.setCell ⟨x, 0, none⟩ (.slice A1 no c1)).setCell ⟨x, 1, none⟩ (.slice A2 ni c2)).setCell ⟨x, 2, none⟩ (.slice A3 nm c3)).setCell ⟨x, 3, none⟩ (.slice A4 nr c4)) := ⟨_, rfl⟩
  rw [← hww]
  have X4w : Hid (ww.heap[x]? = some (.cells #[.slice A1 no c1, .slice A2 ni c2, .slice A3 nm c3, .slice A4 nr c4, .string e.cmd, .string e.dep] 44 (0, 0))) := by show _ = _; rw [hww]; exact X4.out
  have HBW : Hid (Below Wb.heap.size Wb w4) := h4
  have hxw : w.heap.size ≤ x := by rw [HX.out]; exact Nat.le_refl _
  have HXW := Lib.hid hxw
  have hbw : Below w.heap.size w ww := by
    rw [hww]
    exact ((((HB0.out.trans (HBW.out.mono HB0.out.size)).setCell hxw _).setCell hxw _).setCell hxw _).setCell hxw _
  have HBF := Lib.hid hbw
  have XRw : Hid (ww.heap[x + 1]? = some (.cells #[.slice none 0 0, .slice none 0 0, .slice none 0 0, .slice none 0 0, .string ⟨#[]⟩, .string ⟨#[]⟩] 44 (0, 0))) := by
    show _ = _
    rw [hww]
    have h := (HBW.out.block (x + 1) (blk_lt XR.out)).trans XR.out
    have hn : x + 1 ≠ x := by omega
    rw [Below.heap_setCell _ _ _ _ hn, Below.heap_setCell _ _ _ _ hn, Below.heap_setCell _ _ _ _ hn, Below.heap_setCell _ _ _ _ hn]
    exact h
  have HE : Hid (EdO w.heap.size (fun _ => True) ww (.slice A1 no c1) (.slice A2 ni c2) (.slice A3 nm c3) (.slice A4 nr c4) e) := by
    show EdO _ _ _ _ _ _ _ _
    rw [hww]
    exact ⟨(Kd.R_set (Kd.R_set (Kd.R_set (Kd.R_set R1_4.out X0.out (by decide) 0 _) X1.out (by decide) 1 _) X2.out (by decide) 2 _) X3.out (by decide) 3 _), (Kd.R_set (Kd.R_set (Kd.R_set (Kd.R_set R2_4.out X0.out (by decide) 0 _) X1.out (by decide) 1 _) X2.out (by decide) 2 _) X3.out (by decide) 3 _), (Kd.R_set (Kd.R_set (Kd.R_set (Kd.R_set R3_4.out X0.out (by decide) 0 _) X1.out (by decide) 1 _) X2.out (by decide) 2 _) X3.out (by decide) 3 _), (Kd.R_set (Kd.R_set (Kd.R_set (Kd.R_set R4_4.out X0.out (by decide) 0 _) X1.out (by decide) 1 _) X2.out (by decide) 2 _) X3.out (by decide) 3 _)⟩
  clear hHeld X0 X1 X2 X3 X4 f0 k0 f1 k1 f2 k2 f3 k3 h1 h2 h3 h4 hww hxw hbw R1_1 R1_2 R1_3 R1_4 R2_2 R2_3 R2_4 R3_3 R3_4 R4_4
  go_wp2_with (with_reducible refine gate_ (.load 44 (.tmp 1)) rfl ?_; refine Held.of ?_)
  refine Held.out (wpList_load_row rfl 44 (.tmp 1) rfl x rfl 44 _ (0, 0) _ X4w.out Try.underlying44 rfl (by kernel_rfl) ?_)
  go_wp2_with (with_reducible refine gate_ (.store 44 (.tmp 2) (.tmp 19)) rfl ?_; refine Held.of ?_)
  refine Held.out (wpList_plain rfl fun K hK => wp_store_row 44 (.tmp 2) (.tmp 19) rfl (x + 1) #[.slice A1 no c1, .slice A2 ni c2, .slice A3 nm c3, .slice A4 nr c4, .string e.cmd, .string e.dep] rfl rfl 44 _ XRw.out (by kernel_rfl) rfl (by simp [Value.oneCell']) (hK _ _ ?_))
  have HY := Lib.hid (setRow_heap _ (x + 1) _ (#[.slice A1 no c1, .slice A2 ni c2, .slice A3 nm c3, .slice A4 nr c4, .string e.cmd, .string e.dep]) _ _ XRw.out)
  go_wp2
  (try simp only [Exit.inBlock, Exit.then])
  refine bodyPost_ret (results_cell_row rfl _ _ (x + 1) 44 _ (0, 0) _ rfl HY.out Try.underlying44 rfl (by kernel_rfl)) rfl ?_
  have hbb := row_below (g := x + 1) HBF.out (by rw [HX.out]; omega) #[.slice A1 no c1, .slice A2 ni c2, .slice A3 nm c3, .slice A4 nr c4, .string e.cmd, .string e.dep]
  exact ⟨_, _, _, _, rfl, ⟨R_setRow HE.out.1 XRw.out (by decide) _, R_setRow HE.out.2.1 XRw.out (by decide) _, R_setRow HE.out.2.2.1 XRw.out (by decide) _, R_setRow HE.out.2.2.2 XRw.out (by decide) _⟩, hbb⟩
--END WALK
end Go.Proofs.Ytifbkojapfighaa.Gr
