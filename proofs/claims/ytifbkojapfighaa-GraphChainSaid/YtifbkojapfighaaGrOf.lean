/- bellowslaw13.of (walk). -/
import Derived.Test.YtifbkojapfighaaGrFew
import Derived.Test.YtifbkojapfighaaWFour
namespace Go.Proofs.Ytifbkojapfighaa.Gr
open Go.RowKit Go.Proofs.YtifbkojapfighaaW.PrintWords Go.Proofs.YtifbkojapfighaaW.PrintLast Go.Proofs.Ytifbkojapfighaa.Base Go.Maps
set_option linter.unusedVariables false
set_option linter.unusedSimpArgs false

section
variable {ops : Array Oper} {o : Oper} {a : Act} {Q : Exit → Act → World → Prop} {K : Act → World → Prop} {E : Prop}
theorem run_app_empty (W : World) (base b : Nat) (A : Option Addr) (m c : Nat) (ys : List ByteArray) (ty : TypeId) (HB : W.heap[b]? = some (.cells #[] 9 (0, 0))) (hb : base ≤ b) (hbase : base ≤ W.heap.size) (HR : Ss W (.slice A m c) ys) (hl : m ≤ 1000000) :
    ∃ v1 w1, (Builtin.append_ #[23, 23] ty #[.slice (some ⟨b, 0, none⟩) 0 0, .slice A m c]).run Try.prog W = .ok v1 w1 ∧ Kd.string.R 9 w1 base (fun _ => True) v1 ys ∧ Below W.heap.size W w1 := by
  obtain ⟨A', c', e, _, _, hcell⟩ := HR
  injection e with e1 e2 e3
  subst e1 e3
  obtain ⟨i0, hi, hzz⟩ := Option.map_eq_some_iff.1 info_str
  simp only [Prod.mk.injEq] at hzz
  obtain ⟨hz0, hz1, hz2⟩ := hzz
  have hu := Try.underlying23
  rcases Nat.eq_zero_or_pos ys.length with h0 | hp
  · have hn : ys = [] := List.eq_nil_of_length_eq_zero h0
    subst hn
    have hm : m = 0 := e2
    subst hm
    refine ⟨.slice (some ⟨b, 0, none⟩) 0 0, W, ?_, ?_, Below.refl _ _⟩
    · cases A with
      | none => simp [Builtin.append_, run_underlying hu, sizeOf, typeInfo, hi, Builtin.lenOf, Builtin.firstCells, storeCells]
      | some ad =>
        have h := run_append_room_cells (P := Try.prog) W 23 ty 9 i0 hu hi b 0 0 0 ad 0 c [] (by simp) (fun j u hj => by simp at hj) (fun u hu => by cases hu) (Nat.le_refl _) (fun j hj => by cases hj) (fun j hj => by cases hj)
        exact h
    · have ho : W.ownsRow base 9 1 (.slice (some ⟨b, 0, none⟩) 0 0) 0 [] := ⟨rfl, .inr ⟨b, 0, #[], rfl, hb, HB, Nat.le_refl _, by decide, rfl, rfl⟩⟩
      exact Kd.R_of_own (enc := Value.string) (xs := []) ho (fun _ _ => trivial)
  · obtain ⟨ad, rfl, hc⟩ := hcell hp
    have hnews : ∀ j u, (ys.map Value.string)[j]? = some u → W.cell? (ad.add j) = some u := fun j u hj => by
      rw [List.getElem?_map] at hj
      rcases Nat.lt_or_ge j ys.length with h | h
      · rw [List.getElem?_eq_getElem h] at hj
        have h2 := hc j h
        rw [List.getD_eq_getElem?_getD, List.getElem?_eq_getElem h] at h2
        rw [h2]
        exact hj
      · rw [List.getElem?_eq_none h] at hj; cases hj
    obtain ⟨v1, w1, hr, h1, h2⟩ := run_append_arg_grows (P := Try.prog) W 23 ty 9 i0 (.string ⟨#[]⟩) 1 16 hu hi hz0 hz1 hz2 rfl (by decide) ⟨b, 0, none⟩ 0 0 [] (by simp) (fun j u hj => by simp at hj) ad m c (ys.map Value.string) (by rw [List.length_map, e2, Nat.mul_one]) hnews (by omega) (by simp only [maxLen]; omega) (by omega)
    refine ⟨v1, w1, hr, ?_, ⟨h2.os, h2.tape, h2.output, h2.size, fun k hk => h2.block k hk (by simp)⟩⟩
    rw [List.nil_append, Nat.zero_add, e2] at h1
    exact Kd.R_lower (Kd.R_of_own (enc := Value.string) (h1 := fun _ => rfl) h1 (fun _ _ => trivial)) hbase
theorem app_empty_step {W : World} (base : Nat) (hgd : o.guard = none) (s x : Operand)
    (ho : o.op = .call { callee := .builtin .append, args := #[s, x], argTypes := #[23, 23] })
    (b : Nat) (A : Option Addr) (m c : Nat) (ys : List ByteArray) (hs : a.eval s = .slice (some ⟨b, 0, none⟩) 0 0) (hx : a.eval x = .slice A m c)
    (HB : W.heap[b]? = some (.cells #[] 9 (0, 0))) (hb : base ≤ b) (hbase : base ≤ W.heap.size) (HR : Ss W (.slice A m c) ys) (hl : m ≤ 1000000)
    (h : ∀ v1 w1, Kd.string.R 9 w1 base (fun _ => True) v1 ys → Below W.heap.size W w1 → K (a.put o.dst v1) w1) :
    if Region.wanted o (yielded ops a.tmps) = true then Oper.wp Try.prog o a W K Q else E := by
  have hw : Region.wanted o (yielded ops a.tmps) = true := by simp [Region.wanted, hgd]
  rw [if_pos hw]
  obtain ⟨v1, w1, hr, h1, h2⟩ := run_app_empty W base b A m c ys o.type HB hb hbase HR hl
  unfold Oper.wp execOp
  simp only [ho, resolve, invoke, builtin, Sem.run_bind, Sem.run_pure, Result.andThen_ok, List.map_toArray, List.map_cons, List.map_nil, hs, hx, hr]
  exact h v1 w1 h1 h2
end
/-- The manifest under way. -/
structure Oo (w0 w : World) (g : Nat) (ve vd : Value) (es : List EdgeV) (ds : List ByteArray) : Prop where
  gx : w.heap[g]? = some (.cells #[ve, vd] 33 (0, 0))
  ed : kedge.R 44 w w0.heap.size (fun _ => True) ve (es.map EdgeV.x)
  df : Kd.string.R 9 w w0.heap.size (fun _ => True) vd ds
  below : Below w0.heap.size w0 w
  hg : w0.heap.size ≤ g
section
variable {w0 w w1 : World} {g : Nat} {ve vd v1 : Value} {es es1 : List EdgeV} {ds : List ByteArray}
theorem Oo.moved (h : Oo w0 w g ve vd es ds) (hb : Below w.heap.size w w1) : Oo w0 w1 g ve vd es ds :=
  ⟨(hb.block _ (blk_lt h.gx)).trans h.gx, Kd.R_below h.ed hb, Kd.R_below h.df hb, h.below.trans (hb.mono h.below.size), h.hg⟩
theorem Oo.edge (h : Oo w0 w g ve vd es ds) (r1 : kedge.R 44 w1 w0.heap.size (fun _ => True) v1 (es1.map EdgeV.x)) (g1 : w.grownBy w1 ve.ownBlock) :
    w1.heap[g]? = some (.cells #[ve, vd] 33 (0, 0)) ∧ Oo w0 (w1.setCell ⟨g, 0, none⟩ v1) g v1 vd es1 ds := by
  have hty := Kd.R_typed h.ed
  have e1 := blk_grown h.gx g1 (Kd.R_ne h.ed h.gx (by decide))
  have hb : Below w0.heap.size w0 w1 := h.below.grown g1 h.below.size (fun q hq => Kd.R_base h.ed q hq)
  refine ⟨e1, blk_set e1 0 v1, Kd.R_set r1 e1 (by decide) 0 v1, Kd.R_set (R_row h.df g1 (fun k e t ht => ?_)) e1 (by decide) 0 v1, hb.setCell h.hg _, h.hg⟩
  obtain ⟨cells, hc⟩ := hty k e
  exact not_cells hc (by intro he; subst he; revert ht; decide)
end
--BEGIN WALK
set_option maxRecDepth 100000 in
set_option maxHeartbeats 16000000 in
theorem of_any (v : Value) (m : ManV) (w : World) (ve vd : Value) (hv : v = .agg #[ve, vd]) (hE : Ez w ve m.edges) (hD : Ss w vd m.defs) (hf : FewM m) :
    Calls Try.prog 12 #[v] w fun e w' => (∃ ve' vd', e = .returned (.agg #[ve', vd']) ∧ Ez w' ve' m.edges ∧ Ss w' vd' m.defs) ∧ Below w.heap.size w w' := by
  subst hv
  obtain ⟨Ae, ce, rfl, hce, hme⟩ := hE.len
  obtain ⟨n, hn⟩ : ∃ n, n = m.edges.length := ⟨_, rfl⟩
  rw [← hn] at hce hme hE ⊢
  obtain ⟨Ad, cd, rfl, hcd, hmd⟩ := ss_len hD
  obtain ⟨nd, hnd⟩ : ∃ nd, nd = m.defs.length := ⟨_, rfl⟩
  rw [← hnd] at hcd hmd hD ⊢
  obtain ⟨x, hx⟩ : ∃ x, w.heap.size = x := ⟨_, rfl⟩
  obtain ⟨Wb, hWb⟩ : ∃ Wb, Wb = (w.alloc (.cells #[.slice Ae n ce, .slice Ad nd cd] 25)).alloc (.cells #[.slice none 0 0, .slice none 0 0] 33) := ⟨_, rfl⟩
  have hb1 := below_alloc (Below.refl w.heap.size w) (.cells #[.slice Ae n ce, .slice Ad nd cd] 25)
  have hb0 : Below w.heap.size w Wb := by rw [hWb]; exact below_alloc hb1 _
  have hXr : Wb.heap[x + 1]? = some (.cells #[.slice none 0 0, .slice none 0 0] 33 (0, 0)) := by
    have h := blk_new (w.alloc (.cells #[.slice Ae n ce, .slice Ad nd cd] 25)) (.cells #[.slice none 0 0, .slice none 0 0] 33)
    rw [hWb, ← hx]
    simpa using h
  have hXb : Wb.heap[x]? = some (.cells #[.slice Ae n ce, .slice Ad nd cd] 25 (0, 0)) := by
    have h := blk_new w (.cells #[.slice Ae n ce, .slice Ad nd cd] 25)
    have h2 := below_alloc (Below.refl (w.alloc (.cells #[.slice Ae n ce, .slice Ad nd cd] 25)).heap.size (w.alloc (.cells #[.slice Ae n ce, .slice Ad nd cd] 25))) (.cells #[.slice none 0 0, .slice none 0 0] 33)
    rw [hWb, ← hx]
    exact (h2.block w.heap.size (blk_lt h)).trans h
  have hbn : Below Wb.heap.size Wb (Wb.alloc (.cells #[] 9)) := below_alloc (Below.refl _ _) _
  have HE1 := Lib.hid (hE.below hb0)
  have HD1 := Lib.hid (hD.below hb0)
  have HX := Lib.hid hXb
  have HXR := Lib.hid hXr
  have HB1 := Lib.hid hb0
  have HW := Lib.hid hWb
  have HBN := Lib.hid hbn
  have HN := Lib.hid hn
  have HND := Lib.hid hnd
  have HFM := Lib.hid hf
  have hn30 : n ≤ 30 := by rw [hn]; exact hf.edges
  have hd20 : nd ≤ 20 := by rw [hnd]; exact hf.defs
  have HXX := Lib.hid hx
  have q1 := (show Wb.cell? ⟨x, 1, none⟩ = some (.slice Ad nd cd) from blk_cell hXb 1)
  have q2 : (Wb.alloc (.cells #[] 9)).cell? ⟨x, 1, none⟩ = some (.slice Ad nd cd) := pw_cell_below hbn q1
  clear hE hD hf hXb hXr hb0 hb1 hWb hbn hn hnd
  go_enter Try.func12, Try.ntmps12
  go_upto_region 1 with (fail)
  rw [← HW.out]
  try rw [hx]
  clear hx
  go_wp2_with (at_builtin; refine Held.of ?_)
  clear q1 q2
  have HR2 : Hid (Kd.string.R 9 (Wb.alloc (.cells #[] 9)) Wb.heap.size (fun _ => True) (.slice (some ⟨Wb.heap.size, 0, none⟩) 0 0) []) := str_nil Wb _ (Nat.le_refl _) _ trivial
  refine Held.out (Kd.R_append_row Value.string ByteArray.empty (h1 := fun _ => rfl) (w0 := Wb) Wb.heap.size rfl (.tmp 6) (.tmp 8) 23 9 (.string ⟨#[]⟩) 16 rfl Try.underlying23 (by kernel_rfl) rfl (by decide) (.slice (some ⟨Wb.heap.size, 0, none⟩) 0 0) [] m.defs Ad nd cd (fun _ => True) rfl rfl (fun _ _ => trivial) HR2.out (ss_C (HD1.out.below HBN.out)) HBN.out HBN.out.size (by simp only [List.length_nil]; omega) ?_)
  intro v3 w3 r3 b3 _ _
  rw [List.nil_append] at r3
  obtain ⟨A3, c3, e3⟩ := Kd.R_slice r3
  rw [← HND.out] at e3
  subst e3
  obtain ⟨g, hg⟩ : ∃ g, w3.heap.size = g := ⟨_, rfl⟩
  obtain ⟨w5, hw5⟩ : ∃ w5, w5 = w3.alloc (.cells #[.slice none 0 0, .slice A3 nd c3] 33) := ⟨_, rfl⟩
  have hb5 : Below w3.heap.size w3 w5 := by rw [hw5]; exact below_alloc (Below.refl _ _) _
  have HO5 : Hid (Oo Wb w5 g (.slice none 0 0) (.slice A3 nd c3) (m.edges.take 0) m.defs) :=
    ⟨by rw [hw5, ← hg]; exact blk_new w3 _, Kd.R_nil _ _ _ _ _, Kd.R_below r3 hb5, b3.trans (hb5.mono b3.size), by rw [← hg]; exact b3.size⟩
  have HW5 := Lib.hid hw5
  have HGG := Lib.hid hg
  clear r3 b3 hb5 hw5 HR2 hg
  go_upto_region 2 with (fail)
  rw [← HW5.out]
  try rw [HGG.out]
  clear HGG HW5
  go_wp2
  --S1
  go_loopw [4] (fun i wr => ∃ (k : Nat) (ve : Value), k ≤ n ∧ i = .int .i64 k ∧ Hid (Oo Wb wr g ve (.slice A3 nd c3) (m.edges.take k) m.defs)) (fun i _ => n - (intOf i).toNat)
  case atStart => exact ⟨0, _, by omega, rfl, HO5.out⟩
  case round =>
    clear HO5
    obtain ⟨k, ve, hk, rfl, HK⟩ := hrel
    obtain ⟨Av, cv, ev⟩ := Kd.R_slice HK.out.ed
    have hvk : ((m.edges.take k).map EdgeV.x).length = k := by rw [List.length_map, List.length_take, ← HN.out]; omega
    rw [hvk] at ev
    subst ev
    clear hvk
    have q0 := (show wr.cell? ⟨x, 0, none⟩ = some (.slice Ae n ce) from blk_cell ((HK.out.below.block x (blk_lt HX.out)).trans HX.out) 0)
    by_cases l1 : k < n
    · have hkl : k < m.edges.length := by rw [← HN.out]; exact l1
      obtain ⟨ad, vo, vi, vm, vr, e1, p0', p1', p2', p3', p4', p5', hec⟩ := HE1.out.get k hkl
      subst e1
      have p0 := pw_cell_below HK.out.below p0'
      have p1 := pw_cell_below HK.out.below p1'
      have p2 := pw_cell_below HK.out.below p2'
      have p3 := pw_cell_below HK.out.below p3'
      have p4 := pw_cell_below HK.out.below p4'
      have p5 := pw_cell_below HK.out.below p5'
      clear p0' p1' p2' p3' p4' p5'
      have HTE := Lib.hid (take_at m.edges zedge k hkl)
      have hfe := HFM.out.each _ HTE.out.2
      clear hkl
      generalize m.edges.getD k zedge = e at p4 p5 hec HTE hfe
      obtain ⟨so, si, sm, sr⟩ := hec
      obtain ⟨y, hy⟩ : ∃ y, wr.heap.size = y := ⟨_, rfl⟩
      obtain ⟨Ao, co, rfl, _, hmo⟩ := ss_len so
      obtain ⟨Ai, ci, rfl, _, hmi⟩ := ss_len si
      obtain ⟨Am, cm, rfl, _, hmm⟩ := ss_len sm
      obtain ⟨Ar, cr, rfl, _, hmr⟩ := ss_len sr
      obtain ⟨no, hno⟩ : ∃ no, no = e.outs.length := ⟨_, rfl⟩
      obtain ⟨ni, hni⟩ : ∃ ni, ni = e.ins.length := ⟨_, rfl⟩
      obtain ⟨nm, hnm⟩ : ∃ nm, nm = e.imp.length := ⟨_, rfl⟩
      obtain ⟨nr, hnr⟩ : ∃ nr, nr = e.ord.length := ⟨_, rfl⟩
      rw [← hno] at p0 so hmo
      rw [← hni] at p1 si hmi
      rw [← hnm] at p2 sm hmm
      rw [← hnr] at p3 sr hmr
      have ho6 : no ≤ 10 := by rw [hno]; exact hfe.outs
      have hi6 : ni ≤ 10 := by rw [hni]; exact hfe.ins
      have hm6 : nm ≤ 10 := by rw [hnm]; exact hfe.imp
      have hr6 : nr ≤ 10 := by rw [hnr]; exact hfe.ord
      obtain ⟨w4, hw4⟩ : ∃ w4, w4 = wr.alloc (.cells #[.slice Ao no co, .slice Ai ni ci, .slice Am nm cm, .slice Ar nr cr, .string e.cmd, .string e.dep] 46) := ⟨_, rfl⟩
      have hb4 : Below wr.heap.size wr w4 := by rw [hw4]; exact below_alloc (Below.refl _ _) _
      have XE : Hid (w4.heap[y]? = some (.cells #[.slice Ao no co, .slice Ai ni ci, .slice Am nm cm, .slice Ar nr cr, .string e.cmd, .string e.dep] 46 (0, 0))) := by show _ = _; rw [hw4, ← hy]; exact blk_new wr _
      have HYN : Hid (g ≠ y) := by intro e; have := blk_lt HK.out.gx; omega
      have HK4 := Lib.hid (HK.out.moved hb4)
      have SO := Lib.hid (so.below HK4.out.below)
      have SI := Lib.hid (si.below HK4.out.below)
      have SM := Lib.hid (sm.below HK4.out.below)
      have SR := Lib.hid (sr.below HK4.out.below)
      have HNO := Lib.hid hno
      have HNI := Lib.hid hni
      have HNM := Lib.hid hnm
      have HNR := Lib.hid hnr
      have HW4 := Lib.hid hw4
      clear hb4 hw4 hno hni hnm hnr so si sm sr hfe
      go_upto_region 6 with (fail)
      rw [← HW4.out]
      try rw [hy]
      clear hy p0 p1 p2 p3 p4 p5 q0
      have G0 := Lib.hid (show w4.cell? ⟨g, 0, none⟩ = some (.slice Av k cv) from blk_cell HK4.out.gx 0)
      have E0 := Lib.hid (show w4.cell? ⟨y, 0, none⟩ = some (.slice Ao no co) from blk_cell XE.out 0)
      have E1 := Lib.hid (show w4.cell? ⟨y, 1, none⟩ = some (.slice Ai ni ci) from blk_cell XE.out 1)
      have E2 := Lib.hid (show w4.cell? ⟨y, 2, none⟩ = some (.slice Am nm cm) from blk_cell XE.out 2)
      have E3 := Lib.hid (show w4.cell? ⟨y, 3, none⟩ = some (.slice Ar nr cr) from blk_cell XE.out 3)
      have E4 := Lib.hid (show w4.cell? ⟨y, 4, none⟩ = some (.string e.cmd) from blk_cell XE.out 4)
      have E5 := Lib.hid (show w4.cell? ⟨y, 5, none⟩ = some (.string e.dep) from blk_cell XE.out 5)
      have HBD : Hid (Below w4.heap.size w4 w4.drew) := Below.drew (Below.refl _ _)
      --S2
      refine start_ (n := 27) (S := fun w' => Below w4.heap.size w4 w' ∧ w'.cell? ⟨g, 0, none⟩ = some (.slice Av k cv) ∧ w'.cell? ⟨y, 0, none⟩ = some (.slice Ao no co) ∧ w'.cell? ⟨y, 1, none⟩ = some (.slice Ai ni ci) ∧ w'.cell? ⟨y, 2, none⟩ = some (.slice Am nm cm) ∧ w'.cell? ⟨y, 3, none⟩ = some (.slice Ar nr cr) ∧ w'.cell? ⟨y, 4, none⟩ = some (.string e.cmd) ∧ w'.cell? ⟨y, 5, none⟩ = some (.string e.dep)) (ds := [24, 26]) #[false, false, false, false, false, false, false, false, false, false, false, false, false, false, false, false, false, false, false, false, false, false, false, false, false, false, false] (by kernel_rfl) rfl rfl ⟨HBD.out, G0.out, E0.out, E1.out, E2.out, E3.out, E4.out, E5.out⟩ (fun hHeld => ?_)
      refine pure_ (i := 0) (N := some 23) (v := ?_) (a' := ?_) #[true, false, false, false, false, false, false, false, false, false, false, false, false, false, false, false, false, false, false, false, false, false, false, false, false, false, false] rfl rfl (by kernel_rfl) (fun _ _ _ h => h) (Or.inl ⟨by rfl, ?_⟩) ?_ ?_
      rotate_left
      · intro w'
        go_simp
        with_reducible rfl
      rotate_left
      · simp only [Act.put, List.setIfInBounds_toArray, List.set_cons_zero, List.set_cons_succ, i64_w, i32_w]
        rfl
      refine pure_ (i := 3) (N := some 26) (v := ?_) (a' := ?_) #[true, false, false, true, false, false, false, false, false, false, false, false, false, false, false, false, false, false, false, false, false, false, false, false, false, false, false] rfl rfl (by kernel_rfl) (fun _ _ _ h => h) (Or.inl ⟨by rfl, ?_⟩) ?_ ?_
      rotate_left
      · intro w'
        go_simp
        with_reducible rfl
      rotate_left
      · simp only [Act.put, List.setIfInBounds_toArray, List.set_cons_zero, List.set_cons_succ, i64_w, i32_w]
        rfl
      refine pure_ (i := 7) (N := some 30) (v := ?_) (a' := ?_) #[true, false, false, true, false, false, false, true, false, false, false, false, false, false, false, false, false, false, false, false, false, false, false, false, false, false, false] rfl rfl (by kernel_rfl) (fun _ _ _ h => h) (Or.inl ⟨by rfl, ?_⟩) ?_ ?_
      rotate_left
      · intro w'
        go_simp
        with_reducible rfl
      rotate_left
      · simp only [Act.put, List.setIfInBounds_toArray, List.set_cons_zero, List.set_cons_succ, i64_w, i32_w]
        rfl
      refine pure_ (i := 11) (N := some 34) (v := ?_) (a' := ?_) #[true, false, false, true, false, false, false, true, false, false, false, true, false, false, false, false, false, false, false, false, false, false, false, false, false, false, false] rfl rfl (by kernel_rfl) (fun _ _ _ h => h) (Or.inl ⟨by rfl, ?_⟩) ?_ ?_
      rotate_left
      · intro w'
        go_simp
        with_reducible rfl
      rotate_left
      · simp only [Act.put, List.setIfInBounds_toArray, List.set_cons_zero, List.set_cons_succ, i64_w, i32_w]
        rfl
      refine pure_ (i := 15) (N := some 38) (v := ?_) (a' := ?_) #[true, false, false, true, false, false, false, true, false, false, false, true, false, false, false, true, false, false, false, false, false, false, false, false, false, false, false] rfl rfl (by kernel_rfl) (fun _ _ _ h => h) (Or.inl ⟨by rfl, ?_⟩) ?_ ?_
      rotate_left
      · intro w'
        go_simp
        with_reducible rfl
      rotate_left
      · simp only [Act.put, List.setIfInBounds_toArray, List.set_cons_zero, List.set_cons_succ, i64_w, i32_w]
        rfl
      refine pure_ (i := 18) (N := some 41) (v := ?_) (a' := ?_) #[true, false, false, true, false, false, false, true, false, false, false, true, false, false, false, true, false, false, true, false, false, false, false, false, false, false, false] rfl rfl (by kernel_rfl) (fun _ _ _ h => h) (Or.inl ⟨by rfl, ?_⟩) ?_ ?_
      rotate_left
      · intro w'
        go_simp
        with_reducible rfl
      rotate_left
      · simp only [Act.put, List.setIfInBounds_toArray, List.set_cons_zero, List.set_cons_succ, i64_w, i32_w]
        rfl
      refine pure_ (i := 20) (N := some 43) (v := ?_) (a' := ?_) #[true, false, false, true, false, false, false, true, false, false, false, true, false, false, false, true, false, false, true, false, true, false, false, false, false, false, false] rfl rfl (by kernel_rfl) (fun _ _ _ h => h) (Or.inl ⟨by rfl, ?_⟩) ?_ ?_
      rotate_left
      · intro w'
        go_simp
        with_reducible rfl
      rotate_left
      · simp only [Act.put, List.setIfInBounds_toArray, List.set_cons_zero, List.set_cons_succ, i64_w, i32_w]
        rfl
      refine take_ (i := 1) (N := some 24) (v := ?_) (a' := ?_) #[true, true, false, true, false, false, false, true, false, false, false, true, false, false, false, true, false, false, true, false, true, false, false, false, false, false, false] rfl rfl (by kernel_rfl) (fun _ _ _ h => h) (Or.inl ⟨by rfl, ?_⟩) hHeld ?_ ?_
      rotate_left
      · rintro w' ⟨s0, s1, s2, s3, s4, s5, s6, s7⟩
        go_simp
        with_reducible rfl
      rotate_left
      · simp only [Act.put, List.setIfInBounds_toArray, List.set_cons_zero, List.set_cons_succ, i64_w, i32_w]
        rfl
      refine take_ (i := 4) (N := some 27) (v := ?_) (a' := ?_) #[true, true, false, true, true, false, false, true, false, false, false, true, false, false, false, true, false, false, true, false, true, false, false, false, false, false, false] rfl rfl (by kernel_rfl) (fun _ _ _ h => h) (Or.inl ⟨by rfl, ?_⟩) hHeld ?_ ?_
      rotate_left
      · rintro w' ⟨s0, s1, s2, s3, s4, s5, s6, s7⟩
        go_simp
        with_reducible rfl
      rotate_left
      · simp only [Act.put, List.setIfInBounds_toArray, List.set_cons_zero, List.set_cons_succ, i64_w, i32_w]
        rfl
      refine take_ (i := 8) (N := some 31) (v := ?_) (a' := ?_) #[true, true, false, true, true, false, false, true, true, false, false, true, false, false, false, true, false, false, true, false, true, false, false, false, false, false, false] rfl rfl (by kernel_rfl) (fun _ _ _ h => h) (Or.inl ⟨by rfl, ?_⟩) hHeld ?_ ?_
      rotate_left
      · rintro w' ⟨s0, s1, s2, s3, s4, s5, s6, s7⟩
        go_simp
        with_reducible rfl
      rotate_left
      · simp only [Act.put, List.setIfInBounds_toArray, List.set_cons_zero, List.set_cons_succ, i64_w, i32_w]
        rfl
      refine take_ (i := 12) (N := some 35) (v := ?_) (a' := ?_) #[true, true, false, true, true, false, false, true, true, false, false, true, true, false, false, true, false, false, true, false, true, false, false, false, false, false, false] rfl rfl (by kernel_rfl) (fun _ _ _ h => h) (Or.inl ⟨by rfl, ?_⟩) hHeld ?_ ?_
      rotate_left
      · rintro w' ⟨s0, s1, s2, s3, s4, s5, s6, s7⟩
        go_simp
        with_reducible rfl
      rotate_left
      · simp only [Act.put, List.setIfInBounds_toArray, List.set_cons_zero, List.set_cons_succ, i64_w, i32_w]
        rfl
      refine take_ (i := 16) (N := some 39) (v := ?_) (a' := ?_) #[true, true, false, true, true, false, false, true, true, false, false, true, true, false, false, true, true, false, true, false, true, false, false, false, false, false, false] rfl rfl (by kernel_rfl) (fun _ _ _ h => h) (Or.inl ⟨by rfl, ?_⟩) hHeld ?_ ?_
      rotate_left
      · rintro w' ⟨s0, s1, s2, s3, s4, s5, s6, s7⟩
        go_simp
        with_reducible rfl
      rotate_left
      · simp only [Act.put, List.setIfInBounds_toArray, List.set_cons_zero, List.set_cons_succ, i64_w, i32_w]
        rfl
      refine take_ (i := 19) (N := some 42) (v := ?_) (a' := ?_) #[true, true, false, true, true, false, false, true, true, false, false, true, true, false, false, true, true, false, true, true, true, false, false, false, false, false, false] rfl rfl (by kernel_rfl) (fun _ _ _ h => h) (Or.inl ⟨by rfl, ?_⟩) hHeld ?_ ?_
      rotate_left
      · rintro w' ⟨s0, s1, s2, s3, s4, s5, s6, s7⟩
        go_simp
        with_reducible rfl
      rotate_left
      · simp only [Act.put, List.setIfInBounds_toArray, List.set_cons_zero, List.set_cons_succ, i64_w, i32_w]
        rfl
      refine take_ (i := 21) (N := some 44) (v := ?_) (a' := ?_) #[true, true, false, true, true, false, false, true, true, false, false, true, true, false, false, true, true, false, true, true, true, true, false, false, false, false, false] rfl rfl (by kernel_rfl) (fun _ _ _ h => h) (Or.inl ⟨by rfl, ?_⟩) hHeld ?_ ?_
      rotate_left
      · rintro w' ⟨s0, s1, s2, s3, s4, s5, s6, s7⟩
        go_simp
        with_reducible rfl
      rotate_left
      · simp only [Act.put, List.setIfInBounds_toArray, List.set_cons_zero, List.set_cons_succ, i64_w, i32_w]
        rfl
      refine join_ (σ := Nat × Option Addr × Nat × Nat × Option Addr × Nat × Nat × Option Addr × Nat × Nat) 6 #[true, true, true, true, true, true, true, true, true, true, true, true, true, true, true, true, true, false, true, true, true, true, false, false, false, false, false] (fun s => [(25, .slice (some ⟨s.1, 0, none⟩) 0 0), (28, .slice s.2.1 no s.2.2.1), (29, .slice (some ⟨s.2.2.2.1, 0, none⟩) 0 0), (32, .slice s.2.2.2.2.1 ni s.2.2.2.2.2.1), (33, .slice (some ⟨s.2.2.2.2.2.2.1, 0, none⟩) 0 0), (36, .slice s.2.2.2.2.2.2.2.1 nm s.2.2.2.2.2.2.2.2.1), (37, .slice (some ⟨s.2.2.2.2.2.2.2.2.2, 0, none⟩) 0 0)]) (fun s w' => Below w4.heap.size w4 w' ∧ Kd.string.R 9 w' w4.heap.size (fun _ => True) (.slice s.2.1 no s.2.2.1) e.outs ∧ Kd.string.R 9 w' w4.heap.size (fun _ => True) (.slice s.2.2.2.2.1 ni s.2.2.2.2.2.1) e.ins ∧ Kd.string.R 9 w' w4.heap.size (fun _ => True) (.slice s.2.2.2.2.2.2.2.1 nm s.2.2.2.2.2.2.2.2.1) e.imp ∧ (w'.heap[s.2.2.2.2.2.2.2.2.2]? = some (.cells #[] 9 (0, 0)) ∧ w4.heap.size ≤ s.2.2.2.2.2.2.2.2.2)) ?_ ?_
      rotate_left
      · intro hJ2_5_6_9_10_13_14
        refine join_ (σ := Nat × Option Addr × Nat × Nat × Option Addr × Nat × Nat × Option Addr × Nat) 7 #[true, true, true, true, true, true, true, true, true, true, true, true, true, true, false, true, true, false, true, true, true, true, false, false, false, false, false] (fun s => [(25, .slice (some ⟨s.1, 0, none⟩) 0 0), (28, .slice s.2.1 no s.2.2.1), (29, .slice (some ⟨s.2.2.2.1, 0, none⟩) 0 0), (32, .slice s.2.2.2.2.1 ni s.2.2.2.2.2.1), (33, .slice (some ⟨s.2.2.2.2.2.2.1, 0, none⟩) 0 0), (36, .slice s.2.2.2.2.2.2.2.1 nm s.2.2.2.2.2.2.2.2)]) (fun s w' => Below w4.heap.size w4 w' ∧ Kd.string.R 9 w' w4.heap.size (fun _ => True) (.slice s.2.1 no s.2.2.1) e.outs ∧ Kd.string.R 9 w' w4.heap.size (fun _ => True) (.slice s.2.2.2.2.1 ni s.2.2.2.2.2.1) e.ins ∧ Kd.string.R 9 w' w4.heap.size (fun _ => True) (.slice s.2.2.2.2.2.2.2.1 nm s.2.2.2.2.2.2.2.2) e.imp) ?_ ?_
        rotate_left
        · intro hJ2_5_6_9_10_13
          refine join_ (σ := Nat × Option Addr × Nat × Nat × Option Addr × Nat × Nat × Nat) 7 #[true, true, true, true, true, true, true, true, true, true, true, true, true, false, true, true, true, false, true, true, true, true, false, false, false, false, false] (fun s => [(25, .slice (some ⟨s.1, 0, none⟩) 0 0), (28, .slice s.2.1 no s.2.2.1), (29, .slice (some ⟨s.2.2.2.1, 0, none⟩) 0 0), (32, .slice s.2.2.2.2.1 ni s.2.2.2.2.2.1), (33, .slice (some ⟨s.2.2.2.2.2.2.1, 0, none⟩) 0 0), (37, .slice (some ⟨s.2.2.2.2.2.2.2, 0, none⟩) 0 0)]) (fun s w' => Below w4.heap.size w4 w' ∧ Kd.string.R 9 w' w4.heap.size (fun _ => True) (.slice s.2.1 no s.2.2.1) e.outs ∧ Kd.string.R 9 w' w4.heap.size (fun _ => True) (.slice s.2.2.2.2.1 ni s.2.2.2.2.2.1) e.ins ∧ (w'.heap[s.2.2.2.2.2.2.1]? = some (.cells #[] 9 (0, 0)) ∧ w4.heap.size ≤ s.2.2.2.2.2.2.1) ∧ (w'.heap[s.2.2.2.2.2.2.2]? = some (.cells #[] 9 (0, 0)) ∧ w4.heap.size ≤ s.2.2.2.2.2.2.2)) ?_ ?_
          rotate_left
          · intro hJ2_5_6_9_10_14
            refine join_ (σ := Nat × Option Addr × Nat × Nat × Option Addr × Nat × Nat) 8 #[true, true, true, true, true, true, true, true, true, true, true, true, true, false, false, true, true, false, true, true, true, true, false, false, false, false, false] (fun s => [(25, .slice (some ⟨s.1, 0, none⟩) 0 0), (28, .slice s.2.1 no s.2.2.1), (29, .slice (some ⟨s.2.2.2.1, 0, none⟩) 0 0), (32, .slice s.2.2.2.2.1 ni s.2.2.2.2.2.1), (33, .slice (some ⟨s.2.2.2.2.2.2, 0, none⟩) 0 0)]) (fun s w' => Below w4.heap.size w4 w' ∧ Kd.string.R 9 w' w4.heap.size (fun _ => True) (.slice s.2.1 no s.2.2.1) e.outs ∧ Kd.string.R 9 w' w4.heap.size (fun _ => True) (.slice s.2.2.2.2.1 ni s.2.2.2.2.2.1) e.ins ∧ (w'.heap[s.2.2.2.2.2.2]? = some (.cells #[] 9 (0, 0)) ∧ w4.heap.size ≤ s.2.2.2.2.2.2)) ?_ ?_
            rotate_left
            · intro hJ2_5_6_9_10
              refine join_ (σ := Nat × Option Addr × Nat × Nat × Option Addr × Nat × Nat) 8 #[true, true, true, true, true, true, true, true, true, true, false, true, true, false, true, true, true, false, true, true, true, true, false, false, false, false, false] (fun s => [(25, .slice (some ⟨s.1, 0, none⟩) 0 0), (28, .slice s.2.1 no s.2.2.1), (29, .slice (some ⟨s.2.2.2.1, 0, none⟩) 0 0), (32, .slice s.2.2.2.2.1 ni s.2.2.2.2.2.1), (37, .slice (some ⟨s.2.2.2.2.2.2, 0, none⟩) 0 0)]) (fun s w' => Below w4.heap.size w4 w' ∧ Kd.string.R 9 w' w4.heap.size (fun _ => True) (.slice s.2.1 no s.2.2.1) e.outs ∧ Kd.string.R 9 w' w4.heap.size (fun _ => True) (.slice s.2.2.2.2.1 ni s.2.2.2.2.2.1) e.ins ∧ (w'.heap[s.2.2.2.2.2.2]? = some (.cells #[] 9 (0, 0)) ∧ w4.heap.size ≤ s.2.2.2.2.2.2)) ?_ ?_
              rotate_left
              · intro hJ2_5_6_9_14
                refine join_ (σ := Nat × Option Addr × Nat × Nat × Nat × Nat) 8 #[true, true, true, true, true, true, true, true, true, false, true, true, true, false, true, true, true, false, true, true, true, true, false, false, false, false, false] (fun s => [(25, .slice (some ⟨s.1, 0, none⟩) 0 0), (28, .slice s.2.1 no s.2.2.1), (29, .slice (some ⟨s.2.2.2.1, 0, none⟩) 0 0), (33, .slice (some ⟨s.2.2.2.2.1, 0, none⟩) 0 0), (37, .slice (some ⟨s.2.2.2.2.2, 0, none⟩) 0 0)]) (fun s w' => Below w4.heap.size w4 w' ∧ Kd.string.R 9 w' w4.heap.size (fun _ => True) (.slice s.2.1 no s.2.2.1) e.outs ∧ (w'.heap[s.2.2.2.1]? = some (.cells #[] 9 (0, 0)) ∧ w4.heap.size ≤ s.2.2.2.1) ∧ (w'.heap[s.2.2.2.2.1]? = some (.cells #[] 9 (0, 0)) ∧ w4.heap.size ≤ s.2.2.2.2.1) ∧ (w'.heap[s.2.2.2.2.2]? = some (.cells #[] 9 (0, 0)) ∧ w4.heap.size ≤ s.2.2.2.2.2)) ?_ ?_
                rotate_left
                · intro hJ2_5_6_10_14
                  refine join_ (σ := Nat × Option Addr × Nat × Nat × Option Addr × Nat) 9 #[true, true, true, true, true, true, true, true, true, true, false, true, true, false, false, true, true, false, true, true, true, true, false, false, false, false, false] (fun s => [(25, .slice (some ⟨s.1, 0, none⟩) 0 0), (28, .slice s.2.1 no s.2.2.1), (29, .slice (some ⟨s.2.2.2.1, 0, none⟩) 0 0), (32, .slice s.2.2.2.2.1 ni s.2.2.2.2.2)]) (fun s w' => Below w4.heap.size w4 w' ∧ Kd.string.R 9 w' w4.heap.size (fun _ => True) (.slice s.2.1 no s.2.2.1) e.outs ∧ Kd.string.R 9 w' w4.heap.size (fun _ => True) (.slice s.2.2.2.2.1 ni s.2.2.2.2.2) e.ins) ?_ ?_
                  rotate_left
                  · intro hJ2_5_6_9
                    refine join_ (σ := Nat × Option Addr × Nat × Nat × Nat) 9 #[true, true, true, true, true, true, true, true, true, false, true, true, true, false, false, true, true, false, true, true, true, true, false, false, false, false, false] (fun s => [(25, .slice (some ⟨s.1, 0, none⟩) 0 0), (28, .slice s.2.1 no s.2.2.1), (29, .slice (some ⟨s.2.2.2.1, 0, none⟩) 0 0), (33, .slice (some ⟨s.2.2.2.2, 0, none⟩) 0 0)]) (fun s w' => Below w4.heap.size w4 w' ∧ Kd.string.R 9 w' w4.heap.size (fun _ => True) (.slice s.2.1 no s.2.2.1) e.outs ∧ (w'.heap[s.2.2.2.1]? = some (.cells #[] 9 (0, 0)) ∧ w4.heap.size ≤ s.2.2.2.1) ∧ (w'.heap[s.2.2.2.2]? = some (.cells #[] 9 (0, 0)) ∧ w4.heap.size ≤ s.2.2.2.2)) ?_ ?_
                    rotate_left
                    · intro hJ2_5_6_10
                      refine join_ (σ := Nat × Option Addr × Nat × Nat × Nat) 9 #[true, true, true, true, true, true, true, true, true, false, false, true, true, false, true, true, true, false, true, true, true, true, false, false, false, false, false] (fun s => [(25, .slice (some ⟨s.1, 0, none⟩) 0 0), (28, .slice s.2.1 no s.2.2.1), (29, .slice (some ⟨s.2.2.2.1, 0, none⟩) 0 0), (37, .slice (some ⟨s.2.2.2.2, 0, none⟩) 0 0)]) (fun s w' => Below w4.heap.size w4 w' ∧ Kd.string.R 9 w' w4.heap.size (fun _ => True) (.slice s.2.1 no s.2.2.1) e.outs ∧ (w'.heap[s.2.2.2.1]? = some (.cells #[] 9 (0, 0)) ∧ w4.heap.size ≤ s.2.2.2.1) ∧ (w'.heap[s.2.2.2.2]? = some (.cells #[] 9 (0, 0)) ∧ w4.heap.size ≤ s.2.2.2.2)) ?_ ?_
                      rotate_left
                      · intro hJ2_5_6_14
                        refine join_ (σ := Nat × Option Addr × Nat × Nat × Nat) 9 #[true, true, true, true, true, true, false, true, true, false, true, true, true, false, true, true, true, false, true, true, true, true, false, false, false, false, false] (fun s => [(25, .slice (some ⟨s.1, 0, none⟩) 0 0), (28, .slice s.2.1 no s.2.2.1), (33, .slice (some ⟨s.2.2.2.1, 0, none⟩) 0 0), (37, .slice (some ⟨s.2.2.2.2, 0, none⟩) 0 0)]) (fun s w' => Below w4.heap.size w4 w' ∧ Kd.string.R 9 w' w4.heap.size (fun _ => True) (.slice s.2.1 no s.2.2.1) e.outs ∧ (w'.heap[s.2.2.2.1]? = some (.cells #[] 9 (0, 0)) ∧ w4.heap.size ≤ s.2.2.2.1) ∧ (w'.heap[s.2.2.2.2]? = some (.cells #[] 9 (0, 0)) ∧ w4.heap.size ≤ s.2.2.2.2)) ?_ ?_
                        rotate_left
                        · intro hJ2_5_10_14
                          refine join_ (σ := Nat × Nat × Nat × Nat) 9 #[true, true, true, true, true, false, true, true, true, false, true, true, true, false, true, true, true, false, true, true, true, true, false, false, false, false, false] (fun s => [(25, .slice (some ⟨s.1, 0, none⟩) 0 0), (29, .slice (some ⟨s.2.1, 0, none⟩) 0 0), (33, .slice (some ⟨s.2.2.1, 0, none⟩) 0 0), (37, .slice (some ⟨s.2.2.2, 0, none⟩) 0 0)]) (fun s w' => Below w4.heap.size w4 w' ∧ (w'.heap[s.1]? = some (.cells #[] 9 (0, 0)) ∧ w4.heap.size ≤ s.1) ∧ (w'.heap[s.2.1]? = some (.cells #[] 9 (0, 0)) ∧ w4.heap.size ≤ s.2.1) ∧ (w'.heap[s.2.2.1]? = some (.cells #[] 9 (0, 0)) ∧ w4.heap.size ≤ s.2.2.1) ∧ (w'.heap[s.2.2.2]? = some (.cells #[] 9 (0, 0)) ∧ w4.heap.size ≤ s.2.2.2)) ?_ ?_
                          rotate_left
                          · intro hJ2_6_10_14
                            refine join_ (σ := Nat × Option Addr × Nat × Nat) 10 #[true, true, true, true, true, true, true, true, true, false, false, true, true, false, false, true, true, false, true, true, true, true, false, false, false, false, false] (fun s => [(25, .slice (some ⟨s.1, 0, none⟩) 0 0), (28, .slice s.2.1 no s.2.2.1), (29, .slice (some ⟨s.2.2.2, 0, none⟩) 0 0)]) (fun s w' => Below w4.heap.size w4 w' ∧ Kd.string.R 9 w' w4.heap.size (fun _ => True) (.slice s.2.1 no s.2.2.1) e.outs ∧ (w'.heap[s.2.2.2]? = some (.cells #[] 9 (0, 0)) ∧ w4.heap.size ≤ s.2.2.2)) ?_ ?_
                            rotate_left
                            · intro hJ2_5_6
                              refine join_ (σ := Nat × Option Addr × Nat × Nat) 10 #[true, true, true, true, true, true, false, true, true, false, true, true, true, false, false, true, true, false, true, true, true, true, false, false, false, false, false] (fun s => [(25, .slice (some ⟨s.1, 0, none⟩) 0 0), (28, .slice s.2.1 no s.2.2.1), (33, .slice (some ⟨s.2.2.2, 0, none⟩) 0 0)]) (fun s w' => Below w4.heap.size w4 w' ∧ Kd.string.R 9 w' w4.heap.size (fun _ => True) (.slice s.2.1 no s.2.2.1) e.outs ∧ (w'.heap[s.2.2.2]? = some (.cells #[] 9 (0, 0)) ∧ w4.heap.size ≤ s.2.2.2)) ?_ ?_
                              rotate_left
                              · intro hJ2_5_10
                                refine join_ (σ := Nat × Option Addr × Nat × Nat) 10 #[true, true, true, true, true, true, false, true, true, false, false, true, true, false, true, true, true, false, true, true, true, true, false, false, false, false, false] (fun s => [(25, .slice (some ⟨s.1, 0, none⟩) 0 0), (28, .slice s.2.1 no s.2.2.1), (37, .slice (some ⟨s.2.2.2, 0, none⟩) 0 0)]) (fun s w' => Below w4.heap.size w4 w' ∧ Kd.string.R 9 w' w4.heap.size (fun _ => True) (.slice s.2.1 no s.2.2.1) e.outs ∧ (w'.heap[s.2.2.2]? = some (.cells #[] 9 (0, 0)) ∧ w4.heap.size ≤ s.2.2.2)) ?_ ?_
                                rotate_left
                                · intro hJ2_5_14
                                  refine join_ (σ := Nat × Nat × Nat) 10 #[true, true, true, true, true, false, true, true, true, false, true, true, true, false, false, true, true, false, true, true, true, true, false, false, false, false, false] (fun s => [(25, .slice (some ⟨s.1, 0, none⟩) 0 0), (29, .slice (some ⟨s.2.1, 0, none⟩) 0 0), (33, .slice (some ⟨s.2.2, 0, none⟩) 0 0)]) (fun s w' => Below w4.heap.size w4 w' ∧ (w'.heap[s.1]? = some (.cells #[] 9 (0, 0)) ∧ w4.heap.size ≤ s.1) ∧ (w'.heap[s.2.1]? = some (.cells #[] 9 (0, 0)) ∧ w4.heap.size ≤ s.2.1) ∧ (w'.heap[s.2.2]? = some (.cells #[] 9 (0, 0)) ∧ w4.heap.size ≤ s.2.2)) ?_ ?_
                                  rotate_left
                                  · intro hJ2_6_10
                                    refine join_ (σ := Nat × Nat × Nat) 10 #[true, true, true, true, true, false, true, true, true, false, false, true, true, false, true, true, true, false, true, true, true, true, false, false, false, false, false] (fun s => [(25, .slice (some ⟨s.1, 0, none⟩) 0 0), (29, .slice (some ⟨s.2.1, 0, none⟩) 0 0), (37, .slice (some ⟨s.2.2, 0, none⟩) 0 0)]) (fun s w' => Below w4.heap.size w4 w' ∧ (w'.heap[s.1]? = some (.cells #[] 9 (0, 0)) ∧ w4.heap.size ≤ s.1) ∧ (w'.heap[s.2.1]? = some (.cells #[] 9 (0, 0)) ∧ w4.heap.size ≤ s.2.1) ∧ (w'.heap[s.2.2]? = some (.cells #[] 9 (0, 0)) ∧ w4.heap.size ≤ s.2.2)) ?_ ?_
                                    rotate_left
                                    · intro hJ2_6_14
                                      refine join_ (σ := Nat × Nat × Nat) 10 #[true, true, true, true, true, false, false, true, true, false, true, true, true, false, true, true, true, false, true, true, true, true, false, false, false, false, false] (fun s => [(25, .slice (some ⟨s.1, 0, none⟩) 0 0), (33, .slice (some ⟨s.2.1, 0, none⟩) 0 0), (37, .slice (some ⟨s.2.2, 0, none⟩) 0 0)]) (fun s w' => Below w4.heap.size w4 w' ∧ (w'.heap[s.1]? = some (.cells #[] 9 (0, 0)) ∧ w4.heap.size ≤ s.1) ∧ (w'.heap[s.2.1]? = some (.cells #[] 9 (0, 0)) ∧ w4.heap.size ≤ s.2.1) ∧ (w'.heap[s.2.2]? = some (.cells #[] 9 (0, 0)) ∧ w4.heap.size ≤ s.2.2)) ?_ ?_
                                      rotate_left
                                      · intro hJ2_10_14
                                        refine join_ (σ := Nat × Nat × Nat) 10 #[true, true, false, true, true, false, true, true, true, false, true, true, true, false, true, true, true, false, true, true, true, true, false, false, false, false, false] (fun s => [(29, .slice (some ⟨s.1, 0, none⟩) 0 0), (33, .slice (some ⟨s.2.1, 0, none⟩) 0 0), (37, .slice (some ⟨s.2.2, 0, none⟩) 0 0)]) (fun s w' => Below w4.heap.size w4 w' ∧ (w'.heap[s.1]? = some (.cells #[] 9 (0, 0)) ∧ w4.heap.size ≤ s.1) ∧ (w'.heap[s.2.1]? = some (.cells #[] 9 (0, 0)) ∧ w4.heap.size ≤ s.2.1) ∧ (w'.heap[s.2.2]? = some (.cells #[] 9 (0, 0)) ∧ w4.heap.size ≤ s.2.2)) ?_ ?_
                                        rotate_left
                                        · intro hJ6_10_14
                                          refine join_ (σ := Nat × Option Addr × Nat) 11 #[true, true, true, true, true, true, false, true, true, false, false, true, true, false, false, true, true, false, true, true, true, true, false, false, false, false, false] (fun s => [(25, .slice (some ⟨s.1, 0, none⟩) 0 0), (28, .slice s.2.1 no s.2.2)]) (fun s w' => Below w4.heap.size w4 w' ∧ Kd.string.R 9 w' w4.heap.size (fun _ => True) (.slice s.2.1 no s.2.2) e.outs) ?_ ?_
                                          rotate_left
                                          · intro hJ2_5
                                            refine join_ (σ := Nat × Nat) 11 #[true, true, true, true, true, false, true, true, true, false, false, true, true, false, false, true, true, false, true, true, true, true, false, false, false, false, false] (fun s => [(25, .slice (some ⟨s.1, 0, none⟩) 0 0), (29, .slice (some ⟨s.2, 0, none⟩) 0 0)]) (fun s w' => Below w4.heap.size w4 w' ∧ (w'.heap[s.1]? = some (.cells #[] 9 (0, 0)) ∧ w4.heap.size ≤ s.1) ∧ (w'.heap[s.2]? = some (.cells #[] 9 (0, 0)) ∧ w4.heap.size ≤ s.2)) ?_ ?_
                                            rotate_left
                                            · intro hJ2_6
                                              refine join_ (σ := Nat × Nat) 11 #[true, true, true, true, true, false, false, true, true, false, true, true, true, false, false, true, true, false, true, true, true, true, false, false, false, false, false] (fun s => [(25, .slice (some ⟨s.1, 0, none⟩) 0 0), (33, .slice (some ⟨s.2, 0, none⟩) 0 0)]) (fun s w' => Below w4.heap.size w4 w' ∧ (w'.heap[s.1]? = some (.cells #[] 9 (0, 0)) ∧ w4.heap.size ≤ s.1) ∧ (w'.heap[s.2]? = some (.cells #[] 9 (0, 0)) ∧ w4.heap.size ≤ s.2)) ?_ ?_
                                              rotate_left
                                              · intro hJ2_10
                                                refine join_ (σ := Nat × Nat) 11 #[true, true, true, true, true, false, false, true, true, false, false, true, true, false, true, true, true, false, true, true, true, true, false, false, false, false, false] (fun s => [(25, .slice (some ⟨s.1, 0, none⟩) 0 0), (37, .slice (some ⟨s.2, 0, none⟩) 0 0)]) (fun s w' => Below w4.heap.size w4 w' ∧ (w'.heap[s.1]? = some (.cells #[] 9 (0, 0)) ∧ w4.heap.size ≤ s.1) ∧ (w'.heap[s.2]? = some (.cells #[] 9 (0, 0)) ∧ w4.heap.size ≤ s.2)) ?_ ?_
                                                rotate_left
                                                · intro hJ2_14
                                                  refine join_ (σ := Nat × Nat) 11 #[true, true, false, true, true, false, true, true, true, false, true, true, true, false, false, true, true, false, true, true, true, true, false, false, false, false, false] (fun s => [(29, .slice (some ⟨s.1, 0, none⟩) 0 0), (33, .slice (some ⟨s.2, 0, none⟩) 0 0)]) (fun s w' => Below w4.heap.size w4 w' ∧ (w'.heap[s.1]? = some (.cells #[] 9 (0, 0)) ∧ w4.heap.size ≤ s.1) ∧ (w'.heap[s.2]? = some (.cells #[] 9 (0, 0)) ∧ w4.heap.size ≤ s.2)) ?_ ?_
                                                  rotate_left
                                                  · intro hJ6_10
                                                    refine join_ (σ := Nat × Nat) 11 #[true, true, false, true, true, false, true, true, true, false, false, true, true, false, true, true, true, false, true, true, true, true, false, false, false, false, false] (fun s => [(29, .slice (some ⟨s.1, 0, none⟩) 0 0), (37, .slice (some ⟨s.2, 0, none⟩) 0 0)]) (fun s w' => Below w4.heap.size w4 w' ∧ (w'.heap[s.1]? = some (.cells #[] 9 (0, 0)) ∧ w4.heap.size ≤ s.1) ∧ (w'.heap[s.2]? = some (.cells #[] 9 (0, 0)) ∧ w4.heap.size ≤ s.2)) ?_ ?_
                                                    rotate_left
                                                    · intro hJ6_14
                                                      refine join_ (σ := Nat × Nat) 11 #[true, true, false, true, true, false, false, true, true, false, true, true, true, false, true, true, true, false, true, true, true, true, false, false, false, false, false] (fun s => [(33, .slice (some ⟨s.1, 0, none⟩) 0 0), (37, .slice (some ⟨s.2, 0, none⟩) 0 0)]) (fun s w' => Below w4.heap.size w4 w' ∧ (w'.heap[s.1]? = some (.cells #[] 9 (0, 0)) ∧ w4.heap.size ≤ s.1) ∧ (w'.heap[s.2]? = some (.cells #[] 9 (0, 0)) ∧ w4.heap.size ≤ s.2)) ?_ ?_
                                                      rotate_left
                                                      · intro hJ10_14
                                                        refine join_ (σ := Nat) 12 #[true, true, true, true, true, false, false, true, true, false, false, true, true, false, false, true, true, false, true, true, true, true, false, false, false, false, false] (fun s => [(25, .slice (some ⟨s, 0, none⟩) 0 0)]) (fun s w' => Below w4.heap.size w4 w' ∧ (w'.heap[s]? = some (.cells #[] 9 (0, 0)) ∧ w4.heap.size ≤ s)) ?_ ?_
                                                        rotate_left
                                                        · intro hJ2
                                                          refine join_ (σ := Nat) 12 #[true, true, false, true, true, false, true, true, true, false, false, true, true, false, false, true, true, false, true, true, true, true, false, false, false, false, false] (fun s => [(29, .slice (some ⟨s, 0, none⟩) 0 0)]) (fun s w' => Below w4.heap.size w4 w' ∧ (w'.heap[s]? = some (.cells #[] 9 (0, 0)) ∧ w4.heap.size ≤ s)) ?_ ?_
                                                          rotate_left
                                                          · intro hJ6
                                                            refine join_ (σ := Nat) 12 #[true, true, false, true, true, false, false, true, true, false, true, true, true, false, false, true, true, false, true, true, true, true, false, false, false, false, false] (fun s => [(33, .slice (some ⟨s, 0, none⟩) 0 0)]) (fun s w' => Below w4.heap.size w4 w' ∧ (w'.heap[s]? = some (.cells #[] 9 (0, 0)) ∧ w4.heap.size ≤ s)) ?_ ?_
                                                            rotate_left
                                                            · intro hJ10
                                                              refine join_ (σ := Nat) 12 #[true, true, false, true, true, false, false, true, true, false, false, true, true, false, true, true, true, false, true, true, true, true, false, false, false, false, false] (fun s => [(37, .slice (some ⟨s, 0, none⟩) 0 0)]) (fun s w' => Below w4.heap.size w4 w' ∧ (w'.heap[s]? = some (.cells #[] 9 (0, 0)) ∧ w4.heap.size ≤ s)) ?_ ?_
                                                              rotate_left
                                                              · intro hJ14
                                                                refine four_ (i := 2) (j := 6) (k := 10) (m := 14) (Ni := some 25) (Nj := some 29) (Nk := some 33) (Nm := some 37) #[true, true, true, true, true, false, false, true, true, false, false, true, true, false, false, true, true, false, true, true, true, true, false, false, false, false, false] #[true, true, false, true, true, false, true, true, true, false, false, true, true, false, false, true, true, false, true, true, true, true, false, false, false, false, false] #[true, true, false, true, true, false, false, true, true, false, true, true, true, false, false, true, true, false, true, true, true, true, false, false, false, false, false] #[true, true, false, true, true, false, false, true, true, false, false, true, true, false, true, true, true, false, true, true, true, true, false, false, false, false, false] rfl rfl rfl rfl rfl rfl rfl rfl (by kernel_rfl) (by decide) (by decide) (by decide) (by decide) (fun K hK => ?_) (fun K hK => ?_) (fun K hK => ?_) (fun K hK => ?_)
                                                                · skip
                                                                  refine value_ (w1 := ?_) (v := ?_) (by rfl) rfl ?_ ?_
                                                                  rotate_left 2
                                                                  · go_simp
                                                                    constructor
                                                                    · rfl
                                                                    · rfl
                                                                  refine hK.out _ _ ⟨HBD.out.alloc HBD.out.size _, pw_cell_below (HBD.out.alloc HBD.out.size _) G0.out, pw_cell_below (HBD.out.alloc HBD.out.size _) E0.out, pw_cell_below (HBD.out.alloc HBD.out.size _) E1.out, pw_cell_below (HBD.out.alloc HBD.out.size _) E2.out, pw_cell_below (HBD.out.alloc HBD.out.size _) E3.out, pw_cell_below (HBD.out.alloc HBD.out.size _) E4.out, pw_cell_below (HBD.out.alloc HBD.out.size _) E5.out⟩ (fun hHeld => ?_)
                                                                  clear hK K
                                                                  refine norm_ (a' := ?_) ?_ ?_
                                                                  rotate_left
                                                                  · show Act.put _ (some 25) _ = _
                                                                    simp only [Act.put, List.setIfInBounds_toArray, List.set_cons_zero, List.set_cons_succ, i64_w, i32_w]
                                                                    rfl
                                                                  exact norm_ (by first | (simp only [putAll, Act.put, List.setIfInBounds_toArray, List.set_cons_zero, List.set_cons_succ]; done) | (simp only [putAll, Act.put, List.setIfInBounds_toArray, List.set_cons_zero, List.set_cons_succ]; rfl)) (hJ2 (w4.drew.heap.size) _ ⟨hHeld.1, ⟨blk_new w4.drew _, HBD.out.size⟩⟩)
                                                                · skip
                                                                  refine value_ (w1 := ?_) (v := ?_) (by rfl) rfl ?_ ?_
                                                                  rotate_left 2
                                                                  · go_simp
                                                                    constructor
                                                                    · rfl
                                                                    · rfl
                                                                  refine hK.out _ _ ⟨HBD.out.alloc HBD.out.size _, pw_cell_below (HBD.out.alloc HBD.out.size _) G0.out, pw_cell_below (HBD.out.alloc HBD.out.size _) E0.out, pw_cell_below (HBD.out.alloc HBD.out.size _) E1.out, pw_cell_below (HBD.out.alloc HBD.out.size _) E2.out, pw_cell_below (HBD.out.alloc HBD.out.size _) E3.out, pw_cell_below (HBD.out.alloc HBD.out.size _) E4.out, pw_cell_below (HBD.out.alloc HBD.out.size _) E5.out⟩ (fun hHeld => ?_)
                                                                  clear hK K
                                                                  refine norm_ (a' := ?_) ?_ ?_
                                                                  rotate_left
                                                                  · show Act.put _ (some 29) _ = _
                                                                    simp only [Act.put, List.setIfInBounds_toArray, List.set_cons_zero, List.set_cons_succ, i64_w, i32_w]
                                                                    rfl
                                                                  exact norm_ (by first | (simp only [putAll, Act.put, List.setIfInBounds_toArray, List.set_cons_zero, List.set_cons_succ]; done) | (simp only [putAll, Act.put, List.setIfInBounds_toArray, List.set_cons_zero, List.set_cons_succ]; rfl)) (hJ6 (w4.drew.heap.size) _ ⟨hHeld.1, ⟨blk_new w4.drew _, HBD.out.size⟩⟩)
                                                                · skip
                                                                  refine value_ (w1 := ?_) (v := ?_) (by rfl) rfl ?_ ?_
                                                                  rotate_left 2
                                                                  · go_simp
                                                                    constructor
                                                                    · rfl
                                                                    · rfl
                                                                  refine hK.out _ _ ⟨HBD.out.alloc HBD.out.size _, pw_cell_below (HBD.out.alloc HBD.out.size _) G0.out, pw_cell_below (HBD.out.alloc HBD.out.size _) E0.out, pw_cell_below (HBD.out.alloc HBD.out.size _) E1.out, pw_cell_below (HBD.out.alloc HBD.out.size _) E2.out, pw_cell_below (HBD.out.alloc HBD.out.size _) E3.out, pw_cell_below (HBD.out.alloc HBD.out.size _) E4.out, pw_cell_below (HBD.out.alloc HBD.out.size _) E5.out⟩ (fun hHeld => ?_)
                                                                  clear hK K
                                                                  refine norm_ (a' := ?_) ?_ ?_
                                                                  rotate_left
                                                                  · show Act.put _ (some 33) _ = _
                                                                    simp only [Act.put, List.setIfInBounds_toArray, List.set_cons_zero, List.set_cons_succ, i64_w, i32_w]
                                                                    rfl
                                                                  exact norm_ (by first | (simp only [putAll, Act.put, List.setIfInBounds_toArray, List.set_cons_zero, List.set_cons_succ]; done) | (simp only [putAll, Act.put, List.setIfInBounds_toArray, List.set_cons_zero, List.set_cons_succ]; rfl)) (hJ10 (w4.drew.heap.size) _ ⟨hHeld.1, ⟨blk_new w4.drew _, HBD.out.size⟩⟩)
                                                                · skip
                                                                  refine value_ (w1 := ?_) (v := ?_) (by rfl) rfl ?_ ?_
                                                                  rotate_left 2
                                                                  · go_simp
                                                                    constructor
                                                                    · rfl
                                                                    · rfl
                                                                  refine hK.out _ _ ⟨HBD.out.alloc HBD.out.size _, pw_cell_below (HBD.out.alloc HBD.out.size _) G0.out, pw_cell_below (HBD.out.alloc HBD.out.size _) E0.out, pw_cell_below (HBD.out.alloc HBD.out.size _) E1.out, pw_cell_below (HBD.out.alloc HBD.out.size _) E2.out, pw_cell_below (HBD.out.alloc HBD.out.size _) E3.out, pw_cell_below (HBD.out.alloc HBD.out.size _) E4.out, pw_cell_below (HBD.out.alloc HBD.out.size _) E5.out⟩ (fun hHeld => ?_)
                                                                  clear hK K
                                                                  refine norm_ (a' := ?_) ?_ ?_
                                                                  rotate_left
                                                                  · show Act.put _ (some 37) _ = _
                                                                    simp only [Act.put, List.setIfInBounds_toArray, List.set_cons_zero, List.set_cons_succ, i64_w, i32_w]
                                                                    rfl
                                                                  exact norm_ (by first | (simp only [putAll, Act.put, List.setIfInBounds_toArray, List.set_cons_zero, List.set_cons_succ]; done) | (simp only [putAll, Act.put, List.setIfInBounds_toArray, List.set_cons_zero, List.set_cons_succ]; rfl)) (hJ14 (w4.drew.heap.size) _ ⟨hHeld.1, ⟨blk_new w4.drew _, HBD.out.size⟩⟩)
                                                              · skip
                                                                rintro b3 wz ⟨hF, hF3⟩
                                                                try simp only at hF hF3
                                                                have hHeld : Below w4.heap.size w4 wz ∧ wz.cell? ⟨g, 0, none⟩ = some (.slice Av k cv) ∧ wz.cell? ⟨y, 0, none⟩ = some (.slice Ao no co) ∧ wz.cell? ⟨y, 1, none⟩ = some (.slice Ai ni ci) ∧ wz.cell? ⟨y, 2, none⟩ = some (.slice Am nm cm) ∧ wz.cell? ⟨y, 3, none⟩ = some (.slice Ar nr cr) ∧ wz.cell? ⟨y, 4, none⟩ = some (.string e.cmd) ∧ wz.cell? ⟨y, 5, none⟩ = some (.string e.dep) := ⟨hF, pw_cell_below (hF) G0.out, pw_cell_below (hF) E0.out, pw_cell_below (hF) E1.out, pw_cell_below (hF) E2.out, pw_cell_below (hF) E3.out, pw_cell_below (hF) E4.out, pw_cell_below (hF) E5.out⟩
                                                                have HZ := Lib.hid hF
                                                                have PB3 := Lib.hid hF3
                                                                clear hF hF3
                                                                refine norm_ (a' := ?_) ?_ ?_
                                                                rotate_left
                                                                · simp only [putAll, Act.put, List.setIfInBounds_toArray, List.set_cons_zero, List.set_cons_succ]
                                                                  rfl
                                                                refine three_ (i := 2) (j := 6) (k := 10) (Ni := some 25) (Nj := some 29) (Nk := some 33) #[true, true, true, true, true, false, false, true, true, false, false, true, true, false, true, true, true, false, true, true, true, true, false, false, false, false, false] #[true, true, false, true, true, false, true, true, true, false, false, true, true, false, true, true, true, false, true, true, true, true, false, false, false, false, false] #[true, true, false, true, true, false, false, true, true, false, true, true, true, false, true, true, true, false, true, true, true, true, false, false, false, false, false] rfl rfl rfl rfl rfl rfl (by kernel_rfl) (by decide) (by decide) (by decide) (fun K hK => ?_) (fun K hK => ?_) (fun K hK => ?_)
                                                                · skip
                                                                  refine value_ (w1 := ?_) (v := ?_) (by rfl) rfl ?_ ?_
                                                                  rotate_left 2
                                                                  · go_simp
                                                                    constructor
                                                                    · rfl
                                                                    · rfl
                                                                  refine hK.out _ _ ⟨HZ.out.alloc HZ.out.size _, pw_cell_below (HZ.out.alloc HZ.out.size _) G0.out, pw_cell_below (HZ.out.alloc HZ.out.size _) E0.out, pw_cell_below (HZ.out.alloc HZ.out.size _) E1.out, pw_cell_below (HZ.out.alloc HZ.out.size _) E2.out, pw_cell_below (HZ.out.alloc HZ.out.size _) E3.out, pw_cell_below (HZ.out.alloc HZ.out.size _) E4.out, pw_cell_below (HZ.out.alloc HZ.out.size _) E5.out⟩ (fun hHeld => ?_)
                                                                  clear hK K
                                                                  refine norm_ (a' := ?_) ?_ ?_
                                                                  rotate_left
                                                                  · show Act.put _ (some 25) _ = _
                                                                    simp only [Act.put, List.setIfInBounds_toArray, List.set_cons_zero, List.set_cons_succ, i64_w, i32_w]
                                                                    rfl
                                                                  exact norm_ (by first | (simp only [putAll, Act.put, List.setIfInBounds_toArray, List.set_cons_zero, List.set_cons_succ]; done) | (simp only [putAll, Act.put, List.setIfInBounds_toArray, List.set_cons_zero, List.set_cons_succ]; rfl)) (hJ2_14 (wz.heap.size, b3) _ ⟨hHeld.1, ⟨blk_new wz _, HZ.out.size⟩, ⟨((below_alloc (Below.refl wz.heap.size wz) (.cells #[] 9)).block _ (blk_lt PB3.out.1)).trans PB3.out.1, PB3.out.2⟩⟩)
                                                                · skip
                                                                  refine value_ (w1 := ?_) (v := ?_) (by rfl) rfl ?_ ?_
                                                                  rotate_left 2
                                                                  · go_simp
                                                                    constructor
                                                                    · rfl
                                                                    · rfl
                                                                  refine hK.out _ _ ⟨HZ.out.alloc HZ.out.size _, pw_cell_below (HZ.out.alloc HZ.out.size _) G0.out, pw_cell_below (HZ.out.alloc HZ.out.size _) E0.out, pw_cell_below (HZ.out.alloc HZ.out.size _) E1.out, pw_cell_below (HZ.out.alloc HZ.out.size _) E2.out, pw_cell_below (HZ.out.alloc HZ.out.size _) E3.out, pw_cell_below (HZ.out.alloc HZ.out.size _) E4.out, pw_cell_below (HZ.out.alloc HZ.out.size _) E5.out⟩ (fun hHeld => ?_)
                                                                  clear hK K
                                                                  refine norm_ (a' := ?_) ?_ ?_
                                                                  rotate_left
                                                                  · show Act.put _ (some 29) _ = _
                                                                    simp only [Act.put, List.setIfInBounds_toArray, List.set_cons_zero, List.set_cons_succ, i64_w, i32_w]
                                                                    rfl
                                                                  exact norm_ (by first | (simp only [putAll, Act.put, List.setIfInBounds_toArray, List.set_cons_zero, List.set_cons_succ]; done) | (simp only [putAll, Act.put, List.setIfInBounds_toArray, List.set_cons_zero, List.set_cons_succ]; rfl)) (hJ6_14 (wz.heap.size, b3) _ ⟨hHeld.1, ⟨blk_new wz _, HZ.out.size⟩, ⟨((below_alloc (Below.refl wz.heap.size wz) (.cells #[] 9)).block _ (blk_lt PB3.out.1)).trans PB3.out.1, PB3.out.2⟩⟩)
                                                                · skip
                                                                  refine value_ (w1 := ?_) (v := ?_) (by rfl) rfl ?_ ?_
                                                                  rotate_left 2
                                                                  · go_simp
                                                                    constructor
                                                                    · rfl
                                                                    · rfl
                                                                  refine hK.out _ _ ⟨HZ.out.alloc HZ.out.size _, pw_cell_below (HZ.out.alloc HZ.out.size _) G0.out, pw_cell_below (HZ.out.alloc HZ.out.size _) E0.out, pw_cell_below (HZ.out.alloc HZ.out.size _) E1.out, pw_cell_below (HZ.out.alloc HZ.out.size _) E2.out, pw_cell_below (HZ.out.alloc HZ.out.size _) E3.out, pw_cell_below (HZ.out.alloc HZ.out.size _) E4.out, pw_cell_below (HZ.out.alloc HZ.out.size _) E5.out⟩ (fun hHeld => ?_)
                                                                  clear hK K
                                                                  refine norm_ (a' := ?_) ?_ ?_
                                                                  rotate_left
                                                                  · show Act.put _ (some 33) _ = _
                                                                    simp only [Act.put, List.setIfInBounds_toArray, List.set_cons_zero, List.set_cons_succ, i64_w, i32_w]
                                                                    rfl
                                                                  exact norm_ (by first | (simp only [putAll, Act.put, List.setIfInBounds_toArray, List.set_cons_zero, List.set_cons_succ]; done) | (simp only [putAll, Act.put, List.setIfInBounds_toArray, List.set_cons_zero, List.set_cons_succ]; rfl)) (hJ10_14 (wz.heap.size, b3) _ ⟨hHeld.1, ⟨blk_new wz _, HZ.out.size⟩, ⟨((below_alloc (Below.refl wz.heap.size wz) (.cells #[] 9)).block _ (blk_lt PB3.out.1)).trans PB3.out.1, PB3.out.2⟩⟩)
                                                            · skip
                                                              rintro b2 wz ⟨hF, hF2⟩
                                                              try simp only at hF hF2
                                                              have hHeld : Below w4.heap.size w4 wz ∧ wz.cell? ⟨g, 0, none⟩ = some (.slice Av k cv) ∧ wz.cell? ⟨y, 0, none⟩ = some (.slice Ao no co) ∧ wz.cell? ⟨y, 1, none⟩ = some (.slice Ai ni ci) ∧ wz.cell? ⟨y, 2, none⟩ = some (.slice Am nm cm) ∧ wz.cell? ⟨y, 3, none⟩ = some (.slice Ar nr cr) ∧ wz.cell? ⟨y, 4, none⟩ = some (.string e.cmd) ∧ wz.cell? ⟨y, 5, none⟩ = some (.string e.dep) := ⟨hF, pw_cell_below (hF) G0.out, pw_cell_below (hF) E0.out, pw_cell_below (hF) E1.out, pw_cell_below (hF) E2.out, pw_cell_below (hF) E3.out, pw_cell_below (hF) E4.out, pw_cell_below (hF) E5.out⟩
                                                              have HZ := Lib.hid hF
                                                              have PB2 := Lib.hid hF2
                                                              clear hF hF2
                                                              refine norm_ (a' := ?_) ?_ ?_
                                                              rotate_left
                                                              · simp only [putAll, Act.put, List.setIfInBounds_toArray, List.set_cons_zero, List.set_cons_succ]
                                                                rfl
                                                              refine three_ (i := 2) (j := 6) (k := 14) (Ni := some 25) (Nj := some 29) (Nk := some 37) #[true, true, true, true, true, false, false, true, true, false, true, true, true, false, false, true, true, false, true, true, true, true, false, false, false, false, false] #[true, true, false, true, true, false, true, true, true, false, true, true, true, false, false, true, true, false, true, true, true, true, false, false, false, false, false] #[true, true, false, true, true, false, false, true, true, false, true, true, true, false, true, true, true, false, true, true, true, true, false, false, false, false, false] rfl rfl rfl rfl rfl rfl (by kernel_rfl) (by decide) (by decide) (by decide) (fun K hK => ?_) (fun K hK => ?_) (fun K hK => ?_)
                                                              · skip
                                                                refine value_ (w1 := ?_) (v := ?_) (by rfl) rfl ?_ ?_
                                                                rotate_left 2
                                                                · go_simp
                                                                  constructor
                                                                  · rfl
                                                                  · rfl
                                                                refine hK.out _ _ ⟨HZ.out.alloc HZ.out.size _, pw_cell_below (HZ.out.alloc HZ.out.size _) G0.out, pw_cell_below (HZ.out.alloc HZ.out.size _) E0.out, pw_cell_below (HZ.out.alloc HZ.out.size _) E1.out, pw_cell_below (HZ.out.alloc HZ.out.size _) E2.out, pw_cell_below (HZ.out.alloc HZ.out.size _) E3.out, pw_cell_below (HZ.out.alloc HZ.out.size _) E4.out, pw_cell_below (HZ.out.alloc HZ.out.size _) E5.out⟩ (fun hHeld => ?_)
                                                                clear hK K
                                                                refine norm_ (a' := ?_) ?_ ?_
                                                                rotate_left
                                                                · show Act.put _ (some 25) _ = _
                                                                  simp only [Act.put, List.setIfInBounds_toArray, List.set_cons_zero, List.set_cons_succ, i64_w, i32_w]
                                                                  rfl
                                                                exact norm_ (by first | (simp only [putAll, Act.put, List.setIfInBounds_toArray, List.set_cons_zero, List.set_cons_succ]; done) | (simp only [putAll, Act.put, List.setIfInBounds_toArray, List.set_cons_zero, List.set_cons_succ]; rfl)) (hJ2_10 (wz.heap.size, b2) _ ⟨hHeld.1, ⟨blk_new wz _, HZ.out.size⟩, ⟨((below_alloc (Below.refl wz.heap.size wz) (.cells #[] 9)).block _ (blk_lt PB2.out.1)).trans PB2.out.1, PB2.out.2⟩⟩)
                                                              · skip
                                                                refine value_ (w1 := ?_) (v := ?_) (by rfl) rfl ?_ ?_
                                                                rotate_left 2
                                                                · go_simp
                                                                  constructor
                                                                  · rfl
                                                                  · rfl
                                                                refine hK.out _ _ ⟨HZ.out.alloc HZ.out.size _, pw_cell_below (HZ.out.alloc HZ.out.size _) G0.out, pw_cell_below (HZ.out.alloc HZ.out.size _) E0.out, pw_cell_below (HZ.out.alloc HZ.out.size _) E1.out, pw_cell_below (HZ.out.alloc HZ.out.size _) E2.out, pw_cell_below (HZ.out.alloc HZ.out.size _) E3.out, pw_cell_below (HZ.out.alloc HZ.out.size _) E4.out, pw_cell_below (HZ.out.alloc HZ.out.size _) E5.out⟩ (fun hHeld => ?_)
                                                                clear hK K
                                                                refine norm_ (a' := ?_) ?_ ?_
                                                                rotate_left
                                                                · show Act.put _ (some 29) _ = _
                                                                  simp only [Act.put, List.setIfInBounds_toArray, List.set_cons_zero, List.set_cons_succ, i64_w, i32_w]
                                                                  rfl
                                                                exact norm_ (by first | (simp only [putAll, Act.put, List.setIfInBounds_toArray, List.set_cons_zero, List.set_cons_succ]; done) | (simp only [putAll, Act.put, List.setIfInBounds_toArray, List.set_cons_zero, List.set_cons_succ]; rfl)) (hJ6_10 (wz.heap.size, b2) _ ⟨hHeld.1, ⟨blk_new wz _, HZ.out.size⟩, ⟨((below_alloc (Below.refl wz.heap.size wz) (.cells #[] 9)).block _ (blk_lt PB2.out.1)).trans PB2.out.1, PB2.out.2⟩⟩)
                                                              · skip
                                                                refine value_ (w1 := ?_) (v := ?_) (by rfl) rfl ?_ ?_
                                                                rotate_left 2
                                                                · go_simp
                                                                  constructor
                                                                  · rfl
                                                                  · rfl
                                                                refine hK.out _ _ ⟨HZ.out.alloc HZ.out.size _, pw_cell_below (HZ.out.alloc HZ.out.size _) G0.out, pw_cell_below (HZ.out.alloc HZ.out.size _) E0.out, pw_cell_below (HZ.out.alloc HZ.out.size _) E1.out, pw_cell_below (HZ.out.alloc HZ.out.size _) E2.out, pw_cell_below (HZ.out.alloc HZ.out.size _) E3.out, pw_cell_below (HZ.out.alloc HZ.out.size _) E4.out, pw_cell_below (HZ.out.alloc HZ.out.size _) E5.out⟩ (fun hHeld => ?_)
                                                                clear hK K
                                                                refine norm_ (a' := ?_) ?_ ?_
                                                                rotate_left
                                                                · show Act.put _ (some 37) _ = _
                                                                  simp only [Act.put, List.setIfInBounds_toArray, List.set_cons_zero, List.set_cons_succ, i64_w, i32_w]
                                                                  rfl
                                                                exact norm_ (by first | (simp only [putAll, Act.put, List.setIfInBounds_toArray, List.set_cons_zero, List.set_cons_succ]; done) | (simp only [putAll, Act.put, List.setIfInBounds_toArray, List.set_cons_zero, List.set_cons_succ]; rfl)) (hJ10_14 (b2, wz.heap.size) _ ⟨hHeld.1, ⟨((below_alloc (Below.refl wz.heap.size wz) (.cells #[] 9)).block _ (blk_lt PB2.out.1)).trans PB2.out.1, PB2.out.2⟩, ⟨blk_new wz _, HZ.out.size⟩⟩)
                                                          · skip
                                                            rintro b1 wz ⟨hF, hF1⟩
                                                            try simp only at hF hF1
                                                            have hHeld : Below w4.heap.size w4 wz ∧ wz.cell? ⟨g, 0, none⟩ = some (.slice Av k cv) ∧ wz.cell? ⟨y, 0, none⟩ = some (.slice Ao no co) ∧ wz.cell? ⟨y, 1, none⟩ = some (.slice Ai ni ci) ∧ wz.cell? ⟨y, 2, none⟩ = some (.slice Am nm cm) ∧ wz.cell? ⟨y, 3, none⟩ = some (.slice Ar nr cr) ∧ wz.cell? ⟨y, 4, none⟩ = some (.string e.cmd) ∧ wz.cell? ⟨y, 5, none⟩ = some (.string e.dep) := ⟨hF, pw_cell_below (hF) G0.out, pw_cell_below (hF) E0.out, pw_cell_below (hF) E1.out, pw_cell_below (hF) E2.out, pw_cell_below (hF) E3.out, pw_cell_below (hF) E4.out, pw_cell_below (hF) E5.out⟩
                                                            have HZ := Lib.hid hF
                                                            have PB1 := Lib.hid hF1
                                                            clear hF hF1
                                                            refine norm_ (a' := ?_) ?_ ?_
                                                            rotate_left
                                                            · simp only [putAll, Act.put, List.setIfInBounds_toArray, List.set_cons_zero, List.set_cons_succ]
                                                              rfl
                                                            refine three_ (i := 2) (j := 10) (k := 14) (Ni := some 25) (Nj := some 33) (Nk := some 37) #[true, true, true, true, true, false, true, true, true, false, false, true, true, false, false, true, true, false, true, true, true, true, false, false, false, false, false] #[true, true, false, true, true, false, true, true, true, false, true, true, true, false, false, true, true, false, true, true, true, true, false, false, false, false, false] #[true, true, false, true, true, false, true, true, true, false, false, true, true, false, true, true, true, false, true, true, true, true, false, false, false, false, false] rfl rfl rfl rfl rfl rfl (by kernel_rfl) (by decide) (by decide) (by decide) (fun K hK => ?_) (fun K hK => ?_) (fun K hK => ?_)
                                                            · skip
                                                              refine value_ (w1 := ?_) (v := ?_) (by rfl) rfl ?_ ?_
                                                              rotate_left 2
                                                              · go_simp
                                                                constructor
                                                                · rfl
                                                                · rfl
                                                              refine hK.out _ _ ⟨HZ.out.alloc HZ.out.size _, pw_cell_below (HZ.out.alloc HZ.out.size _) G0.out, pw_cell_below (HZ.out.alloc HZ.out.size _) E0.out, pw_cell_below (HZ.out.alloc HZ.out.size _) E1.out, pw_cell_below (HZ.out.alloc HZ.out.size _) E2.out, pw_cell_below (HZ.out.alloc HZ.out.size _) E3.out, pw_cell_below (HZ.out.alloc HZ.out.size _) E4.out, pw_cell_below (HZ.out.alloc HZ.out.size _) E5.out⟩ (fun hHeld => ?_)
                                                              clear hK K
                                                              refine norm_ (a' := ?_) ?_ ?_
                                                              rotate_left
                                                              · show Act.put _ (some 25) _ = _
                                                                simp only [Act.put, List.setIfInBounds_toArray, List.set_cons_zero, List.set_cons_succ, i64_w, i32_w]
                                                                rfl
                                                              exact norm_ (by first | (simp only [putAll, Act.put, List.setIfInBounds_toArray, List.set_cons_zero, List.set_cons_succ]; done) | (simp only [putAll, Act.put, List.setIfInBounds_toArray, List.set_cons_zero, List.set_cons_succ]; rfl)) (hJ2_6 (wz.heap.size, b1) _ ⟨hHeld.1, ⟨blk_new wz _, HZ.out.size⟩, ⟨((below_alloc (Below.refl wz.heap.size wz) (.cells #[] 9)).block _ (blk_lt PB1.out.1)).trans PB1.out.1, PB1.out.2⟩⟩)
                                                            · skip
                                                              refine value_ (w1 := ?_) (v := ?_) (by rfl) rfl ?_ ?_
                                                              rotate_left 2
                                                              · go_simp
                                                                constructor
                                                                · rfl
                                                                · rfl
                                                              refine hK.out _ _ ⟨HZ.out.alloc HZ.out.size _, pw_cell_below (HZ.out.alloc HZ.out.size _) G0.out, pw_cell_below (HZ.out.alloc HZ.out.size _) E0.out, pw_cell_below (HZ.out.alloc HZ.out.size _) E1.out, pw_cell_below (HZ.out.alloc HZ.out.size _) E2.out, pw_cell_below (HZ.out.alloc HZ.out.size _) E3.out, pw_cell_below (HZ.out.alloc HZ.out.size _) E4.out, pw_cell_below (HZ.out.alloc HZ.out.size _) E5.out⟩ (fun hHeld => ?_)
                                                              clear hK K
                                                              refine norm_ (a' := ?_) ?_ ?_
                                                              rotate_left
                                                              · show Act.put _ (some 33) _ = _
                                                                simp only [Act.put, List.setIfInBounds_toArray, List.set_cons_zero, List.set_cons_succ, i64_w, i32_w]
                                                                rfl
                                                              exact norm_ (by first | (simp only [putAll, Act.put, List.setIfInBounds_toArray, List.set_cons_zero, List.set_cons_succ]; done) | (simp only [putAll, Act.put, List.setIfInBounds_toArray, List.set_cons_zero, List.set_cons_succ]; rfl)) (hJ6_10 (b1, wz.heap.size) _ ⟨hHeld.1, ⟨((below_alloc (Below.refl wz.heap.size wz) (.cells #[] 9)).block _ (blk_lt PB1.out.1)).trans PB1.out.1, PB1.out.2⟩, ⟨blk_new wz _, HZ.out.size⟩⟩)
                                                            · skip
                                                              refine value_ (w1 := ?_) (v := ?_) (by rfl) rfl ?_ ?_
                                                              rotate_left 2
                                                              · go_simp
                                                                constructor
                                                                · rfl
                                                                · rfl
                                                              refine hK.out _ _ ⟨HZ.out.alloc HZ.out.size _, pw_cell_below (HZ.out.alloc HZ.out.size _) G0.out, pw_cell_below (HZ.out.alloc HZ.out.size _) E0.out, pw_cell_below (HZ.out.alloc HZ.out.size _) E1.out, pw_cell_below (HZ.out.alloc HZ.out.size _) E2.out, pw_cell_below (HZ.out.alloc HZ.out.size _) E3.out, pw_cell_below (HZ.out.alloc HZ.out.size _) E4.out, pw_cell_below (HZ.out.alloc HZ.out.size _) E5.out⟩ (fun hHeld => ?_)
                                                              clear hK K
                                                              refine norm_ (a' := ?_) ?_ ?_
                                                              rotate_left
                                                              · show Act.put _ (some 37) _ = _
                                                                simp only [Act.put, List.setIfInBounds_toArray, List.set_cons_zero, List.set_cons_succ, i64_w, i32_w]
                                                                rfl
                                                              exact norm_ (by first | (simp only [putAll, Act.put, List.setIfInBounds_toArray, List.set_cons_zero, List.set_cons_succ]; done) | (simp only [putAll, Act.put, List.setIfInBounds_toArray, List.set_cons_zero, List.set_cons_succ]; rfl)) (hJ6_14 (b1, wz.heap.size) _ ⟨hHeld.1, ⟨((below_alloc (Below.refl wz.heap.size wz) (.cells #[] 9)).block _ (blk_lt PB1.out.1)).trans PB1.out.1, PB1.out.2⟩, ⟨blk_new wz _, HZ.out.size⟩⟩)
                                                        · skip
                                                          rintro b0 wz ⟨hF, hF0⟩
                                                          try simp only at hF hF0
                                                          have hHeld : Below w4.heap.size w4 wz ∧ wz.cell? ⟨g, 0, none⟩ = some (.slice Av k cv) ∧ wz.cell? ⟨y, 0, none⟩ = some (.slice Ao no co) ∧ wz.cell? ⟨y, 1, none⟩ = some (.slice Ai ni ci) ∧ wz.cell? ⟨y, 2, none⟩ = some (.slice Am nm cm) ∧ wz.cell? ⟨y, 3, none⟩ = some (.slice Ar nr cr) ∧ wz.cell? ⟨y, 4, none⟩ = some (.string e.cmd) ∧ wz.cell? ⟨y, 5, none⟩ = some (.string e.dep) := ⟨hF, pw_cell_below (hF) G0.out, pw_cell_below (hF) E0.out, pw_cell_below (hF) E1.out, pw_cell_below (hF) E2.out, pw_cell_below (hF) E3.out, pw_cell_below (hF) E4.out, pw_cell_below (hF) E5.out⟩
                                                          have HZ := Lib.hid hF
                                                          have PB0 := Lib.hid hF0
                                                          clear hF hF0
                                                          refine norm_ (a' := ?_) ?_ ?_
                                                          rotate_left
                                                          · simp only [putAll, Act.put, List.setIfInBounds_toArray, List.set_cons_zero, List.set_cons_succ]
                                                            rfl
                                                          refine four_ (i := 5) (j := 6) (k := 10) (m := 14) (Ni := some 28) (Nj := some 29) (Nk := some 33) (Nm := some 37) #[true, true, true, true, true, true, false, true, true, false, false, true, true, false, false, true, true, false, true, true, true, true, false, false, false, false, false] #[true, true, true, true, true, false, true, true, true, false, false, true, true, false, false, true, true, false, true, true, true, true, false, false, false, false, false] #[true, true, true, true, true, false, false, true, true, false, true, true, true, false, false, true, true, false, true, true, true, true, false, false, false, false, false] #[true, true, true, true, true, false, false, true, true, false, false, true, true, false, true, true, true, false, true, true, true, true, false, false, false, false, false] rfl rfl rfl rfl rfl rfl rfl rfl (by kernel_rfl) (by decide) (by decide) (by decide) (by decide) (fun K hK => ?_) (fun K hK => ?_) (fun K hK => ?_) (fun K hK => ?_)
                                                          · skip
                                                            refine app_empty_step w4.heap.size rfl (.tmp 25) (.tmp 27) rfl b0 Ao no co e.outs rfl rfl PB0.out.1 PB0.out.2 HZ.out.size (SO.out.below HZ.out) (by omega) ?_
                                                            intro va wa ra ba
                                                            obtain ⟨An, cn, ea⟩ := Kd.R_slice ra
                                                            rw [← HNO.out] at ea
                                                            subst ea
                                                            skip
                                                            refine hK.out _ _ ⟨HZ.out.trans (ba.mono HZ.out.size), pw_cell_below (HZ.out.trans (ba.mono HZ.out.size)) G0.out, pw_cell_below (HZ.out.trans (ba.mono HZ.out.size)) E0.out, pw_cell_below (HZ.out.trans (ba.mono HZ.out.size)) E1.out, pw_cell_below (HZ.out.trans (ba.mono HZ.out.size)) E2.out, pw_cell_below (HZ.out.trans (ba.mono HZ.out.size)) E3.out, pw_cell_below (HZ.out.trans (ba.mono HZ.out.size)) E4.out, pw_cell_below (HZ.out.trans (ba.mono HZ.out.size)) E5.out⟩ (fun hHeld => ?_)
                                                            clear hK K
                                                            refine norm_ (a' := ?_) ?_ ?_
                                                            rotate_left
                                                            · show Act.put _ (some 28) _ = _
                                                              simp only [Act.put, List.setIfInBounds_toArray, List.set_cons_zero, List.set_cons_succ, i64_w, i32_w]
                                                              rfl
                                                            exact norm_ (by first | (simp only [putAll, Act.put, List.setIfInBounds_toArray, List.set_cons_zero, List.set_cons_succ]; done) | (simp only [putAll, Act.put, List.setIfInBounds_toArray, List.set_cons_zero, List.set_cons_succ]; rfl)) (hJ2_5 (b0, An, cn) _ ⟨hHeld.1, ra⟩)
                                                          · skip
                                                            refine value_ (w1 := ?_) (v := ?_) (by rfl) rfl ?_ ?_
                                                            rotate_left 2
                                                            · go_simp
                                                              constructor
                                                              · rfl
                                                              · rfl
                                                            refine hK.out _ _ ⟨HZ.out.alloc HZ.out.size _, pw_cell_below (HZ.out.alloc HZ.out.size _) G0.out, pw_cell_below (HZ.out.alloc HZ.out.size _) E0.out, pw_cell_below (HZ.out.alloc HZ.out.size _) E1.out, pw_cell_below (HZ.out.alloc HZ.out.size _) E2.out, pw_cell_below (HZ.out.alloc HZ.out.size _) E3.out, pw_cell_below (HZ.out.alloc HZ.out.size _) E4.out, pw_cell_below (HZ.out.alloc HZ.out.size _) E5.out⟩ (fun hHeld => ?_)
                                                            clear hK K
                                                            refine norm_ (a' := ?_) ?_ ?_
                                                            rotate_left
                                                            · show Act.put _ (some 29) _ = _
                                                              simp only [Act.put, List.setIfInBounds_toArray, List.set_cons_zero, List.set_cons_succ, i64_w, i32_w]
                                                              rfl
                                                            exact norm_ (by first | (simp only [putAll, Act.put, List.setIfInBounds_toArray, List.set_cons_zero, List.set_cons_succ]; done) | (simp only [putAll, Act.put, List.setIfInBounds_toArray, List.set_cons_zero, List.set_cons_succ]; rfl)) (hJ2_6 (b0, wz.heap.size) _ ⟨hHeld.1, ⟨((below_alloc (Below.refl wz.heap.size wz) (.cells #[] 9)).block _ (blk_lt PB0.out.1)).trans PB0.out.1, PB0.out.2⟩, ⟨blk_new wz _, HZ.out.size⟩⟩)
                                                          · skip
                                                            refine value_ (w1 := ?_) (v := ?_) (by rfl) rfl ?_ ?_
                                                            rotate_left 2
                                                            · go_simp
                                                              constructor
                                                              · rfl
                                                              · rfl
                                                            refine hK.out _ _ ⟨HZ.out.alloc HZ.out.size _, pw_cell_below (HZ.out.alloc HZ.out.size _) G0.out, pw_cell_below (HZ.out.alloc HZ.out.size _) E0.out, pw_cell_below (HZ.out.alloc HZ.out.size _) E1.out, pw_cell_below (HZ.out.alloc HZ.out.size _) E2.out, pw_cell_below (HZ.out.alloc HZ.out.size _) E3.out, pw_cell_below (HZ.out.alloc HZ.out.size _) E4.out, pw_cell_below (HZ.out.alloc HZ.out.size _) E5.out⟩ (fun hHeld => ?_)
                                                            clear hK K
                                                            refine norm_ (a' := ?_) ?_ ?_
                                                            rotate_left
                                                            · show Act.put _ (some 33) _ = _
                                                              simp only [Act.put, List.setIfInBounds_toArray, List.set_cons_zero, List.set_cons_succ, i64_w, i32_w]
                                                              rfl
                                                            exact norm_ (by first | (simp only [putAll, Act.put, List.setIfInBounds_toArray, List.set_cons_zero, List.set_cons_succ]; done) | (simp only [putAll, Act.put, List.setIfInBounds_toArray, List.set_cons_zero, List.set_cons_succ]; rfl)) (hJ2_10 (b0, wz.heap.size) _ ⟨hHeld.1, ⟨((below_alloc (Below.refl wz.heap.size wz) (.cells #[] 9)).block _ (blk_lt PB0.out.1)).trans PB0.out.1, PB0.out.2⟩, ⟨blk_new wz _, HZ.out.size⟩⟩)
                                                          · skip
                                                            refine value_ (w1 := ?_) (v := ?_) (by rfl) rfl ?_ ?_
                                                            rotate_left 2
                                                            · go_simp
                                                              constructor
                                                              · rfl
                                                              · rfl
                                                            refine hK.out _ _ ⟨HZ.out.alloc HZ.out.size _, pw_cell_below (HZ.out.alloc HZ.out.size _) G0.out, pw_cell_below (HZ.out.alloc HZ.out.size _) E0.out, pw_cell_below (HZ.out.alloc HZ.out.size _) E1.out, pw_cell_below (HZ.out.alloc HZ.out.size _) E2.out, pw_cell_below (HZ.out.alloc HZ.out.size _) E3.out, pw_cell_below (HZ.out.alloc HZ.out.size _) E4.out, pw_cell_below (HZ.out.alloc HZ.out.size _) E5.out⟩ (fun hHeld => ?_)
                                                            clear hK K
                                                            refine norm_ (a' := ?_) ?_ ?_
                                                            rotate_left
                                                            · show Act.put _ (some 37) _ = _
                                                              simp only [Act.put, List.setIfInBounds_toArray, List.set_cons_zero, List.set_cons_succ, i64_w, i32_w]
                                                              rfl
                                                            exact norm_ (by first | (simp only [putAll, Act.put, List.setIfInBounds_toArray, List.set_cons_zero, List.set_cons_succ]; done) | (simp only [putAll, Act.put, List.setIfInBounds_toArray, List.set_cons_zero, List.set_cons_succ]; rfl)) (hJ2_14 (b0, wz.heap.size) _ ⟨hHeld.1, ⟨((below_alloc (Below.refl wz.heap.size wz) (.cells #[] 9)).block _ (blk_lt PB0.out.1)).trans PB0.out.1, PB0.out.2⟩, ⟨blk_new wz _, HZ.out.size⟩⟩)
                                                      · skip
                                                        rintro ⟨b2, b3⟩ wz ⟨hF, hF2, hF3⟩
                                                        try simp only at hF hF2 hF3
                                                        have hHeld : Below w4.heap.size w4 wz ∧ wz.cell? ⟨g, 0, none⟩ = some (.slice Av k cv) ∧ wz.cell? ⟨y, 0, none⟩ = some (.slice Ao no co) ∧ wz.cell? ⟨y, 1, none⟩ = some (.slice Ai ni ci) ∧ wz.cell? ⟨y, 2, none⟩ = some (.slice Am nm cm) ∧ wz.cell? ⟨y, 3, none⟩ = some (.slice Ar nr cr) ∧ wz.cell? ⟨y, 4, none⟩ = some (.string e.cmd) ∧ wz.cell? ⟨y, 5, none⟩ = some (.string e.dep) := ⟨hF, pw_cell_below (hF) G0.out, pw_cell_below (hF) E0.out, pw_cell_below (hF) E1.out, pw_cell_below (hF) E2.out, pw_cell_below (hF) E3.out, pw_cell_below (hF) E4.out, pw_cell_below (hF) E5.out⟩
                                                        have HZ := Lib.hid hF
                                                        have PB2 := Lib.hid hF2
                                                        have PB3 := Lib.hid hF3
                                                        clear hF hF2 hF3
                                                        refine norm_ (a' := ?_) ?_ ?_
                                                        rotate_left
                                                        · simp only [putAll, Act.put, List.setIfInBounds_toArray, List.set_cons_zero, List.set_cons_succ]
                                                          rfl
                                                        refine two_ (i := 2) (j := 6) (Ni := some 25) (Nj := some 29) #[true, true, true, true, true, false, false, true, true, false, true, true, true, false, true, true, true, false, true, true, true, true, false, false, false, false, false] #[true, true, false, true, true, false, true, true, true, false, true, true, true, false, true, true, true, false, true, true, true, true, false, false, false, false, false] rfl rfl rfl rfl (by kernel_rfl) (by decide) (by decide) (fun K hK => ?_) (fun K hK => ?_)
                                                        · skip
                                                          refine value_ (w1 := ?_) (v := ?_) (by rfl) rfl ?_ ?_
                                                          rotate_left 2
                                                          · go_simp
                                                            constructor
                                                            · rfl
                                                            · rfl
                                                          refine hK.out _ _ ⟨HZ.out.alloc HZ.out.size _, pw_cell_below (HZ.out.alloc HZ.out.size _) G0.out, pw_cell_below (HZ.out.alloc HZ.out.size _) E0.out, pw_cell_below (HZ.out.alloc HZ.out.size _) E1.out, pw_cell_below (HZ.out.alloc HZ.out.size _) E2.out, pw_cell_below (HZ.out.alloc HZ.out.size _) E3.out, pw_cell_below (HZ.out.alloc HZ.out.size _) E4.out, pw_cell_below (HZ.out.alloc HZ.out.size _) E5.out⟩ (fun hHeld => ?_)
                                                          clear hK K
                                                          refine norm_ (a' := ?_) ?_ ?_
                                                          rotate_left
                                                          · show Act.put _ (some 25) _ = _
                                                            simp only [Act.put, List.setIfInBounds_toArray, List.set_cons_zero, List.set_cons_succ, i64_w, i32_w]
                                                            rfl
                                                          exact norm_ (by first | (simp only [putAll, Act.put, List.setIfInBounds_toArray, List.set_cons_zero, List.set_cons_succ]; done) | (simp only [putAll, Act.put, List.setIfInBounds_toArray, List.set_cons_zero, List.set_cons_succ]; rfl)) (hJ2_10_14 (wz.heap.size, b2, b3) _ ⟨hHeld.1, ⟨blk_new wz _, HZ.out.size⟩, ⟨((below_alloc (Below.refl wz.heap.size wz) (.cells #[] 9)).block _ (blk_lt PB2.out.1)).trans PB2.out.1, PB2.out.2⟩, ⟨((below_alloc (Below.refl wz.heap.size wz) (.cells #[] 9)).block _ (blk_lt PB3.out.1)).trans PB3.out.1, PB3.out.2⟩⟩)
                                                        · skip
                                                          refine value_ (w1 := ?_) (v := ?_) (by rfl) rfl ?_ ?_
                                                          rotate_left 2
                                                          · go_simp
                                                            constructor
                                                            · rfl
                                                            · rfl
                                                          refine hK.out _ _ ⟨HZ.out.alloc HZ.out.size _, pw_cell_below (HZ.out.alloc HZ.out.size _) G0.out, pw_cell_below (HZ.out.alloc HZ.out.size _) E0.out, pw_cell_below (HZ.out.alloc HZ.out.size _) E1.out, pw_cell_below (HZ.out.alloc HZ.out.size _) E2.out, pw_cell_below (HZ.out.alloc HZ.out.size _) E3.out, pw_cell_below (HZ.out.alloc HZ.out.size _) E4.out, pw_cell_below (HZ.out.alloc HZ.out.size _) E5.out⟩ (fun hHeld => ?_)
                                                          clear hK K
                                                          refine norm_ (a' := ?_) ?_ ?_
                                                          rotate_left
                                                          · show Act.put _ (some 29) _ = _
                                                            simp only [Act.put, List.setIfInBounds_toArray, List.set_cons_zero, List.set_cons_succ, i64_w, i32_w]
                                                            rfl
                                                          exact norm_ (by first | (simp only [putAll, Act.put, List.setIfInBounds_toArray, List.set_cons_zero, List.set_cons_succ]; done) | (simp only [putAll, Act.put, List.setIfInBounds_toArray, List.set_cons_zero, List.set_cons_succ]; rfl)) (hJ6_10_14 (wz.heap.size, b2, b3) _ ⟨hHeld.1, ⟨blk_new wz _, HZ.out.size⟩, ⟨((below_alloc (Below.refl wz.heap.size wz) (.cells #[] 9)).block _ (blk_lt PB2.out.1)).trans PB2.out.1, PB2.out.2⟩, ⟨((below_alloc (Below.refl wz.heap.size wz) (.cells #[] 9)).block _ (blk_lt PB3.out.1)).trans PB3.out.1, PB3.out.2⟩⟩)
                                                    · skip
                                                      rintro ⟨b1, b3⟩ wz ⟨hF, hF1, hF3⟩
                                                      try simp only at hF hF1 hF3
                                                      have hHeld : Below w4.heap.size w4 wz ∧ wz.cell? ⟨g, 0, none⟩ = some (.slice Av k cv) ∧ wz.cell? ⟨y, 0, none⟩ = some (.slice Ao no co) ∧ wz.cell? ⟨y, 1, none⟩ = some (.slice Ai ni ci) ∧ wz.cell? ⟨y, 2, none⟩ = some (.slice Am nm cm) ∧ wz.cell? ⟨y, 3, none⟩ = some (.slice Ar nr cr) ∧ wz.cell? ⟨y, 4, none⟩ = some (.string e.cmd) ∧ wz.cell? ⟨y, 5, none⟩ = some (.string e.dep) := ⟨hF, pw_cell_below (hF) G0.out, pw_cell_below (hF) E0.out, pw_cell_below (hF) E1.out, pw_cell_below (hF) E2.out, pw_cell_below (hF) E3.out, pw_cell_below (hF) E4.out, pw_cell_below (hF) E5.out⟩
                                                      have HZ := Lib.hid hF
                                                      have PB1 := Lib.hid hF1
                                                      have PB3 := Lib.hid hF3
                                                      clear hF hF1 hF3
                                                      refine norm_ (a' := ?_) ?_ ?_
                                                      rotate_left
                                                      · simp only [putAll, Act.put, List.setIfInBounds_toArray, List.set_cons_zero, List.set_cons_succ]
                                                        rfl
                                                      refine two_ (i := 2) (j := 10) (Ni := some 25) (Nj := some 33) #[true, true, true, true, true, false, true, true, true, false, false, true, true, false, true, true, true, false, true, true, true, true, false, false, false, false, false] #[true, true, false, true, true, false, true, true, true, false, true, true, true, false, true, true, true, false, true, true, true, true, false, false, false, false, false] rfl rfl rfl rfl (by kernel_rfl) (by decide) (by decide) (fun K hK => ?_) (fun K hK => ?_)
                                                      · skip
                                                        refine value_ (w1 := ?_) (v := ?_) (by rfl) rfl ?_ ?_
                                                        rotate_left 2
                                                        · go_simp
                                                          constructor
                                                          · rfl
                                                          · rfl
                                                        refine hK.out _ _ ⟨HZ.out.alloc HZ.out.size _, pw_cell_below (HZ.out.alloc HZ.out.size _) G0.out, pw_cell_below (HZ.out.alloc HZ.out.size _) E0.out, pw_cell_below (HZ.out.alloc HZ.out.size _) E1.out, pw_cell_below (HZ.out.alloc HZ.out.size _) E2.out, pw_cell_below (HZ.out.alloc HZ.out.size _) E3.out, pw_cell_below (HZ.out.alloc HZ.out.size _) E4.out, pw_cell_below (HZ.out.alloc HZ.out.size _) E5.out⟩ (fun hHeld => ?_)
                                                        clear hK K
                                                        refine norm_ (a' := ?_) ?_ ?_
                                                        rotate_left
                                                        · show Act.put _ (some 25) _ = _
                                                          simp only [Act.put, List.setIfInBounds_toArray, List.set_cons_zero, List.set_cons_succ, i64_w, i32_w]
                                                          rfl
                                                        exact norm_ (by first | (simp only [putAll, Act.put, List.setIfInBounds_toArray, List.set_cons_zero, List.set_cons_succ]; done) | (simp only [putAll, Act.put, List.setIfInBounds_toArray, List.set_cons_zero, List.set_cons_succ]; rfl)) (hJ2_6_14 (wz.heap.size, b1, b3) _ ⟨hHeld.1, ⟨blk_new wz _, HZ.out.size⟩, ⟨((below_alloc (Below.refl wz.heap.size wz) (.cells #[] 9)).block _ (blk_lt PB1.out.1)).trans PB1.out.1, PB1.out.2⟩, ⟨((below_alloc (Below.refl wz.heap.size wz) (.cells #[] 9)).block _ (blk_lt PB3.out.1)).trans PB3.out.1, PB3.out.2⟩⟩)
                                                      · skip
                                                        refine value_ (w1 := ?_) (v := ?_) (by rfl) rfl ?_ ?_
                                                        rotate_left 2
                                                        · go_simp
                                                          constructor
                                                          · rfl
                                                          · rfl
                                                        refine hK.out _ _ ⟨HZ.out.alloc HZ.out.size _, pw_cell_below (HZ.out.alloc HZ.out.size _) G0.out, pw_cell_below (HZ.out.alloc HZ.out.size _) E0.out, pw_cell_below (HZ.out.alloc HZ.out.size _) E1.out, pw_cell_below (HZ.out.alloc HZ.out.size _) E2.out, pw_cell_below (HZ.out.alloc HZ.out.size _) E3.out, pw_cell_below (HZ.out.alloc HZ.out.size _) E4.out, pw_cell_below (HZ.out.alloc HZ.out.size _) E5.out⟩ (fun hHeld => ?_)
                                                        clear hK K
                                                        refine norm_ (a' := ?_) ?_ ?_
                                                        rotate_left
                                                        · show Act.put _ (some 33) _ = _
                                                          simp only [Act.put, List.setIfInBounds_toArray, List.set_cons_zero, List.set_cons_succ, i64_w, i32_w]
                                                          rfl
                                                        exact norm_ (by first | (simp only [putAll, Act.put, List.setIfInBounds_toArray, List.set_cons_zero, List.set_cons_succ]; done) | (simp only [putAll, Act.put, List.setIfInBounds_toArray, List.set_cons_zero, List.set_cons_succ]; rfl)) (hJ6_10_14 (b1, wz.heap.size, b3) _ ⟨hHeld.1, ⟨((below_alloc (Below.refl wz.heap.size wz) (.cells #[] 9)).block _ (blk_lt PB1.out.1)).trans PB1.out.1, PB1.out.2⟩, ⟨blk_new wz _, HZ.out.size⟩, ⟨((below_alloc (Below.refl wz.heap.size wz) (.cells #[] 9)).block _ (blk_lt PB3.out.1)).trans PB3.out.1, PB3.out.2⟩⟩)
                                                  · skip
                                                    rintro ⟨b1, b2⟩ wz ⟨hF, hF1, hF2⟩
                                                    try simp only at hF hF1 hF2
                                                    have hHeld : Below w4.heap.size w4 wz ∧ wz.cell? ⟨g, 0, none⟩ = some (.slice Av k cv) ∧ wz.cell? ⟨y, 0, none⟩ = some (.slice Ao no co) ∧ wz.cell? ⟨y, 1, none⟩ = some (.slice Ai ni ci) ∧ wz.cell? ⟨y, 2, none⟩ = some (.slice Am nm cm) ∧ wz.cell? ⟨y, 3, none⟩ = some (.slice Ar nr cr) ∧ wz.cell? ⟨y, 4, none⟩ = some (.string e.cmd) ∧ wz.cell? ⟨y, 5, none⟩ = some (.string e.dep) := ⟨hF, pw_cell_below (hF) G0.out, pw_cell_below (hF) E0.out, pw_cell_below (hF) E1.out, pw_cell_below (hF) E2.out, pw_cell_below (hF) E3.out, pw_cell_below (hF) E4.out, pw_cell_below (hF) E5.out⟩
                                                    have HZ := Lib.hid hF
                                                    have PB1 := Lib.hid hF1
                                                    have PB2 := Lib.hid hF2
                                                    clear hF hF1 hF2
                                                    refine norm_ (a' := ?_) ?_ ?_
                                                    rotate_left
                                                    · simp only [putAll, Act.put, List.setIfInBounds_toArray, List.set_cons_zero, List.set_cons_succ]
                                                      rfl
                                                    refine two_ (i := 2) (j := 14) (Ni := some 25) (Nj := some 37) #[true, true, true, true, true, false, true, true, true, false, true, true, true, false, false, true, true, false, true, true, true, true, false, false, false, false, false] #[true, true, false, true, true, false, true, true, true, false, true, true, true, false, true, true, true, false, true, true, true, true, false, false, false, false, false] rfl rfl rfl rfl (by kernel_rfl) (by decide) (by decide) (fun K hK => ?_) (fun K hK => ?_)
                                                    · skip
                                                      refine value_ (w1 := ?_) (v := ?_) (by rfl) rfl ?_ ?_
                                                      rotate_left 2
                                                      · go_simp
                                                        constructor
                                                        · rfl
                                                        · rfl
                                                      refine hK.out _ _ ⟨HZ.out.alloc HZ.out.size _, pw_cell_below (HZ.out.alloc HZ.out.size _) G0.out, pw_cell_below (HZ.out.alloc HZ.out.size _) E0.out, pw_cell_below (HZ.out.alloc HZ.out.size _) E1.out, pw_cell_below (HZ.out.alloc HZ.out.size _) E2.out, pw_cell_below (HZ.out.alloc HZ.out.size _) E3.out, pw_cell_below (HZ.out.alloc HZ.out.size _) E4.out, pw_cell_below (HZ.out.alloc HZ.out.size _) E5.out⟩ (fun hHeld => ?_)
                                                      clear hK K
                                                      refine norm_ (a' := ?_) ?_ ?_
                                                      rotate_left
                                                      · show Act.put _ (some 25) _ = _
                                                        simp only [Act.put, List.setIfInBounds_toArray, List.set_cons_zero, List.set_cons_succ, i64_w, i32_w]
                                                        rfl
                                                      exact norm_ (by first | (simp only [putAll, Act.put, List.setIfInBounds_toArray, List.set_cons_zero, List.set_cons_succ]; done) | (simp only [putAll, Act.put, List.setIfInBounds_toArray, List.set_cons_zero, List.set_cons_succ]; rfl)) (hJ2_6_10 (wz.heap.size, b1, b2) _ ⟨hHeld.1, ⟨blk_new wz _, HZ.out.size⟩, ⟨((below_alloc (Below.refl wz.heap.size wz) (.cells #[] 9)).block _ (blk_lt PB1.out.1)).trans PB1.out.1, PB1.out.2⟩, ⟨((below_alloc (Below.refl wz.heap.size wz) (.cells #[] 9)).block _ (blk_lt PB2.out.1)).trans PB2.out.1, PB2.out.2⟩⟩)
                                                    · skip
                                                      refine value_ (w1 := ?_) (v := ?_) (by rfl) rfl ?_ ?_
                                                      rotate_left 2
                                                      · go_simp
                                                        constructor
                                                        · rfl
                                                        · rfl
                                                      refine hK.out _ _ ⟨HZ.out.alloc HZ.out.size _, pw_cell_below (HZ.out.alloc HZ.out.size _) G0.out, pw_cell_below (HZ.out.alloc HZ.out.size _) E0.out, pw_cell_below (HZ.out.alloc HZ.out.size _) E1.out, pw_cell_below (HZ.out.alloc HZ.out.size _) E2.out, pw_cell_below (HZ.out.alloc HZ.out.size _) E3.out, pw_cell_below (HZ.out.alloc HZ.out.size _) E4.out, pw_cell_below (HZ.out.alloc HZ.out.size _) E5.out⟩ (fun hHeld => ?_)
                                                      clear hK K
                                                      refine norm_ (a' := ?_) ?_ ?_
                                                      rotate_left
                                                      · show Act.put _ (some 37) _ = _
                                                        simp only [Act.put, List.setIfInBounds_toArray, List.set_cons_zero, List.set_cons_succ, i64_w, i32_w]
                                                        rfl
                                                      exact norm_ (by first | (simp only [putAll, Act.put, List.setIfInBounds_toArray, List.set_cons_zero, List.set_cons_succ]; done) | (simp only [putAll, Act.put, List.setIfInBounds_toArray, List.set_cons_zero, List.set_cons_succ]; rfl)) (hJ6_10_14 (b1, b2, wz.heap.size) _ ⟨hHeld.1, ⟨((below_alloc (Below.refl wz.heap.size wz) (.cells #[] 9)).block _ (blk_lt PB1.out.1)).trans PB1.out.1, PB1.out.2⟩, ⟨((below_alloc (Below.refl wz.heap.size wz) (.cells #[] 9)).block _ (blk_lt PB2.out.1)).trans PB2.out.1, PB2.out.2⟩, ⟨blk_new wz _, HZ.out.size⟩⟩)
                                                · skip
                                                  rintro ⟨b0, b3⟩ wz ⟨hF, hF0, hF3⟩
                                                  try simp only at hF hF0 hF3
                                                  have hHeld : Below w4.heap.size w4 wz ∧ wz.cell? ⟨g, 0, none⟩ = some (.slice Av k cv) ∧ wz.cell? ⟨y, 0, none⟩ = some (.slice Ao no co) ∧ wz.cell? ⟨y, 1, none⟩ = some (.slice Ai ni ci) ∧ wz.cell? ⟨y, 2, none⟩ = some (.slice Am nm cm) ∧ wz.cell? ⟨y, 3, none⟩ = some (.slice Ar nr cr) ∧ wz.cell? ⟨y, 4, none⟩ = some (.string e.cmd) ∧ wz.cell? ⟨y, 5, none⟩ = some (.string e.dep) := ⟨hF, pw_cell_below (hF) G0.out, pw_cell_below (hF) E0.out, pw_cell_below (hF) E1.out, pw_cell_below (hF) E2.out, pw_cell_below (hF) E3.out, pw_cell_below (hF) E4.out, pw_cell_below (hF) E5.out⟩
                                                  have HZ := Lib.hid hF
                                                  have PB0 := Lib.hid hF0
                                                  have PB3 := Lib.hid hF3
                                                  clear hF hF0 hF3
                                                  refine norm_ (a' := ?_) ?_ ?_
                                                  rotate_left
                                                  · simp only [putAll, Act.put, List.setIfInBounds_toArray, List.set_cons_zero, List.set_cons_succ]
                                                    rfl
                                                  refine three_ (i := 5) (j := 6) (k := 10) (Ni := some 28) (Nj := some 29) (Nk := some 33) #[true, true, true, true, true, true, false, true, true, false, false, true, true, false, true, true, true, false, true, true, true, true, false, false, false, false, false] #[true, true, true, true, true, false, true, true, true, false, false, true, true, false, true, true, true, false, true, true, true, true, false, false, false, false, false] #[true, true, true, true, true, false, false, true, true, false, true, true, true, false, true, true, true, false, true, true, true, true, false, false, false, false, false] rfl rfl rfl rfl rfl rfl (by kernel_rfl) (by decide) (by decide) (by decide) (fun K hK => ?_) (fun K hK => ?_) (fun K hK => ?_)
                                                  · skip
                                                    refine app_empty_step w4.heap.size rfl (.tmp 25) (.tmp 27) rfl b0 Ao no co e.outs rfl rfl PB0.out.1 PB0.out.2 HZ.out.size (SO.out.below HZ.out) (by omega) ?_
                                                    intro va wa ra ba
                                                    obtain ⟨An, cn, ea⟩ := Kd.R_slice ra
                                                    rw [← HNO.out] at ea
                                                    subst ea
                                                    skip
                                                    refine hK.out _ _ ⟨HZ.out.trans (ba.mono HZ.out.size), pw_cell_below (HZ.out.trans (ba.mono HZ.out.size)) G0.out, pw_cell_below (HZ.out.trans (ba.mono HZ.out.size)) E0.out, pw_cell_below (HZ.out.trans (ba.mono HZ.out.size)) E1.out, pw_cell_below (HZ.out.trans (ba.mono HZ.out.size)) E2.out, pw_cell_below (HZ.out.trans (ba.mono HZ.out.size)) E3.out, pw_cell_below (HZ.out.trans (ba.mono HZ.out.size)) E4.out, pw_cell_below (HZ.out.trans (ba.mono HZ.out.size)) E5.out⟩ (fun hHeld => ?_)
                                                    clear hK K
                                                    refine norm_ (a' := ?_) ?_ ?_
                                                    rotate_left
                                                    · show Act.put _ (some 28) _ = _
                                                      simp only [Act.put, List.setIfInBounds_toArray, List.set_cons_zero, List.set_cons_succ, i64_w, i32_w]
                                                      rfl
                                                    exact norm_ (by first | (simp only [putAll, Act.put, List.setIfInBounds_toArray, List.set_cons_zero, List.set_cons_succ]; done) | (simp only [putAll, Act.put, List.setIfInBounds_toArray, List.set_cons_zero, List.set_cons_succ]; rfl)) (hJ2_5_14 (b0, An, cn, b3) _ ⟨hHeld.1, ra, ⟨(ba.block _ (blk_lt PB3.out.1)).trans PB3.out.1, PB3.out.2⟩⟩)
                                                  · skip
                                                    refine value_ (w1 := ?_) (v := ?_) (by rfl) rfl ?_ ?_
                                                    rotate_left 2
                                                    · go_simp
                                                      constructor
                                                      · rfl
                                                      · rfl
                                                    refine hK.out _ _ ⟨HZ.out.alloc HZ.out.size _, pw_cell_below (HZ.out.alloc HZ.out.size _) G0.out, pw_cell_below (HZ.out.alloc HZ.out.size _) E0.out, pw_cell_below (HZ.out.alloc HZ.out.size _) E1.out, pw_cell_below (HZ.out.alloc HZ.out.size _) E2.out, pw_cell_below (HZ.out.alloc HZ.out.size _) E3.out, pw_cell_below (HZ.out.alloc HZ.out.size _) E4.out, pw_cell_below (HZ.out.alloc HZ.out.size _) E5.out⟩ (fun hHeld => ?_)
                                                    clear hK K
                                                    refine norm_ (a' := ?_) ?_ ?_
                                                    rotate_left
                                                    · show Act.put _ (some 29) _ = _
                                                      simp only [Act.put, List.setIfInBounds_toArray, List.set_cons_zero, List.set_cons_succ, i64_w, i32_w]
                                                      rfl
                                                    exact norm_ (by first | (simp only [putAll, Act.put, List.setIfInBounds_toArray, List.set_cons_zero, List.set_cons_succ]; done) | (simp only [putAll, Act.put, List.setIfInBounds_toArray, List.set_cons_zero, List.set_cons_succ]; rfl)) (hJ2_6_14 (b0, wz.heap.size, b3) _ ⟨hHeld.1, ⟨((below_alloc (Below.refl wz.heap.size wz) (.cells #[] 9)).block _ (blk_lt PB0.out.1)).trans PB0.out.1, PB0.out.2⟩, ⟨blk_new wz _, HZ.out.size⟩, ⟨((below_alloc (Below.refl wz.heap.size wz) (.cells #[] 9)).block _ (blk_lt PB3.out.1)).trans PB3.out.1, PB3.out.2⟩⟩)
                                                  · skip
                                                    refine value_ (w1 := ?_) (v := ?_) (by rfl) rfl ?_ ?_
                                                    rotate_left 2
                                                    · go_simp
                                                      constructor
                                                      · rfl
                                                      · rfl
                                                    refine hK.out _ _ ⟨HZ.out.alloc HZ.out.size _, pw_cell_below (HZ.out.alloc HZ.out.size _) G0.out, pw_cell_below (HZ.out.alloc HZ.out.size _) E0.out, pw_cell_below (HZ.out.alloc HZ.out.size _) E1.out, pw_cell_below (HZ.out.alloc HZ.out.size _) E2.out, pw_cell_below (HZ.out.alloc HZ.out.size _) E3.out, pw_cell_below (HZ.out.alloc HZ.out.size _) E4.out, pw_cell_below (HZ.out.alloc HZ.out.size _) E5.out⟩ (fun hHeld => ?_)
                                                    clear hK K
                                                    refine norm_ (a' := ?_) ?_ ?_
                                                    rotate_left
                                                    · show Act.put _ (some 33) _ = _
                                                      simp only [Act.put, List.setIfInBounds_toArray, List.set_cons_zero, List.set_cons_succ, i64_w, i32_w]
                                                      rfl
                                                    exact norm_ (by first | (simp only [putAll, Act.put, List.setIfInBounds_toArray, List.set_cons_zero, List.set_cons_succ]; done) | (simp only [putAll, Act.put, List.setIfInBounds_toArray, List.set_cons_zero, List.set_cons_succ]; rfl)) (hJ2_10_14 (b0, wz.heap.size, b3) _ ⟨hHeld.1, ⟨((below_alloc (Below.refl wz.heap.size wz) (.cells #[] 9)).block _ (blk_lt PB0.out.1)).trans PB0.out.1, PB0.out.2⟩, ⟨blk_new wz _, HZ.out.size⟩, ⟨((below_alloc (Below.refl wz.heap.size wz) (.cells #[] 9)).block _ (blk_lt PB3.out.1)).trans PB3.out.1, PB3.out.2⟩⟩)
                                              · skip
                                                rintro ⟨b0, b2⟩ wz ⟨hF, hF0, hF2⟩
                                                try simp only at hF hF0 hF2
                                                have hHeld : Below w4.heap.size w4 wz ∧ wz.cell? ⟨g, 0, none⟩ = some (.slice Av k cv) ∧ wz.cell? ⟨y, 0, none⟩ = some (.slice Ao no co) ∧ wz.cell? ⟨y, 1, none⟩ = some (.slice Ai ni ci) ∧ wz.cell? ⟨y, 2, none⟩ = some (.slice Am nm cm) ∧ wz.cell? ⟨y, 3, none⟩ = some (.slice Ar nr cr) ∧ wz.cell? ⟨y, 4, none⟩ = some (.string e.cmd) ∧ wz.cell? ⟨y, 5, none⟩ = some (.string e.dep) := ⟨hF, pw_cell_below (hF) G0.out, pw_cell_below (hF) E0.out, pw_cell_below (hF) E1.out, pw_cell_below (hF) E2.out, pw_cell_below (hF) E3.out, pw_cell_below (hF) E4.out, pw_cell_below (hF) E5.out⟩
                                                have HZ := Lib.hid hF
                                                have PB0 := Lib.hid hF0
                                                have PB2 := Lib.hid hF2
                                                clear hF hF0 hF2
                                                refine norm_ (a' := ?_) ?_ ?_
                                                rotate_left
                                                · simp only [putAll, Act.put, List.setIfInBounds_toArray, List.set_cons_zero, List.set_cons_succ]
                                                  rfl
                                                refine three_ (i := 5) (j := 6) (k := 14) (Ni := some 28) (Nj := some 29) (Nk := some 37) #[true, true, true, true, true, true, false, true, true, false, true, true, true, false, false, true, true, false, true, true, true, true, false, false, false, false, false] #[true, true, true, true, true, false, true, true, true, false, true, true, true, false, false, true, true, false, true, true, true, true, false, false, false, false, false] #[true, true, true, true, true, false, false, true, true, false, true, true, true, false, true, true, true, false, true, true, true, true, false, false, false, false, false] rfl rfl rfl rfl rfl rfl (by kernel_rfl) (by decide) (by decide) (by decide) (fun K hK => ?_) (fun K hK => ?_) (fun K hK => ?_)
                                                · skip
                                                  refine app_empty_step w4.heap.size rfl (.tmp 25) (.tmp 27) rfl b0 Ao no co e.outs rfl rfl PB0.out.1 PB0.out.2 HZ.out.size (SO.out.below HZ.out) (by omega) ?_
                                                  intro va wa ra ba
                                                  obtain ⟨An, cn, ea⟩ := Kd.R_slice ra
                                                  rw [← HNO.out] at ea
                                                  subst ea
                                                  skip
                                                  refine hK.out _ _ ⟨HZ.out.trans (ba.mono HZ.out.size), pw_cell_below (HZ.out.trans (ba.mono HZ.out.size)) G0.out, pw_cell_below (HZ.out.trans (ba.mono HZ.out.size)) E0.out, pw_cell_below (HZ.out.trans (ba.mono HZ.out.size)) E1.out, pw_cell_below (HZ.out.trans (ba.mono HZ.out.size)) E2.out, pw_cell_below (HZ.out.trans (ba.mono HZ.out.size)) E3.out, pw_cell_below (HZ.out.trans (ba.mono HZ.out.size)) E4.out, pw_cell_below (HZ.out.trans (ba.mono HZ.out.size)) E5.out⟩ (fun hHeld => ?_)
                                                  clear hK K
                                                  refine norm_ (a' := ?_) ?_ ?_
                                                  rotate_left
                                                  · show Act.put _ (some 28) _ = _
                                                    simp only [Act.put, List.setIfInBounds_toArray, List.set_cons_zero, List.set_cons_succ, i64_w, i32_w]
                                                    rfl
                                                  exact norm_ (by first | (simp only [putAll, Act.put, List.setIfInBounds_toArray, List.set_cons_zero, List.set_cons_succ]; done) | (simp only [putAll, Act.put, List.setIfInBounds_toArray, List.set_cons_zero, List.set_cons_succ]; rfl)) (hJ2_5_10 (b0, An, cn, b2) _ ⟨hHeld.1, ra, ⟨(ba.block _ (blk_lt PB2.out.1)).trans PB2.out.1, PB2.out.2⟩⟩)
                                                · skip
                                                  refine value_ (w1 := ?_) (v := ?_) (by rfl) rfl ?_ ?_
                                                  rotate_left 2
                                                  · go_simp
                                                    constructor
                                                    · rfl
                                                    · rfl
                                                  refine hK.out _ _ ⟨HZ.out.alloc HZ.out.size _, pw_cell_below (HZ.out.alloc HZ.out.size _) G0.out, pw_cell_below (HZ.out.alloc HZ.out.size _) E0.out, pw_cell_below (HZ.out.alloc HZ.out.size _) E1.out, pw_cell_below (HZ.out.alloc HZ.out.size _) E2.out, pw_cell_below (HZ.out.alloc HZ.out.size _) E3.out, pw_cell_below (HZ.out.alloc HZ.out.size _) E4.out, pw_cell_below (HZ.out.alloc HZ.out.size _) E5.out⟩ (fun hHeld => ?_)
                                                  clear hK K
                                                  refine norm_ (a' := ?_) ?_ ?_
                                                  rotate_left
                                                  · show Act.put _ (some 29) _ = _
                                                    simp only [Act.put, List.setIfInBounds_toArray, List.set_cons_zero, List.set_cons_succ, i64_w, i32_w]
                                                    rfl
                                                  exact norm_ (by first | (simp only [putAll, Act.put, List.setIfInBounds_toArray, List.set_cons_zero, List.set_cons_succ]; done) | (simp only [putAll, Act.put, List.setIfInBounds_toArray, List.set_cons_zero, List.set_cons_succ]; rfl)) (hJ2_6_10 (b0, wz.heap.size, b2) _ ⟨hHeld.1, ⟨((below_alloc (Below.refl wz.heap.size wz) (.cells #[] 9)).block _ (blk_lt PB0.out.1)).trans PB0.out.1, PB0.out.2⟩, ⟨blk_new wz _, HZ.out.size⟩, ⟨((below_alloc (Below.refl wz.heap.size wz) (.cells #[] 9)).block _ (blk_lt PB2.out.1)).trans PB2.out.1, PB2.out.2⟩⟩)
                                                · skip
                                                  refine value_ (w1 := ?_) (v := ?_) (by rfl) rfl ?_ ?_
                                                  rotate_left 2
                                                  · go_simp
                                                    constructor
                                                    · rfl
                                                    · rfl
                                                  refine hK.out _ _ ⟨HZ.out.alloc HZ.out.size _, pw_cell_below (HZ.out.alloc HZ.out.size _) G0.out, pw_cell_below (HZ.out.alloc HZ.out.size _) E0.out, pw_cell_below (HZ.out.alloc HZ.out.size _) E1.out, pw_cell_below (HZ.out.alloc HZ.out.size _) E2.out, pw_cell_below (HZ.out.alloc HZ.out.size _) E3.out, pw_cell_below (HZ.out.alloc HZ.out.size _) E4.out, pw_cell_below (HZ.out.alloc HZ.out.size _) E5.out⟩ (fun hHeld => ?_)
                                                  clear hK K
                                                  refine norm_ (a' := ?_) ?_ ?_
                                                  rotate_left
                                                  · show Act.put _ (some 37) _ = _
                                                    simp only [Act.put, List.setIfInBounds_toArray, List.set_cons_zero, List.set_cons_succ, i64_w, i32_w]
                                                    rfl
                                                  exact norm_ (by first | (simp only [putAll, Act.put, List.setIfInBounds_toArray, List.set_cons_zero, List.set_cons_succ]; done) | (simp only [putAll, Act.put, List.setIfInBounds_toArray, List.set_cons_zero, List.set_cons_succ]; rfl)) (hJ2_10_14 (b0, b2, wz.heap.size) _ ⟨hHeld.1, ⟨((below_alloc (Below.refl wz.heap.size wz) (.cells #[] 9)).block _ (blk_lt PB0.out.1)).trans PB0.out.1, PB0.out.2⟩, ⟨((below_alloc (Below.refl wz.heap.size wz) (.cells #[] 9)).block _ (blk_lt PB2.out.1)).trans PB2.out.1, PB2.out.2⟩, ⟨blk_new wz _, HZ.out.size⟩⟩)
                                            · skip
                                              rintro ⟨b0, b1⟩ wz ⟨hF, hF0, hF1⟩
                                              try simp only at hF hF0 hF1
                                              have hHeld : Below w4.heap.size w4 wz ∧ wz.cell? ⟨g, 0, none⟩ = some (.slice Av k cv) ∧ wz.cell? ⟨y, 0, none⟩ = some (.slice Ao no co) ∧ wz.cell? ⟨y, 1, none⟩ = some (.slice Ai ni ci) ∧ wz.cell? ⟨y, 2, none⟩ = some (.slice Am nm cm) ∧ wz.cell? ⟨y, 3, none⟩ = some (.slice Ar nr cr) ∧ wz.cell? ⟨y, 4, none⟩ = some (.string e.cmd) ∧ wz.cell? ⟨y, 5, none⟩ = some (.string e.dep) := ⟨hF, pw_cell_below (hF) G0.out, pw_cell_below (hF) E0.out, pw_cell_below (hF) E1.out, pw_cell_below (hF) E2.out, pw_cell_below (hF) E3.out, pw_cell_below (hF) E4.out, pw_cell_below (hF) E5.out⟩
                                              have HZ := Lib.hid hF
                                              have PB0 := Lib.hid hF0
                                              have PB1 := Lib.hid hF1
                                              clear hF hF0 hF1
                                              refine norm_ (a' := ?_) ?_ ?_
                                              rotate_left
                                              · simp only [putAll, Act.put, List.setIfInBounds_toArray, List.set_cons_zero, List.set_cons_succ]
                                                rfl
                                              refine three_ (i := 5) (j := 10) (k := 14) (Ni := some 28) (Nj := some 33) (Nk := some 37) #[true, true, true, true, true, true, true, true, true, false, false, true, true, false, false, true, true, false, true, true, true, true, false, false, false, false, false] #[true, true, true, true, true, false, true, true, true, false, true, true, true, false, false, true, true, false, true, true, true, true, false, false, false, false, false] #[true, true, true, true, true, false, true, true, true, false, false, true, true, false, true, true, true, false, true, true, true, true, false, false, false, false, false] rfl rfl rfl rfl rfl rfl (by kernel_rfl) (by decide) (by decide) (by decide) (fun K hK => ?_) (fun K hK => ?_) (fun K hK => ?_)
                                              · skip
                                                refine app_empty_step w4.heap.size rfl (.tmp 25) (.tmp 27) rfl b0 Ao no co e.outs rfl rfl PB0.out.1 PB0.out.2 HZ.out.size (SO.out.below HZ.out) (by omega) ?_
                                                intro va wa ra ba
                                                obtain ⟨An, cn, ea⟩ := Kd.R_slice ra
                                                rw [← HNO.out] at ea
                                                subst ea
                                                skip
                                                refine hK.out _ _ ⟨HZ.out.trans (ba.mono HZ.out.size), pw_cell_below (HZ.out.trans (ba.mono HZ.out.size)) G0.out, pw_cell_below (HZ.out.trans (ba.mono HZ.out.size)) E0.out, pw_cell_below (HZ.out.trans (ba.mono HZ.out.size)) E1.out, pw_cell_below (HZ.out.trans (ba.mono HZ.out.size)) E2.out, pw_cell_below (HZ.out.trans (ba.mono HZ.out.size)) E3.out, pw_cell_below (HZ.out.trans (ba.mono HZ.out.size)) E4.out, pw_cell_below (HZ.out.trans (ba.mono HZ.out.size)) E5.out⟩ (fun hHeld => ?_)
                                                clear hK K
                                                refine norm_ (a' := ?_) ?_ ?_
                                                rotate_left
                                                · show Act.put _ (some 28) _ = _
                                                  simp only [Act.put, List.setIfInBounds_toArray, List.set_cons_zero, List.set_cons_succ, i64_w, i32_w]
                                                  rfl
                                                exact norm_ (by first | (simp only [putAll, Act.put, List.setIfInBounds_toArray, List.set_cons_zero, List.set_cons_succ]; done) | (simp only [putAll, Act.put, List.setIfInBounds_toArray, List.set_cons_zero, List.set_cons_succ]; rfl)) (hJ2_5_6 (b0, An, cn, b1) _ ⟨hHeld.1, ra, ⟨(ba.block _ (blk_lt PB1.out.1)).trans PB1.out.1, PB1.out.2⟩⟩)
                                              · skip
                                                refine value_ (w1 := ?_) (v := ?_) (by rfl) rfl ?_ ?_
                                                rotate_left 2
                                                · go_simp
                                                  constructor
                                                  · rfl
                                                  · rfl
                                                refine hK.out _ _ ⟨HZ.out.alloc HZ.out.size _, pw_cell_below (HZ.out.alloc HZ.out.size _) G0.out, pw_cell_below (HZ.out.alloc HZ.out.size _) E0.out, pw_cell_below (HZ.out.alloc HZ.out.size _) E1.out, pw_cell_below (HZ.out.alloc HZ.out.size _) E2.out, pw_cell_below (HZ.out.alloc HZ.out.size _) E3.out, pw_cell_below (HZ.out.alloc HZ.out.size _) E4.out, pw_cell_below (HZ.out.alloc HZ.out.size _) E5.out⟩ (fun hHeld => ?_)
                                                clear hK K
                                                refine norm_ (a' := ?_) ?_ ?_
                                                rotate_left
                                                · show Act.put _ (some 33) _ = _
                                                  simp only [Act.put, List.setIfInBounds_toArray, List.set_cons_zero, List.set_cons_succ, i64_w, i32_w]
                                                  rfl
                                                exact norm_ (by first | (simp only [putAll, Act.put, List.setIfInBounds_toArray, List.set_cons_zero, List.set_cons_succ]; done) | (simp only [putAll, Act.put, List.setIfInBounds_toArray, List.set_cons_zero, List.set_cons_succ]; rfl)) (hJ2_6_10 (b0, b1, wz.heap.size) _ ⟨hHeld.1, ⟨((below_alloc (Below.refl wz.heap.size wz) (.cells #[] 9)).block _ (blk_lt PB0.out.1)).trans PB0.out.1, PB0.out.2⟩, ⟨((below_alloc (Below.refl wz.heap.size wz) (.cells #[] 9)).block _ (blk_lt PB1.out.1)).trans PB1.out.1, PB1.out.2⟩, ⟨blk_new wz _, HZ.out.size⟩⟩)
                                              · skip
                                                refine value_ (w1 := ?_) (v := ?_) (by rfl) rfl ?_ ?_
                                                rotate_left 2
                                                · go_simp
                                                  constructor
                                                  · rfl
                                                  · rfl
                                                refine hK.out _ _ ⟨HZ.out.alloc HZ.out.size _, pw_cell_below (HZ.out.alloc HZ.out.size _) G0.out, pw_cell_below (HZ.out.alloc HZ.out.size _) E0.out, pw_cell_below (HZ.out.alloc HZ.out.size _) E1.out, pw_cell_below (HZ.out.alloc HZ.out.size _) E2.out, pw_cell_below (HZ.out.alloc HZ.out.size _) E3.out, pw_cell_below (HZ.out.alloc HZ.out.size _) E4.out, pw_cell_below (HZ.out.alloc HZ.out.size _) E5.out⟩ (fun hHeld => ?_)
                                                clear hK K
                                                refine norm_ (a' := ?_) ?_ ?_
                                                rotate_left
                                                · show Act.put _ (some 37) _ = _
                                                  simp only [Act.put, List.setIfInBounds_toArray, List.set_cons_zero, List.set_cons_succ, i64_w, i32_w]
                                                  rfl
                                                exact norm_ (by first | (simp only [putAll, Act.put, List.setIfInBounds_toArray, List.set_cons_zero, List.set_cons_succ]; done) | (simp only [putAll, Act.put, List.setIfInBounds_toArray, List.set_cons_zero, List.set_cons_succ]; rfl)) (hJ2_6_14 (b0, b1, wz.heap.size) _ ⟨hHeld.1, ⟨((below_alloc (Below.refl wz.heap.size wz) (.cells #[] 9)).block _ (blk_lt PB0.out.1)).trans PB0.out.1, PB0.out.2⟩, ⟨((below_alloc (Below.refl wz.heap.size wz) (.cells #[] 9)).block _ (blk_lt PB1.out.1)).trans PB1.out.1, PB1.out.2⟩, ⟨blk_new wz _, HZ.out.size⟩⟩)
                                          · skip
                                            rintro ⟨b0, A0_, c0_⟩ wz ⟨hF, hF0⟩
                                            try simp only at hF hF0
                                            have hHeld : Below w4.heap.size w4 wz ∧ wz.cell? ⟨g, 0, none⟩ = some (.slice Av k cv) ∧ wz.cell? ⟨y, 0, none⟩ = some (.slice Ao no co) ∧ wz.cell? ⟨y, 1, none⟩ = some (.slice Ai ni ci) ∧ wz.cell? ⟨y, 2, none⟩ = some (.slice Am nm cm) ∧ wz.cell? ⟨y, 3, none⟩ = some (.slice Ar nr cr) ∧ wz.cell? ⟨y, 4, none⟩ = some (.string e.cmd) ∧ wz.cell? ⟨y, 5, none⟩ = some (.string e.dep) := ⟨hF, pw_cell_below (hF) G0.out, pw_cell_below (hF) E0.out, pw_cell_below (hF) E1.out, pw_cell_below (hF) E2.out, pw_cell_below (hF) E3.out, pw_cell_below (hF) E4.out, pw_cell_below (hF) E5.out⟩
                                            have HZ := Lib.hid hF
                                            have RV0 := Lib.hid hF0
                                            clear hF hF0
                                            refine norm_ (a' := ?_) ?_ ?_
                                            rotate_left
                                            · simp only [putAll, Act.put, List.setIfInBounds_toArray, List.set_cons_zero, List.set_cons_succ]
                                              rfl
                                            refine three_ (i := 6) (j := 10) (k := 14) (Ni := some 29) (Nj := some 33) (Nk := some 37) #[true, true, true, true, true, true, true, true, true, false, false, true, true, false, false, true, true, false, true, true, true, true, false, false, false, false, false] #[true, true, true, true, true, true, false, true, true, false, true, true, true, false, false, true, true, false, true, true, true, true, false, false, false, false, false] #[true, true, true, true, true, true, false, true, true, false, false, true, true, false, true, true, true, false, true, true, true, true, false, false, false, false, false] rfl rfl rfl rfl rfl rfl (by kernel_rfl) (by decide) (by decide) (by decide) (fun K hK => ?_) (fun K hK => ?_) (fun K hK => ?_)
                                            · skip
                                              refine value_ (w1 := ?_) (v := ?_) (by rfl) rfl ?_ ?_
                                              rotate_left 2
                                              · go_simp
                                                constructor
                                                · rfl
                                                · rfl
                                              refine hK.out _ _ ⟨HZ.out.alloc HZ.out.size _, pw_cell_below (HZ.out.alloc HZ.out.size _) G0.out, pw_cell_below (HZ.out.alloc HZ.out.size _) E0.out, pw_cell_below (HZ.out.alloc HZ.out.size _) E1.out, pw_cell_below (HZ.out.alloc HZ.out.size _) E2.out, pw_cell_below (HZ.out.alloc HZ.out.size _) E3.out, pw_cell_below (HZ.out.alloc HZ.out.size _) E4.out, pw_cell_below (HZ.out.alloc HZ.out.size _) E5.out⟩ (fun hHeld => ?_)
                                              clear hK K
                                              refine norm_ (a' := ?_) ?_ ?_
                                              rotate_left
                                              · show Act.put _ (some 29) _ = _
                                                simp only [Act.put, List.setIfInBounds_toArray, List.set_cons_zero, List.set_cons_succ, i64_w, i32_w]
                                                rfl
                                              exact norm_ (by first | (simp only [putAll, Act.put, List.setIfInBounds_toArray, List.set_cons_zero, List.set_cons_succ]; done) | (simp only [putAll, Act.put, List.setIfInBounds_toArray, List.set_cons_zero, List.set_cons_succ]; rfl)) (hJ2_5_6 (b0, A0_, c0_, wz.heap.size) _ ⟨hHeld.1, Kd.R_below RV0.out (below_alloc (Below.refl wz.heap.size wz) (.cells #[] 9)), ⟨blk_new wz _, HZ.out.size⟩⟩)
                                            · skip
                                              refine value_ (w1 := ?_) (v := ?_) (by rfl) rfl ?_ ?_
                                              rotate_left 2
                                              · go_simp
                                                constructor
                                                · rfl
                                                · rfl
                                              refine hK.out _ _ ⟨HZ.out.alloc HZ.out.size _, pw_cell_below (HZ.out.alloc HZ.out.size _) G0.out, pw_cell_below (HZ.out.alloc HZ.out.size _) E0.out, pw_cell_below (HZ.out.alloc HZ.out.size _) E1.out, pw_cell_below (HZ.out.alloc HZ.out.size _) E2.out, pw_cell_below (HZ.out.alloc HZ.out.size _) E3.out, pw_cell_below (HZ.out.alloc HZ.out.size _) E4.out, pw_cell_below (HZ.out.alloc HZ.out.size _) E5.out⟩ (fun hHeld => ?_)
                                              clear hK K
                                              refine norm_ (a' := ?_) ?_ ?_
                                              rotate_left
                                              · show Act.put _ (some 33) _ = _
                                                simp only [Act.put, List.setIfInBounds_toArray, List.set_cons_zero, List.set_cons_succ, i64_w, i32_w]
                                                rfl
                                              exact norm_ (by first | (simp only [putAll, Act.put, List.setIfInBounds_toArray, List.set_cons_zero, List.set_cons_succ]; done) | (simp only [putAll, Act.put, List.setIfInBounds_toArray, List.set_cons_zero, List.set_cons_succ]; rfl)) (hJ2_5_10 (b0, A0_, c0_, wz.heap.size) _ ⟨hHeld.1, Kd.R_below RV0.out (below_alloc (Below.refl wz.heap.size wz) (.cells #[] 9)), ⟨blk_new wz _, HZ.out.size⟩⟩)
                                            · skip
                                              refine value_ (w1 := ?_) (v := ?_) (by rfl) rfl ?_ ?_
                                              rotate_left 2
                                              · go_simp
                                                constructor
                                                · rfl
                                                · rfl
                                              refine hK.out _ _ ⟨HZ.out.alloc HZ.out.size _, pw_cell_below (HZ.out.alloc HZ.out.size _) G0.out, pw_cell_below (HZ.out.alloc HZ.out.size _) E0.out, pw_cell_below (HZ.out.alloc HZ.out.size _) E1.out, pw_cell_below (HZ.out.alloc HZ.out.size _) E2.out, pw_cell_below (HZ.out.alloc HZ.out.size _) E3.out, pw_cell_below (HZ.out.alloc HZ.out.size _) E4.out, pw_cell_below (HZ.out.alloc HZ.out.size _) E5.out⟩ (fun hHeld => ?_)
                                              clear hK K
                                              refine norm_ (a' := ?_) ?_ ?_
                                              rotate_left
                                              · show Act.put _ (some 37) _ = _
                                                simp only [Act.put, List.setIfInBounds_toArray, List.set_cons_zero, List.set_cons_succ, i64_w, i32_w]
                                                rfl
                                              exact norm_ (by first | (simp only [putAll, Act.put, List.setIfInBounds_toArray, List.set_cons_zero, List.set_cons_succ]; done) | (simp only [putAll, Act.put, List.setIfInBounds_toArray, List.set_cons_zero, List.set_cons_succ]; rfl)) (hJ2_5_14 (b0, A0_, c0_, wz.heap.size) _ ⟨hHeld.1, Kd.R_below RV0.out (below_alloc (Below.refl wz.heap.size wz) (.cells #[] 9)), ⟨blk_new wz _, HZ.out.size⟩⟩)
                                        · skip
                                          rintro ⟨b1, b2, b3⟩ wz ⟨hF, hF1, hF2, hF3⟩
                                          try simp only at hF hF1 hF2 hF3
                                          have hHeld : Below w4.heap.size w4 wz ∧ wz.cell? ⟨g, 0, none⟩ = some (.slice Av k cv) ∧ wz.cell? ⟨y, 0, none⟩ = some (.slice Ao no co) ∧ wz.cell? ⟨y, 1, none⟩ = some (.slice Ai ni ci) ∧ wz.cell? ⟨y, 2, none⟩ = some (.slice Am nm cm) ∧ wz.cell? ⟨y, 3, none⟩ = some (.slice Ar nr cr) ∧ wz.cell? ⟨y, 4, none⟩ = some (.string e.cmd) ∧ wz.cell? ⟨y, 5, none⟩ = some (.string e.dep) := ⟨hF, pw_cell_below (hF) G0.out, pw_cell_below (hF) E0.out, pw_cell_below (hF) E1.out, pw_cell_below (hF) E2.out, pw_cell_below (hF) E3.out, pw_cell_below (hF) E4.out, pw_cell_below (hF) E5.out⟩
                                          have HZ := Lib.hid hF
                                          have PB1 := Lib.hid hF1
                                          have PB2 := Lib.hid hF2
                                          have PB3 := Lib.hid hF3
                                          clear hF hF1 hF2 hF3
                                          refine norm_ (a' := ?_) ?_ ?_
                                          rotate_left
                                          · simp only [putAll, Act.put, List.setIfInBounds_toArray, List.set_cons_zero, List.set_cons_succ]
                                            rfl
                                          refine one_ (i := 2) (N := some 25) #[true, true, true, true, true, false, true, true, true, false, true, true, true, false, true, true, true, false, true, true, true, true, false, false, false, false, false] rfl rfl (by kernel_rfl) (by decide) (fun K hK => ?_)
                                          refine value_ (w1 := ?_) (v := ?_) (by rfl) rfl ?_ ?_
                                          rotate_left 2
                                          · go_simp
                                            constructor
                                            · rfl
                                            · rfl
                                          refine hK.out _ _ ⟨HZ.out.alloc HZ.out.size _, pw_cell_below (HZ.out.alloc HZ.out.size _) G0.out, pw_cell_below (HZ.out.alloc HZ.out.size _) E0.out, pw_cell_below (HZ.out.alloc HZ.out.size _) E1.out, pw_cell_below (HZ.out.alloc HZ.out.size _) E2.out, pw_cell_below (HZ.out.alloc HZ.out.size _) E3.out, pw_cell_below (HZ.out.alloc HZ.out.size _) E4.out, pw_cell_below (HZ.out.alloc HZ.out.size _) E5.out⟩ (fun hHeld => ?_)
                                          clear hK K
                                          refine norm_ (a' := ?_) ?_ ?_
                                          rotate_left
                                          · show Act.put _ (some 25) _ = _
                                            simp only [Act.put, List.setIfInBounds_toArray, List.set_cons_zero, List.set_cons_succ, i64_w, i32_w]
                                            rfl
                                          exact norm_ (by first | (simp only [putAll, Act.put, List.setIfInBounds_toArray, List.set_cons_zero, List.set_cons_succ]; done) | (simp only [putAll, Act.put, List.setIfInBounds_toArray, List.set_cons_zero, List.set_cons_succ]; rfl)) (hJ2_6_10_14 (wz.heap.size, b1, b2, b3) _ ⟨hHeld.1, ⟨blk_new wz _, HZ.out.size⟩, ⟨((below_alloc (Below.refl wz.heap.size wz) (.cells #[] 9)).block _ (blk_lt PB1.out.1)).trans PB1.out.1, PB1.out.2⟩, ⟨((below_alloc (Below.refl wz.heap.size wz) (.cells #[] 9)).block _ (blk_lt PB2.out.1)).trans PB2.out.1, PB2.out.2⟩, ⟨((below_alloc (Below.refl wz.heap.size wz) (.cells #[] 9)).block _ (blk_lt PB3.out.1)).trans PB3.out.1, PB3.out.2⟩⟩)
                                      · skip
                                        rintro ⟨b0, b2, b3⟩ wz ⟨hF, hF0, hF2, hF3⟩
                                        try simp only at hF hF0 hF2 hF3
                                        have hHeld : Below w4.heap.size w4 wz ∧ wz.cell? ⟨g, 0, none⟩ = some (.slice Av k cv) ∧ wz.cell? ⟨y, 0, none⟩ = some (.slice Ao no co) ∧ wz.cell? ⟨y, 1, none⟩ = some (.slice Ai ni ci) ∧ wz.cell? ⟨y, 2, none⟩ = some (.slice Am nm cm) ∧ wz.cell? ⟨y, 3, none⟩ = some (.slice Ar nr cr) ∧ wz.cell? ⟨y, 4, none⟩ = some (.string e.cmd) ∧ wz.cell? ⟨y, 5, none⟩ = some (.string e.dep) := ⟨hF, pw_cell_below (hF) G0.out, pw_cell_below (hF) E0.out, pw_cell_below (hF) E1.out, pw_cell_below (hF) E2.out, pw_cell_below (hF) E3.out, pw_cell_below (hF) E4.out, pw_cell_below (hF) E5.out⟩
                                        have HZ := Lib.hid hF
                                        have PB0 := Lib.hid hF0
                                        have PB2 := Lib.hid hF2
                                        have PB3 := Lib.hid hF3
                                        clear hF hF0 hF2 hF3
                                        refine norm_ (a' := ?_) ?_ ?_
                                        rotate_left
                                        · simp only [putAll, Act.put, List.setIfInBounds_toArray, List.set_cons_zero, List.set_cons_succ]
                                          rfl
                                        refine two_ (i := 5) (j := 6) (Ni := some 28) (Nj := some 29) #[true, true, true, true, true, true, false, true, true, false, true, true, true, false, true, true, true, false, true, true, true, true, false, false, false, false, false] #[true, true, true, true, true, false, true, true, true, false, true, true, true, false, true, true, true, false, true, true, true, true, false, false, false, false, false] rfl rfl rfl rfl (by kernel_rfl) (by decide) (by decide) (fun K hK => ?_) (fun K hK => ?_)
                                        · skip
                                          refine app_empty_step w4.heap.size rfl (.tmp 25) (.tmp 27) rfl b0 Ao no co e.outs rfl rfl PB0.out.1 PB0.out.2 HZ.out.size (SO.out.below HZ.out) (by omega) ?_
                                          intro va wa ra ba
                                          obtain ⟨An, cn, ea⟩ := Kd.R_slice ra
                                          rw [← HNO.out] at ea
                                          subst ea
                                          skip
                                          refine hK.out _ _ ⟨HZ.out.trans (ba.mono HZ.out.size), pw_cell_below (HZ.out.trans (ba.mono HZ.out.size)) G0.out, pw_cell_below (HZ.out.trans (ba.mono HZ.out.size)) E0.out, pw_cell_below (HZ.out.trans (ba.mono HZ.out.size)) E1.out, pw_cell_below (HZ.out.trans (ba.mono HZ.out.size)) E2.out, pw_cell_below (HZ.out.trans (ba.mono HZ.out.size)) E3.out, pw_cell_below (HZ.out.trans (ba.mono HZ.out.size)) E4.out, pw_cell_below (HZ.out.trans (ba.mono HZ.out.size)) E5.out⟩ (fun hHeld => ?_)
                                          clear hK K
                                          refine norm_ (a' := ?_) ?_ ?_
                                          rotate_left
                                          · show Act.put _ (some 28) _ = _
                                            simp only [Act.put, List.setIfInBounds_toArray, List.set_cons_zero, List.set_cons_succ, i64_w, i32_w]
                                            rfl
                                          exact norm_ (by first | (simp only [putAll, Act.put, List.setIfInBounds_toArray, List.set_cons_zero, List.set_cons_succ]; done) | (simp only [putAll, Act.put, List.setIfInBounds_toArray, List.set_cons_zero, List.set_cons_succ]; rfl)) (hJ2_5_10_14 (b0, An, cn, b2, b3) _ ⟨hHeld.1, ra, ⟨(ba.block _ (blk_lt PB2.out.1)).trans PB2.out.1, PB2.out.2⟩, ⟨(ba.block _ (blk_lt PB3.out.1)).trans PB3.out.1, PB3.out.2⟩⟩)
                                        · skip
                                          refine value_ (w1 := ?_) (v := ?_) (by rfl) rfl ?_ ?_
                                          rotate_left 2
                                          · go_simp
                                            constructor
                                            · rfl
                                            · rfl
                                          refine hK.out _ _ ⟨HZ.out.alloc HZ.out.size _, pw_cell_below (HZ.out.alloc HZ.out.size _) G0.out, pw_cell_below (HZ.out.alloc HZ.out.size _) E0.out, pw_cell_below (HZ.out.alloc HZ.out.size _) E1.out, pw_cell_below (HZ.out.alloc HZ.out.size _) E2.out, pw_cell_below (HZ.out.alloc HZ.out.size _) E3.out, pw_cell_below (HZ.out.alloc HZ.out.size _) E4.out, pw_cell_below (HZ.out.alloc HZ.out.size _) E5.out⟩ (fun hHeld => ?_)
                                          clear hK K
                                          refine norm_ (a' := ?_) ?_ ?_
                                          rotate_left
                                          · show Act.put _ (some 29) _ = _
                                            simp only [Act.put, List.setIfInBounds_toArray, List.set_cons_zero, List.set_cons_succ, i64_w, i32_w]
                                            rfl
                                          exact norm_ (by first | (simp only [putAll, Act.put, List.setIfInBounds_toArray, List.set_cons_zero, List.set_cons_succ]; done) | (simp only [putAll, Act.put, List.setIfInBounds_toArray, List.set_cons_zero, List.set_cons_succ]; rfl)) (hJ2_6_10_14 (b0, wz.heap.size, b2, b3) _ ⟨hHeld.1, ⟨((below_alloc (Below.refl wz.heap.size wz) (.cells #[] 9)).block _ (blk_lt PB0.out.1)).trans PB0.out.1, PB0.out.2⟩, ⟨blk_new wz _, HZ.out.size⟩, ⟨((below_alloc (Below.refl wz.heap.size wz) (.cells #[] 9)).block _ (blk_lt PB2.out.1)).trans PB2.out.1, PB2.out.2⟩, ⟨((below_alloc (Below.refl wz.heap.size wz) (.cells #[] 9)).block _ (blk_lt PB3.out.1)).trans PB3.out.1, PB3.out.2⟩⟩)
                                    · skip
                                      rintro ⟨b0, b1, b3⟩ wz ⟨hF, hF0, hF1, hF3⟩
                                      try simp only at hF hF0 hF1 hF3
                                      have hHeld : Below w4.heap.size w4 wz ∧ wz.cell? ⟨g, 0, none⟩ = some (.slice Av k cv) ∧ wz.cell? ⟨y, 0, none⟩ = some (.slice Ao no co) ∧ wz.cell? ⟨y, 1, none⟩ = some (.slice Ai ni ci) ∧ wz.cell? ⟨y, 2, none⟩ = some (.slice Am nm cm) ∧ wz.cell? ⟨y, 3, none⟩ = some (.slice Ar nr cr) ∧ wz.cell? ⟨y, 4, none⟩ = some (.string e.cmd) ∧ wz.cell? ⟨y, 5, none⟩ = some (.string e.dep) := ⟨hF, pw_cell_below (hF) G0.out, pw_cell_below (hF) E0.out, pw_cell_below (hF) E1.out, pw_cell_below (hF) E2.out, pw_cell_below (hF) E3.out, pw_cell_below (hF) E4.out, pw_cell_below (hF) E5.out⟩
                                      have HZ := Lib.hid hF
                                      have PB0 := Lib.hid hF0
                                      have PB1 := Lib.hid hF1
                                      have PB3 := Lib.hid hF3
                                      clear hF hF0 hF1 hF3
                                      refine norm_ (a' := ?_) ?_ ?_
                                      rotate_left
                                      · simp only [putAll, Act.put, List.setIfInBounds_toArray, List.set_cons_zero, List.set_cons_succ]
                                        rfl
                                      refine two_ (i := 5) (j := 10) (Ni := some 28) (Nj := some 33) #[true, true, true, true, true, true, true, true, true, false, false, true, true, false, true, true, true, false, true, true, true, true, false, false, false, false, false] #[true, true, true, true, true, false, true, true, true, false, true, true, true, false, true, true, true, false, true, true, true, true, false, false, false, false, false] rfl rfl rfl rfl (by kernel_rfl) (by decide) (by decide) (fun K hK => ?_) (fun K hK => ?_)
                                      · skip
                                        refine app_empty_step w4.heap.size rfl (.tmp 25) (.tmp 27) rfl b0 Ao no co e.outs rfl rfl PB0.out.1 PB0.out.2 HZ.out.size (SO.out.below HZ.out) (by omega) ?_
                                        intro va wa ra ba
                                        obtain ⟨An, cn, ea⟩ := Kd.R_slice ra
                                        rw [← HNO.out] at ea
                                        subst ea
                                        skip
                                        refine hK.out _ _ ⟨HZ.out.trans (ba.mono HZ.out.size), pw_cell_below (HZ.out.trans (ba.mono HZ.out.size)) G0.out, pw_cell_below (HZ.out.trans (ba.mono HZ.out.size)) E0.out, pw_cell_below (HZ.out.trans (ba.mono HZ.out.size)) E1.out, pw_cell_below (HZ.out.trans (ba.mono HZ.out.size)) E2.out, pw_cell_below (HZ.out.trans (ba.mono HZ.out.size)) E3.out, pw_cell_below (HZ.out.trans (ba.mono HZ.out.size)) E4.out, pw_cell_below (HZ.out.trans (ba.mono HZ.out.size)) E5.out⟩ (fun hHeld => ?_)
                                        clear hK K
                                        refine norm_ (a' := ?_) ?_ ?_
                                        rotate_left
                                        · show Act.put _ (some 28) _ = _
                                          simp only [Act.put, List.setIfInBounds_toArray, List.set_cons_zero, List.set_cons_succ, i64_w, i32_w]
                                          rfl
                                        exact norm_ (by first | (simp only [putAll, Act.put, List.setIfInBounds_toArray, List.set_cons_zero, List.set_cons_succ]; done) | (simp only [putAll, Act.put, List.setIfInBounds_toArray, List.set_cons_zero, List.set_cons_succ]; rfl)) (hJ2_5_6_14 (b0, An, cn, b1, b3) _ ⟨hHeld.1, ra, ⟨(ba.block _ (blk_lt PB1.out.1)).trans PB1.out.1, PB1.out.2⟩, ⟨(ba.block _ (blk_lt PB3.out.1)).trans PB3.out.1, PB3.out.2⟩⟩)
                                      · skip
                                        refine value_ (w1 := ?_) (v := ?_) (by rfl) rfl ?_ ?_
                                        rotate_left 2
                                        · go_simp
                                          constructor
                                          · rfl
                                          · rfl
                                        refine hK.out _ _ ⟨HZ.out.alloc HZ.out.size _, pw_cell_below (HZ.out.alloc HZ.out.size _) G0.out, pw_cell_below (HZ.out.alloc HZ.out.size _) E0.out, pw_cell_below (HZ.out.alloc HZ.out.size _) E1.out, pw_cell_below (HZ.out.alloc HZ.out.size _) E2.out, pw_cell_below (HZ.out.alloc HZ.out.size _) E3.out, pw_cell_below (HZ.out.alloc HZ.out.size _) E4.out, pw_cell_below (HZ.out.alloc HZ.out.size _) E5.out⟩ (fun hHeld => ?_)
                                        clear hK K
                                        refine norm_ (a' := ?_) ?_ ?_
                                        rotate_left
                                        · show Act.put _ (some 33) _ = _
                                          simp only [Act.put, List.setIfInBounds_toArray, List.set_cons_zero, List.set_cons_succ, i64_w, i32_w]
                                          rfl
                                        exact norm_ (by first | (simp only [putAll, Act.put, List.setIfInBounds_toArray, List.set_cons_zero, List.set_cons_succ]; done) | (simp only [putAll, Act.put, List.setIfInBounds_toArray, List.set_cons_zero, List.set_cons_succ]; rfl)) (hJ2_6_10_14 (b0, b1, wz.heap.size, b3) _ ⟨hHeld.1, ⟨((below_alloc (Below.refl wz.heap.size wz) (.cells #[] 9)).block _ (blk_lt PB0.out.1)).trans PB0.out.1, PB0.out.2⟩, ⟨((below_alloc (Below.refl wz.heap.size wz) (.cells #[] 9)).block _ (blk_lt PB1.out.1)).trans PB1.out.1, PB1.out.2⟩, ⟨blk_new wz _, HZ.out.size⟩, ⟨((below_alloc (Below.refl wz.heap.size wz) (.cells #[] 9)).block _ (blk_lt PB3.out.1)).trans PB3.out.1, PB3.out.2⟩⟩)
                                  · skip
                                    rintro ⟨b0, b1, b2⟩ wz ⟨hF, hF0, hF1, hF2⟩
                                    try simp only at hF hF0 hF1 hF2
                                    have hHeld : Below w4.heap.size w4 wz ∧ wz.cell? ⟨g, 0, none⟩ = some (.slice Av k cv) ∧ wz.cell? ⟨y, 0, none⟩ = some (.slice Ao no co) ∧ wz.cell? ⟨y, 1, none⟩ = some (.slice Ai ni ci) ∧ wz.cell? ⟨y, 2, none⟩ = some (.slice Am nm cm) ∧ wz.cell? ⟨y, 3, none⟩ = some (.slice Ar nr cr) ∧ wz.cell? ⟨y, 4, none⟩ = some (.string e.cmd) ∧ wz.cell? ⟨y, 5, none⟩ = some (.string e.dep) := ⟨hF, pw_cell_below (hF) G0.out, pw_cell_below (hF) E0.out, pw_cell_below (hF) E1.out, pw_cell_below (hF) E2.out, pw_cell_below (hF) E3.out, pw_cell_below (hF) E4.out, pw_cell_below (hF) E5.out⟩
                                    have HZ := Lib.hid hF
                                    have PB0 := Lib.hid hF0
                                    have PB1 := Lib.hid hF1
                                    have PB2 := Lib.hid hF2
                                    clear hF hF0 hF1 hF2
                                    refine norm_ (a' := ?_) ?_ ?_
                                    rotate_left
                                    · simp only [putAll, Act.put, List.setIfInBounds_toArray, List.set_cons_zero, List.set_cons_succ]
                                      rfl
                                    refine two_ (i := 5) (j := 14) (Ni := some 28) (Nj := some 37) #[true, true, true, true, true, true, true, true, true, false, true, true, true, false, false, true, true, false, true, true, true, true, false, false, false, false, false] #[true, true, true, true, true, false, true, true, true, false, true, true, true, false, true, true, true, false, true, true, true, true, false, false, false, false, false] rfl rfl rfl rfl (by kernel_rfl) (by decide) (by decide) (fun K hK => ?_) (fun K hK => ?_)
                                    · skip
                                      refine app_empty_step w4.heap.size rfl (.tmp 25) (.tmp 27) rfl b0 Ao no co e.outs rfl rfl PB0.out.1 PB0.out.2 HZ.out.size (SO.out.below HZ.out) (by omega) ?_
                                      intro va wa ra ba
                                      obtain ⟨An, cn, ea⟩ := Kd.R_slice ra
                                      rw [← HNO.out] at ea
                                      subst ea
                                      skip
                                      refine hK.out _ _ ⟨HZ.out.trans (ba.mono HZ.out.size), pw_cell_below (HZ.out.trans (ba.mono HZ.out.size)) G0.out, pw_cell_below (HZ.out.trans (ba.mono HZ.out.size)) E0.out, pw_cell_below (HZ.out.trans (ba.mono HZ.out.size)) E1.out, pw_cell_below (HZ.out.trans (ba.mono HZ.out.size)) E2.out, pw_cell_below (HZ.out.trans (ba.mono HZ.out.size)) E3.out, pw_cell_below (HZ.out.trans (ba.mono HZ.out.size)) E4.out, pw_cell_below (HZ.out.trans (ba.mono HZ.out.size)) E5.out⟩ (fun hHeld => ?_)
                                      clear hK K
                                      refine norm_ (a' := ?_) ?_ ?_
                                      rotate_left
                                      · show Act.put _ (some 28) _ = _
                                        simp only [Act.put, List.setIfInBounds_toArray, List.set_cons_zero, List.set_cons_succ, i64_w, i32_w]
                                        rfl
                                      exact norm_ (by first | (simp only [putAll, Act.put, List.setIfInBounds_toArray, List.set_cons_zero, List.set_cons_succ]; done) | (simp only [putAll, Act.put, List.setIfInBounds_toArray, List.set_cons_zero, List.set_cons_succ]; rfl)) (hJ2_5_6_10 (b0, An, cn, b1, b2) _ ⟨hHeld.1, ra, ⟨(ba.block _ (blk_lt PB1.out.1)).trans PB1.out.1, PB1.out.2⟩, ⟨(ba.block _ (blk_lt PB2.out.1)).trans PB2.out.1, PB2.out.2⟩⟩)
                                    · skip
                                      refine value_ (w1 := ?_) (v := ?_) (by rfl) rfl ?_ ?_
                                      rotate_left 2
                                      · go_simp
                                        constructor
                                        · rfl
                                        · rfl
                                      refine hK.out _ _ ⟨HZ.out.alloc HZ.out.size _, pw_cell_below (HZ.out.alloc HZ.out.size _) G0.out, pw_cell_below (HZ.out.alloc HZ.out.size _) E0.out, pw_cell_below (HZ.out.alloc HZ.out.size _) E1.out, pw_cell_below (HZ.out.alloc HZ.out.size _) E2.out, pw_cell_below (HZ.out.alloc HZ.out.size _) E3.out, pw_cell_below (HZ.out.alloc HZ.out.size _) E4.out, pw_cell_below (HZ.out.alloc HZ.out.size _) E5.out⟩ (fun hHeld => ?_)
                                      clear hK K
                                      refine norm_ (a' := ?_) ?_ ?_
                                      rotate_left
                                      · show Act.put _ (some 37) _ = _
                                        simp only [Act.put, List.setIfInBounds_toArray, List.set_cons_zero, List.set_cons_succ, i64_w, i32_w]
                                        rfl
                                      exact norm_ (by first | (simp only [putAll, Act.put, List.setIfInBounds_toArray, List.set_cons_zero, List.set_cons_succ]; done) | (simp only [putAll, Act.put, List.setIfInBounds_toArray, List.set_cons_zero, List.set_cons_succ]; rfl)) (hJ2_6_10_14 (b0, b1, b2, wz.heap.size) _ ⟨hHeld.1, ⟨((below_alloc (Below.refl wz.heap.size wz) (.cells #[] 9)).block _ (blk_lt PB0.out.1)).trans PB0.out.1, PB0.out.2⟩, ⟨((below_alloc (Below.refl wz.heap.size wz) (.cells #[] 9)).block _ (blk_lt PB1.out.1)).trans PB1.out.1, PB1.out.2⟩, ⟨((below_alloc (Below.refl wz.heap.size wz) (.cells #[] 9)).block _ (blk_lt PB2.out.1)).trans PB2.out.1, PB2.out.2⟩, ⟨blk_new wz _, HZ.out.size⟩⟩)
                                · skip
                                  rintro ⟨b0, A0_, c0_, b3⟩ wz ⟨hF, hF0, hF3⟩
                                  try simp only at hF hF0 hF3
                                  have hHeld : Below w4.heap.size w4 wz ∧ wz.cell? ⟨g, 0, none⟩ = some (.slice Av k cv) ∧ wz.cell? ⟨y, 0, none⟩ = some (.slice Ao no co) ∧ wz.cell? ⟨y, 1, none⟩ = some (.slice Ai ni ci) ∧ wz.cell? ⟨y, 2, none⟩ = some (.slice Am nm cm) ∧ wz.cell? ⟨y, 3, none⟩ = some (.slice Ar nr cr) ∧ wz.cell? ⟨y, 4, none⟩ = some (.string e.cmd) ∧ wz.cell? ⟨y, 5, none⟩ = some (.string e.dep) := ⟨hF, pw_cell_below (hF) G0.out, pw_cell_below (hF) E0.out, pw_cell_below (hF) E1.out, pw_cell_below (hF) E2.out, pw_cell_below (hF) E3.out, pw_cell_below (hF) E4.out, pw_cell_below (hF) E5.out⟩
                                  have HZ := Lib.hid hF
                                  have RV0 := Lib.hid hF0
                                  have PB3 := Lib.hid hF3
                                  clear hF hF0 hF3
                                  refine norm_ (a' := ?_) ?_ ?_
                                  rotate_left
                                  · simp only [putAll, Act.put, List.setIfInBounds_toArray, List.set_cons_zero, List.set_cons_succ]
                                    rfl
                                  refine two_ (i := 6) (j := 10) (Ni := some 29) (Nj := some 33) #[true, true, true, true, true, true, true, true, true, false, false, true, true, false, true, true, true, false, true, true, true, true, false, false, false, false, false] #[true, true, true, true, true, true, false, true, true, false, true, true, true, false, true, true, true, false, true, true, true, true, false, false, false, false, false] rfl rfl rfl rfl (by kernel_rfl) (by decide) (by decide) (fun K hK => ?_) (fun K hK => ?_)
                                  · skip
                                    refine value_ (w1 := ?_) (v := ?_) (by rfl) rfl ?_ ?_
                                    rotate_left 2
                                    · go_simp
                                      constructor
                                      · rfl
                                      · rfl
                                    refine hK.out _ _ ⟨HZ.out.alloc HZ.out.size _, pw_cell_below (HZ.out.alloc HZ.out.size _) G0.out, pw_cell_below (HZ.out.alloc HZ.out.size _) E0.out, pw_cell_below (HZ.out.alloc HZ.out.size _) E1.out, pw_cell_below (HZ.out.alloc HZ.out.size _) E2.out, pw_cell_below (HZ.out.alloc HZ.out.size _) E3.out, pw_cell_below (HZ.out.alloc HZ.out.size _) E4.out, pw_cell_below (HZ.out.alloc HZ.out.size _) E5.out⟩ (fun hHeld => ?_)
                                    clear hK K
                                    refine norm_ (a' := ?_) ?_ ?_
                                    rotate_left
                                    · show Act.put _ (some 29) _ = _
                                      simp only [Act.put, List.setIfInBounds_toArray, List.set_cons_zero, List.set_cons_succ, i64_w, i32_w]
                                      rfl
                                    exact norm_ (by first | (simp only [putAll, Act.put, List.setIfInBounds_toArray, List.set_cons_zero, List.set_cons_succ]; done) | (simp only [putAll, Act.put, List.setIfInBounds_toArray, List.set_cons_zero, List.set_cons_succ]; rfl)) (hJ2_5_6_14 (b0, A0_, c0_, wz.heap.size, b3) _ ⟨hHeld.1, Kd.R_below RV0.out (below_alloc (Below.refl wz.heap.size wz) (.cells #[] 9)), ⟨blk_new wz _, HZ.out.size⟩, ⟨((below_alloc (Below.refl wz.heap.size wz) (.cells #[] 9)).block _ (blk_lt PB3.out.1)).trans PB3.out.1, PB3.out.2⟩⟩)
                                  · skip
                                    refine value_ (w1 := ?_) (v := ?_) (by rfl) rfl ?_ ?_
                                    rotate_left 2
                                    · go_simp
                                      constructor
                                      · rfl
                                      · rfl
                                    refine hK.out _ _ ⟨HZ.out.alloc HZ.out.size _, pw_cell_below (HZ.out.alloc HZ.out.size _) G0.out, pw_cell_below (HZ.out.alloc HZ.out.size _) E0.out, pw_cell_below (HZ.out.alloc HZ.out.size _) E1.out, pw_cell_below (HZ.out.alloc HZ.out.size _) E2.out, pw_cell_below (HZ.out.alloc HZ.out.size _) E3.out, pw_cell_below (HZ.out.alloc HZ.out.size _) E4.out, pw_cell_below (HZ.out.alloc HZ.out.size _) E5.out⟩ (fun hHeld => ?_)
                                    clear hK K
                                    refine norm_ (a' := ?_) ?_ ?_
                                    rotate_left
                                    · show Act.put _ (some 33) _ = _
                                      simp only [Act.put, List.setIfInBounds_toArray, List.set_cons_zero, List.set_cons_succ, i64_w, i32_w]
                                      rfl
                                    exact norm_ (by first | (simp only [putAll, Act.put, List.setIfInBounds_toArray, List.set_cons_zero, List.set_cons_succ]; done) | (simp only [putAll, Act.put, List.setIfInBounds_toArray, List.set_cons_zero, List.set_cons_succ]; rfl)) (hJ2_5_10_14 (b0, A0_, c0_, wz.heap.size, b3) _ ⟨hHeld.1, Kd.R_below RV0.out (below_alloc (Below.refl wz.heap.size wz) (.cells #[] 9)), ⟨blk_new wz _, HZ.out.size⟩, ⟨((below_alloc (Below.refl wz.heap.size wz) (.cells #[] 9)).block _ (blk_lt PB3.out.1)).trans PB3.out.1, PB3.out.2⟩⟩)
                              · skip
                                rintro ⟨b0, A0_, c0_, b2⟩ wz ⟨hF, hF0, hF2⟩
                                try simp only at hF hF0 hF2
                                have hHeld : Below w4.heap.size w4 wz ∧ wz.cell? ⟨g, 0, none⟩ = some (.slice Av k cv) ∧ wz.cell? ⟨y, 0, none⟩ = some (.slice Ao no co) ∧ wz.cell? ⟨y, 1, none⟩ = some (.slice Ai ni ci) ∧ wz.cell? ⟨y, 2, none⟩ = some (.slice Am nm cm) ∧ wz.cell? ⟨y, 3, none⟩ = some (.slice Ar nr cr) ∧ wz.cell? ⟨y, 4, none⟩ = some (.string e.cmd) ∧ wz.cell? ⟨y, 5, none⟩ = some (.string e.dep) := ⟨hF, pw_cell_below (hF) G0.out, pw_cell_below (hF) E0.out, pw_cell_below (hF) E1.out, pw_cell_below (hF) E2.out, pw_cell_below (hF) E3.out, pw_cell_below (hF) E4.out, pw_cell_below (hF) E5.out⟩
                                have HZ := Lib.hid hF
                                have RV0 := Lib.hid hF0
                                have PB2 := Lib.hid hF2
                                clear hF hF0 hF2
                                refine norm_ (a' := ?_) ?_ ?_
                                rotate_left
                                · simp only [putAll, Act.put, List.setIfInBounds_toArray, List.set_cons_zero, List.set_cons_succ]
                                  rfl
                                refine two_ (i := 6) (j := 14) (Ni := some 29) (Nj := some 37) #[true, true, true, true, true, true, true, true, true, false, true, true, true, false, false, true, true, false, true, true, true, true, false, false, false, false, false] #[true, true, true, true, true, true, false, true, true, false, true, true, true, false, true, true, true, false, true, true, true, true, false, false, false, false, false] rfl rfl rfl rfl (by kernel_rfl) (by decide) (by decide) (fun K hK => ?_) (fun K hK => ?_)
                                · skip
                                  refine value_ (w1 := ?_) (v := ?_) (by rfl) rfl ?_ ?_
                                  rotate_left 2
                                  · go_simp
                                    constructor
                                    · rfl
                                    · rfl
                                  refine hK.out _ _ ⟨HZ.out.alloc HZ.out.size _, pw_cell_below (HZ.out.alloc HZ.out.size _) G0.out, pw_cell_below (HZ.out.alloc HZ.out.size _) E0.out, pw_cell_below (HZ.out.alloc HZ.out.size _) E1.out, pw_cell_below (HZ.out.alloc HZ.out.size _) E2.out, pw_cell_below (HZ.out.alloc HZ.out.size _) E3.out, pw_cell_below (HZ.out.alloc HZ.out.size _) E4.out, pw_cell_below (HZ.out.alloc HZ.out.size _) E5.out⟩ (fun hHeld => ?_)
                                  clear hK K
                                  refine norm_ (a' := ?_) ?_ ?_
                                  rotate_left
                                  · show Act.put _ (some 29) _ = _
                                    simp only [Act.put, List.setIfInBounds_toArray, List.set_cons_zero, List.set_cons_succ, i64_w, i32_w]
                                    rfl
                                  exact norm_ (by first | (simp only [putAll, Act.put, List.setIfInBounds_toArray, List.set_cons_zero, List.set_cons_succ]; done) | (simp only [putAll, Act.put, List.setIfInBounds_toArray, List.set_cons_zero, List.set_cons_succ]; rfl)) (hJ2_5_6_10 (b0, A0_, c0_, wz.heap.size, b2) _ ⟨hHeld.1, Kd.R_below RV0.out (below_alloc (Below.refl wz.heap.size wz) (.cells #[] 9)), ⟨blk_new wz _, HZ.out.size⟩, ⟨((below_alloc (Below.refl wz.heap.size wz) (.cells #[] 9)).block _ (blk_lt PB2.out.1)).trans PB2.out.1, PB2.out.2⟩⟩)
                                · skip
                                  refine value_ (w1 := ?_) (v := ?_) (by rfl) rfl ?_ ?_
                                  rotate_left 2
                                  · go_simp
                                    constructor
                                    · rfl
                                    · rfl
                                  refine hK.out _ _ ⟨HZ.out.alloc HZ.out.size _, pw_cell_below (HZ.out.alloc HZ.out.size _) G0.out, pw_cell_below (HZ.out.alloc HZ.out.size _) E0.out, pw_cell_below (HZ.out.alloc HZ.out.size _) E1.out, pw_cell_below (HZ.out.alloc HZ.out.size _) E2.out, pw_cell_below (HZ.out.alloc HZ.out.size _) E3.out, pw_cell_below (HZ.out.alloc HZ.out.size _) E4.out, pw_cell_below (HZ.out.alloc HZ.out.size _) E5.out⟩ (fun hHeld => ?_)
                                  clear hK K
                                  refine norm_ (a' := ?_) ?_ ?_
                                  rotate_left
                                  · show Act.put _ (some 37) _ = _
                                    simp only [Act.put, List.setIfInBounds_toArray, List.set_cons_zero, List.set_cons_succ, i64_w, i32_w]
                                    rfl
                                  exact norm_ (by first | (simp only [putAll, Act.put, List.setIfInBounds_toArray, List.set_cons_zero, List.set_cons_succ]; done) | (simp only [putAll, Act.put, List.setIfInBounds_toArray, List.set_cons_zero, List.set_cons_succ]; rfl)) (hJ2_5_10_14 (b0, A0_, c0_, b2, wz.heap.size) _ ⟨hHeld.1, Kd.R_below RV0.out (below_alloc (Below.refl wz.heap.size wz) (.cells #[] 9)), ⟨((below_alloc (Below.refl wz.heap.size wz) (.cells #[] 9)).block _ (blk_lt PB2.out.1)).trans PB2.out.1, PB2.out.2⟩, ⟨blk_new wz _, HZ.out.size⟩⟩)
                            · skip
                              rintro ⟨b0, A0_, c0_, b1⟩ wz ⟨hF, hF0, hF1⟩
                              try simp only at hF hF0 hF1
                              have hHeld : Below w4.heap.size w4 wz ∧ wz.cell? ⟨g, 0, none⟩ = some (.slice Av k cv) ∧ wz.cell? ⟨y, 0, none⟩ = some (.slice Ao no co) ∧ wz.cell? ⟨y, 1, none⟩ = some (.slice Ai ni ci) ∧ wz.cell? ⟨y, 2, none⟩ = some (.slice Am nm cm) ∧ wz.cell? ⟨y, 3, none⟩ = some (.slice Ar nr cr) ∧ wz.cell? ⟨y, 4, none⟩ = some (.string e.cmd) ∧ wz.cell? ⟨y, 5, none⟩ = some (.string e.dep) := ⟨hF, pw_cell_below (hF) G0.out, pw_cell_below (hF) E0.out, pw_cell_below (hF) E1.out, pw_cell_below (hF) E2.out, pw_cell_below (hF) E3.out, pw_cell_below (hF) E4.out, pw_cell_below (hF) E5.out⟩
                              have HZ := Lib.hid hF
                              have RV0 := Lib.hid hF0
                              have PB1 := Lib.hid hF1
                              clear hF hF0 hF1
                              refine norm_ (a' := ?_) ?_ ?_
                              rotate_left
                              · simp only [putAll, Act.put, List.setIfInBounds_toArray, List.set_cons_zero, List.set_cons_succ]
                                rfl
                              refine three_ (i := 9) (j := 10) (k := 14) (Ni := some 32) (Nj := some 33) (Nk := some 37) #[true, true, true, true, true, true, true, true, true, true, false, true, true, false, false, true, true, false, true, true, true, true, false, false, false, false, false] #[true, true, true, true, true, true, true, true, true, false, true, true, true, false, false, true, true, false, true, true, true, true, false, false, false, false, false] #[true, true, true, true, true, true, true, true, true, false, false, true, true, false, true, true, true, false, true, true, true, true, false, false, false, false, false] rfl rfl rfl rfl rfl rfl (by kernel_rfl) (by decide) (by decide) (by decide) (fun K hK => ?_) (fun K hK => ?_) (fun K hK => ?_)
                              · skip
                                refine app_empty_step w4.heap.size rfl (.tmp 29) (.tmp 31) rfl b1 Ai ni ci e.ins rfl rfl PB1.out.1 PB1.out.2 HZ.out.size (SI.out.below HZ.out) (by omega) ?_
                                intro va wa ra ba
                                obtain ⟨An, cn, ea⟩ := Kd.R_slice ra
                                rw [← HNI.out] at ea
                                subst ea
                                skip
                                refine hK.out _ _ ⟨HZ.out.trans (ba.mono HZ.out.size), pw_cell_below (HZ.out.trans (ba.mono HZ.out.size)) G0.out, pw_cell_below (HZ.out.trans (ba.mono HZ.out.size)) E0.out, pw_cell_below (HZ.out.trans (ba.mono HZ.out.size)) E1.out, pw_cell_below (HZ.out.trans (ba.mono HZ.out.size)) E2.out, pw_cell_below (HZ.out.trans (ba.mono HZ.out.size)) E3.out, pw_cell_below (HZ.out.trans (ba.mono HZ.out.size)) E4.out, pw_cell_below (HZ.out.trans (ba.mono HZ.out.size)) E5.out⟩ (fun hHeld => ?_)
                                clear hK K
                                refine norm_ (a' := ?_) ?_ ?_
                                rotate_left
                                · show Act.put _ (some 32) _ = _
                                  simp only [Act.put, List.setIfInBounds_toArray, List.set_cons_zero, List.set_cons_succ, i64_w, i32_w]
                                  rfl
                                exact norm_ (by first | (simp only [putAll, Act.put, List.setIfInBounds_toArray, List.set_cons_zero, List.set_cons_succ]; done) | (simp only [putAll, Act.put, List.setIfInBounds_toArray, List.set_cons_zero, List.set_cons_succ]; rfl)) (hJ2_5_6_9 (b0, A0_, c0_, b1, An, cn) _ ⟨hHeld.1, Kd.R_below RV0.out ba, ra⟩)
                              · skip
                                refine value_ (w1 := ?_) (v := ?_) (by rfl) rfl ?_ ?_
                                rotate_left 2
                                · go_simp
                                  constructor
                                  · rfl
                                  · rfl
                                refine hK.out _ _ ⟨HZ.out.alloc HZ.out.size _, pw_cell_below (HZ.out.alloc HZ.out.size _) G0.out, pw_cell_below (HZ.out.alloc HZ.out.size _) E0.out, pw_cell_below (HZ.out.alloc HZ.out.size _) E1.out, pw_cell_below (HZ.out.alloc HZ.out.size _) E2.out, pw_cell_below (HZ.out.alloc HZ.out.size _) E3.out, pw_cell_below (HZ.out.alloc HZ.out.size _) E4.out, pw_cell_below (HZ.out.alloc HZ.out.size _) E5.out⟩ (fun hHeld => ?_)
                                clear hK K
                                refine norm_ (a' := ?_) ?_ ?_
                                rotate_left
                                · show Act.put _ (some 33) _ = _
                                  simp only [Act.put, List.setIfInBounds_toArray, List.set_cons_zero, List.set_cons_succ, i64_w, i32_w]
                                  rfl
                                exact norm_ (by first | (simp only [putAll, Act.put, List.setIfInBounds_toArray, List.set_cons_zero, List.set_cons_succ]; done) | (simp only [putAll, Act.put, List.setIfInBounds_toArray, List.set_cons_zero, List.set_cons_succ]; rfl)) (hJ2_5_6_10 (b0, A0_, c0_, b1, wz.heap.size) _ ⟨hHeld.1, Kd.R_below RV0.out (below_alloc (Below.refl wz.heap.size wz) (.cells #[] 9)), ⟨((below_alloc (Below.refl wz.heap.size wz) (.cells #[] 9)).block _ (blk_lt PB1.out.1)).trans PB1.out.1, PB1.out.2⟩, ⟨blk_new wz _, HZ.out.size⟩⟩)
                              · skip
                                refine value_ (w1 := ?_) (v := ?_) (by rfl) rfl ?_ ?_
                                rotate_left 2
                                · go_simp
                                  constructor
                                  · rfl
                                  · rfl
                                refine hK.out _ _ ⟨HZ.out.alloc HZ.out.size _, pw_cell_below (HZ.out.alloc HZ.out.size _) G0.out, pw_cell_below (HZ.out.alloc HZ.out.size _) E0.out, pw_cell_below (HZ.out.alloc HZ.out.size _) E1.out, pw_cell_below (HZ.out.alloc HZ.out.size _) E2.out, pw_cell_below (HZ.out.alloc HZ.out.size _) E3.out, pw_cell_below (HZ.out.alloc HZ.out.size _) E4.out, pw_cell_below (HZ.out.alloc HZ.out.size _) E5.out⟩ (fun hHeld => ?_)
                                clear hK K
                                refine norm_ (a' := ?_) ?_ ?_
                                rotate_left
                                · show Act.put _ (some 37) _ = _
                                  simp only [Act.put, List.setIfInBounds_toArray, List.set_cons_zero, List.set_cons_succ, i64_w, i32_w]
                                  rfl
                                exact norm_ (by first | (simp only [putAll, Act.put, List.setIfInBounds_toArray, List.set_cons_zero, List.set_cons_succ]; done) | (simp only [putAll, Act.put, List.setIfInBounds_toArray, List.set_cons_zero, List.set_cons_succ]; rfl)) (hJ2_5_6_14 (b0, A0_, c0_, b1, wz.heap.size) _ ⟨hHeld.1, Kd.R_below RV0.out (below_alloc (Below.refl wz.heap.size wz) (.cells #[] 9)), ⟨((below_alloc (Below.refl wz.heap.size wz) (.cells #[] 9)).block _ (blk_lt PB1.out.1)).trans PB1.out.1, PB1.out.2⟩, ⟨blk_new wz _, HZ.out.size⟩⟩)
                          · skip
                            rintro ⟨b0, b1, b2, b3⟩ wz ⟨hF, hF0, hF1, hF2, hF3⟩
                            try simp only at hF hF0 hF1 hF2 hF3
                            have hHeld : Below w4.heap.size w4 wz ∧ wz.cell? ⟨g, 0, none⟩ = some (.slice Av k cv) ∧ wz.cell? ⟨y, 0, none⟩ = some (.slice Ao no co) ∧ wz.cell? ⟨y, 1, none⟩ = some (.slice Ai ni ci) ∧ wz.cell? ⟨y, 2, none⟩ = some (.slice Am nm cm) ∧ wz.cell? ⟨y, 3, none⟩ = some (.slice Ar nr cr) ∧ wz.cell? ⟨y, 4, none⟩ = some (.string e.cmd) ∧ wz.cell? ⟨y, 5, none⟩ = some (.string e.dep) := ⟨hF, pw_cell_below (hF) G0.out, pw_cell_below (hF) E0.out, pw_cell_below (hF) E1.out, pw_cell_below (hF) E2.out, pw_cell_below (hF) E3.out, pw_cell_below (hF) E4.out, pw_cell_below (hF) E5.out⟩
                            have HZ := Lib.hid hF
                            have PB0 := Lib.hid hF0
                            have PB1 := Lib.hid hF1
                            have PB2 := Lib.hid hF2
                            have PB3 := Lib.hid hF3
                            clear hF hF0 hF1 hF2 hF3
                            refine norm_ (a' := ?_) ?_ ?_
                            rotate_left
                            · simp only [putAll, Act.put, List.setIfInBounds_toArray, List.set_cons_zero, List.set_cons_succ]
                              rfl
                            refine one_ (i := 5) (N := some 28) #[true, true, true, true, true, true, true, true, true, false, true, true, true, false, true, true, true, false, true, true, true, true, false, false, false, false, false] rfl rfl (by kernel_rfl) (by decide) (fun K hK => ?_)
                            refine app_empty_step w4.heap.size rfl (.tmp 25) (.tmp 27) rfl b0 Ao no co e.outs rfl rfl PB0.out.1 PB0.out.2 HZ.out.size (SO.out.below HZ.out) (by omega) ?_
                            intro va wa ra ba
                            obtain ⟨An, cn, ea⟩ := Kd.R_slice ra
                            rw [← HNO.out] at ea
                            subst ea
                            skip
                            refine hK.out _ _ ⟨HZ.out.trans (ba.mono HZ.out.size), pw_cell_below (HZ.out.trans (ba.mono HZ.out.size)) G0.out, pw_cell_below (HZ.out.trans (ba.mono HZ.out.size)) E0.out, pw_cell_below (HZ.out.trans (ba.mono HZ.out.size)) E1.out, pw_cell_below (HZ.out.trans (ba.mono HZ.out.size)) E2.out, pw_cell_below (HZ.out.trans (ba.mono HZ.out.size)) E3.out, pw_cell_below (HZ.out.trans (ba.mono HZ.out.size)) E4.out, pw_cell_below (HZ.out.trans (ba.mono HZ.out.size)) E5.out⟩ (fun hHeld => ?_)
                            clear hK K
                            refine norm_ (a' := ?_) ?_ ?_
                            rotate_left
                            · show Act.put _ (some 28) _ = _
                              simp only [Act.put, List.setIfInBounds_toArray, List.set_cons_zero, List.set_cons_succ, i64_w, i32_w]
                              rfl
                            exact norm_ (by first | (simp only [putAll, Act.put, List.setIfInBounds_toArray, List.set_cons_zero, List.set_cons_succ]; done) | (simp only [putAll, Act.put, List.setIfInBounds_toArray, List.set_cons_zero, List.set_cons_succ]; rfl)) (hJ2_5_6_10_14 (b0, An, cn, b1, b2, b3) _ ⟨hHeld.1, ra, ⟨(ba.block _ (blk_lt PB1.out.1)).trans PB1.out.1, PB1.out.2⟩, ⟨(ba.block _ (blk_lt PB2.out.1)).trans PB2.out.1, PB2.out.2⟩, ⟨(ba.block _ (blk_lt PB3.out.1)).trans PB3.out.1, PB3.out.2⟩⟩)
                        · skip
                          rintro ⟨b0, A0_, c0_, b2, b3⟩ wz ⟨hF, hF0, hF2, hF3⟩
                          try simp only at hF hF0 hF2 hF3
                          have hHeld : Below w4.heap.size w4 wz ∧ wz.cell? ⟨g, 0, none⟩ = some (.slice Av k cv) ∧ wz.cell? ⟨y, 0, none⟩ = some (.slice Ao no co) ∧ wz.cell? ⟨y, 1, none⟩ = some (.slice Ai ni ci) ∧ wz.cell? ⟨y, 2, none⟩ = some (.slice Am nm cm) ∧ wz.cell? ⟨y, 3, none⟩ = some (.slice Ar nr cr) ∧ wz.cell? ⟨y, 4, none⟩ = some (.string e.cmd) ∧ wz.cell? ⟨y, 5, none⟩ = some (.string e.dep) := ⟨hF, pw_cell_below (hF) G0.out, pw_cell_below (hF) E0.out, pw_cell_below (hF) E1.out, pw_cell_below (hF) E2.out, pw_cell_below (hF) E3.out, pw_cell_below (hF) E4.out, pw_cell_below (hF) E5.out⟩
                          have HZ := Lib.hid hF
                          have RV0 := Lib.hid hF0
                          have PB2 := Lib.hid hF2
                          have PB3 := Lib.hid hF3
                          clear hF hF0 hF2 hF3
                          refine norm_ (a' := ?_) ?_ ?_
                          rotate_left
                          · simp only [putAll, Act.put, List.setIfInBounds_toArray, List.set_cons_zero, List.set_cons_succ]
                            rfl
                          refine one_ (i := 6) (N := some 29) #[true, true, true, true, true, true, true, true, true, false, true, true, true, false, true, true, true, false, true, true, true, true, false, false, false, false, false] rfl rfl (by kernel_rfl) (by decide) (fun K hK => ?_)
                          refine value_ (w1 := ?_) (v := ?_) (by rfl) rfl ?_ ?_
                          rotate_left 2
                          · go_simp
                            constructor
                            · rfl
                            · rfl
                          refine hK.out _ _ ⟨HZ.out.alloc HZ.out.size _, pw_cell_below (HZ.out.alloc HZ.out.size _) G0.out, pw_cell_below (HZ.out.alloc HZ.out.size _) E0.out, pw_cell_below (HZ.out.alloc HZ.out.size _) E1.out, pw_cell_below (HZ.out.alloc HZ.out.size _) E2.out, pw_cell_below (HZ.out.alloc HZ.out.size _) E3.out, pw_cell_below (HZ.out.alloc HZ.out.size _) E4.out, pw_cell_below (HZ.out.alloc HZ.out.size _) E5.out⟩ (fun hHeld => ?_)
                          clear hK K
                          refine norm_ (a' := ?_) ?_ ?_
                          rotate_left
                          · show Act.put _ (some 29) _ = _
                            simp only [Act.put, List.setIfInBounds_toArray, List.set_cons_zero, List.set_cons_succ, i64_w, i32_w]
                            rfl
                          exact norm_ (by first | (simp only [putAll, Act.put, List.setIfInBounds_toArray, List.set_cons_zero, List.set_cons_succ]; done) | (simp only [putAll, Act.put, List.setIfInBounds_toArray, List.set_cons_zero, List.set_cons_succ]; rfl)) (hJ2_5_6_10_14 (b0, A0_, c0_, wz.heap.size, b2, b3) _ ⟨hHeld.1, Kd.R_below RV0.out (below_alloc (Below.refl wz.heap.size wz) (.cells #[] 9)), ⟨blk_new wz _, HZ.out.size⟩, ⟨((below_alloc (Below.refl wz.heap.size wz) (.cells #[] 9)).block _ (blk_lt PB2.out.1)).trans PB2.out.1, PB2.out.2⟩, ⟨((below_alloc (Below.refl wz.heap.size wz) (.cells #[] 9)).block _ (blk_lt PB3.out.1)).trans PB3.out.1, PB3.out.2⟩⟩)
                      · skip
                        rintro ⟨b0, A0_, c0_, b1, b3⟩ wz ⟨hF, hF0, hF1, hF3⟩
                        try simp only at hF hF0 hF1 hF3
                        have hHeld : Below w4.heap.size w4 wz ∧ wz.cell? ⟨g, 0, none⟩ = some (.slice Av k cv) ∧ wz.cell? ⟨y, 0, none⟩ = some (.slice Ao no co) ∧ wz.cell? ⟨y, 1, none⟩ = some (.slice Ai ni ci) ∧ wz.cell? ⟨y, 2, none⟩ = some (.slice Am nm cm) ∧ wz.cell? ⟨y, 3, none⟩ = some (.slice Ar nr cr) ∧ wz.cell? ⟨y, 4, none⟩ = some (.string e.cmd) ∧ wz.cell? ⟨y, 5, none⟩ = some (.string e.dep) := ⟨hF, pw_cell_below (hF) G0.out, pw_cell_below (hF) E0.out, pw_cell_below (hF) E1.out, pw_cell_below (hF) E2.out, pw_cell_below (hF) E3.out, pw_cell_below (hF) E4.out, pw_cell_below (hF) E5.out⟩
                        have HZ := Lib.hid hF
                        have RV0 := Lib.hid hF0
                        have PB1 := Lib.hid hF1
                        have PB3 := Lib.hid hF3
                        clear hF hF0 hF1 hF3
                        refine norm_ (a' := ?_) ?_ ?_
                        rotate_left
                        · simp only [putAll, Act.put, List.setIfInBounds_toArray, List.set_cons_zero, List.set_cons_succ]
                          rfl
                        refine two_ (i := 9) (j := 10) (Ni := some 32) (Nj := some 33) #[true, true, true, true, true, true, true, true, true, true, false, true, true, false, true, true, true, false, true, true, true, true, false, false, false, false, false] #[true, true, true, true, true, true, true, true, true, false, true, true, true, false, true, true, true, false, true, true, true, true, false, false, false, false, false] rfl rfl rfl rfl (by kernel_rfl) (by decide) (by decide) (fun K hK => ?_) (fun K hK => ?_)
                        · skip
                          refine app_empty_step w4.heap.size rfl (.tmp 29) (.tmp 31) rfl b1 Ai ni ci e.ins rfl rfl PB1.out.1 PB1.out.2 HZ.out.size (SI.out.below HZ.out) (by omega) ?_
                          intro va wa ra ba
                          obtain ⟨An, cn, ea⟩ := Kd.R_slice ra
                          rw [← HNI.out] at ea
                          subst ea
                          skip
                          refine hK.out _ _ ⟨HZ.out.trans (ba.mono HZ.out.size), pw_cell_below (HZ.out.trans (ba.mono HZ.out.size)) G0.out, pw_cell_below (HZ.out.trans (ba.mono HZ.out.size)) E0.out, pw_cell_below (HZ.out.trans (ba.mono HZ.out.size)) E1.out, pw_cell_below (HZ.out.trans (ba.mono HZ.out.size)) E2.out, pw_cell_below (HZ.out.trans (ba.mono HZ.out.size)) E3.out, pw_cell_below (HZ.out.trans (ba.mono HZ.out.size)) E4.out, pw_cell_below (HZ.out.trans (ba.mono HZ.out.size)) E5.out⟩ (fun hHeld => ?_)
                          clear hK K
                          refine norm_ (a' := ?_) ?_ ?_
                          rotate_left
                          · show Act.put _ (some 32) _ = _
                            simp only [Act.put, List.setIfInBounds_toArray, List.set_cons_zero, List.set_cons_succ, i64_w, i32_w]
                            rfl
                          exact norm_ (by first | (simp only [putAll, Act.put, List.setIfInBounds_toArray, List.set_cons_zero, List.set_cons_succ]; done) | (simp only [putAll, Act.put, List.setIfInBounds_toArray, List.set_cons_zero, List.set_cons_succ]; rfl)) (hJ2_5_6_9_14 (b0, A0_, c0_, b1, An, cn, b3) _ ⟨hHeld.1, Kd.R_below RV0.out ba, ra, ⟨(ba.block _ (blk_lt PB3.out.1)).trans PB3.out.1, PB3.out.2⟩⟩)
                        · skip
                          refine value_ (w1 := ?_) (v := ?_) (by rfl) rfl ?_ ?_
                          rotate_left 2
                          · go_simp
                            constructor
                            · rfl
                            · rfl
                          refine hK.out _ _ ⟨HZ.out.alloc HZ.out.size _, pw_cell_below (HZ.out.alloc HZ.out.size _) G0.out, pw_cell_below (HZ.out.alloc HZ.out.size _) E0.out, pw_cell_below (HZ.out.alloc HZ.out.size _) E1.out, pw_cell_below (HZ.out.alloc HZ.out.size _) E2.out, pw_cell_below (HZ.out.alloc HZ.out.size _) E3.out, pw_cell_below (HZ.out.alloc HZ.out.size _) E4.out, pw_cell_below (HZ.out.alloc HZ.out.size _) E5.out⟩ (fun hHeld => ?_)
                          clear hK K
                          refine norm_ (a' := ?_) ?_ ?_
                          rotate_left
                          · show Act.put _ (some 33) _ = _
                            simp only [Act.put, List.setIfInBounds_toArray, List.set_cons_zero, List.set_cons_succ, i64_w, i32_w]
                            rfl
                          exact norm_ (by first | (simp only [putAll, Act.put, List.setIfInBounds_toArray, List.set_cons_zero, List.set_cons_succ]; done) | (simp only [putAll, Act.put, List.setIfInBounds_toArray, List.set_cons_zero, List.set_cons_succ]; rfl)) (hJ2_5_6_10_14 (b0, A0_, c0_, b1, wz.heap.size, b3) _ ⟨hHeld.1, Kd.R_below RV0.out (below_alloc (Below.refl wz.heap.size wz) (.cells #[] 9)), ⟨((below_alloc (Below.refl wz.heap.size wz) (.cells #[] 9)).block _ (blk_lt PB1.out.1)).trans PB1.out.1, PB1.out.2⟩, ⟨blk_new wz _, HZ.out.size⟩, ⟨((below_alloc (Below.refl wz.heap.size wz) (.cells #[] 9)).block _ (blk_lt PB3.out.1)).trans PB3.out.1, PB3.out.2⟩⟩)
                    · skip
                      rintro ⟨b0, A0_, c0_, b1, b2⟩ wz ⟨hF, hF0, hF1, hF2⟩
                      try simp only at hF hF0 hF1 hF2
                      have hHeld : Below w4.heap.size w4 wz ∧ wz.cell? ⟨g, 0, none⟩ = some (.slice Av k cv) ∧ wz.cell? ⟨y, 0, none⟩ = some (.slice Ao no co) ∧ wz.cell? ⟨y, 1, none⟩ = some (.slice Ai ni ci) ∧ wz.cell? ⟨y, 2, none⟩ = some (.slice Am nm cm) ∧ wz.cell? ⟨y, 3, none⟩ = some (.slice Ar nr cr) ∧ wz.cell? ⟨y, 4, none⟩ = some (.string e.cmd) ∧ wz.cell? ⟨y, 5, none⟩ = some (.string e.dep) := ⟨hF, pw_cell_below (hF) G0.out, pw_cell_below (hF) E0.out, pw_cell_below (hF) E1.out, pw_cell_below (hF) E2.out, pw_cell_below (hF) E3.out, pw_cell_below (hF) E4.out, pw_cell_below (hF) E5.out⟩
                      have HZ := Lib.hid hF
                      have RV0 := Lib.hid hF0
                      have PB1 := Lib.hid hF1
                      have PB2 := Lib.hid hF2
                      clear hF hF0 hF1 hF2
                      refine norm_ (a' := ?_) ?_ ?_
                      rotate_left
                      · simp only [putAll, Act.put, List.setIfInBounds_toArray, List.set_cons_zero, List.set_cons_succ]
                        rfl
                      refine two_ (i := 9) (j := 14) (Ni := some 32) (Nj := some 37) #[true, true, true, true, true, true, true, true, true, true, true, true, true, false, false, true, true, false, true, true, true, true, false, false, false, false, false] #[true, true, true, true, true, true, true, true, true, false, true, true, true, false, true, true, true, false, true, true, true, true, false, false, false, false, false] rfl rfl rfl rfl (by kernel_rfl) (by decide) (by decide) (fun K hK => ?_) (fun K hK => ?_)
                      · skip
                        refine app_empty_step w4.heap.size rfl (.tmp 29) (.tmp 31) rfl b1 Ai ni ci e.ins rfl rfl PB1.out.1 PB1.out.2 HZ.out.size (SI.out.below HZ.out) (by omega) ?_
                        intro va wa ra ba
                        obtain ⟨An, cn, ea⟩ := Kd.R_slice ra
                        rw [← HNI.out] at ea
                        subst ea
                        skip
                        refine hK.out _ _ ⟨HZ.out.trans (ba.mono HZ.out.size), pw_cell_below (HZ.out.trans (ba.mono HZ.out.size)) G0.out, pw_cell_below (HZ.out.trans (ba.mono HZ.out.size)) E0.out, pw_cell_below (HZ.out.trans (ba.mono HZ.out.size)) E1.out, pw_cell_below (HZ.out.trans (ba.mono HZ.out.size)) E2.out, pw_cell_below (HZ.out.trans (ba.mono HZ.out.size)) E3.out, pw_cell_below (HZ.out.trans (ba.mono HZ.out.size)) E4.out, pw_cell_below (HZ.out.trans (ba.mono HZ.out.size)) E5.out⟩ (fun hHeld => ?_)
                        clear hK K
                        refine norm_ (a' := ?_) ?_ ?_
                        rotate_left
                        · show Act.put _ (some 32) _ = _
                          simp only [Act.put, List.setIfInBounds_toArray, List.set_cons_zero, List.set_cons_succ, i64_w, i32_w]
                          rfl
                        exact norm_ (by first | (simp only [putAll, Act.put, List.setIfInBounds_toArray, List.set_cons_zero, List.set_cons_succ]; done) | (simp only [putAll, Act.put, List.setIfInBounds_toArray, List.set_cons_zero, List.set_cons_succ]; rfl)) (hJ2_5_6_9_10 (b0, A0_, c0_, b1, An, cn, b2) _ ⟨hHeld.1, Kd.R_below RV0.out ba, ra, ⟨(ba.block _ (blk_lt PB2.out.1)).trans PB2.out.1, PB2.out.2⟩⟩)
                      · skip
                        refine value_ (w1 := ?_) (v := ?_) (by rfl) rfl ?_ ?_
                        rotate_left 2
                        · go_simp
                          constructor
                          · rfl
                          · rfl
                        refine hK.out _ _ ⟨HZ.out.alloc HZ.out.size _, pw_cell_below (HZ.out.alloc HZ.out.size _) G0.out, pw_cell_below (HZ.out.alloc HZ.out.size _) E0.out, pw_cell_below (HZ.out.alloc HZ.out.size _) E1.out, pw_cell_below (HZ.out.alloc HZ.out.size _) E2.out, pw_cell_below (HZ.out.alloc HZ.out.size _) E3.out, pw_cell_below (HZ.out.alloc HZ.out.size _) E4.out, pw_cell_below (HZ.out.alloc HZ.out.size _) E5.out⟩ (fun hHeld => ?_)
                        clear hK K
                        refine norm_ (a' := ?_) ?_ ?_
                        rotate_left
                        · show Act.put _ (some 37) _ = _
                          simp only [Act.put, List.setIfInBounds_toArray, List.set_cons_zero, List.set_cons_succ, i64_w, i32_w]
                          rfl
                        exact norm_ (by first | (simp only [putAll, Act.put, List.setIfInBounds_toArray, List.set_cons_zero, List.set_cons_succ]; done) | (simp only [putAll, Act.put, List.setIfInBounds_toArray, List.set_cons_zero, List.set_cons_succ]; rfl)) (hJ2_5_6_10_14 (b0, A0_, c0_, b1, b2, wz.heap.size) _ ⟨hHeld.1, Kd.R_below RV0.out (below_alloc (Below.refl wz.heap.size wz) (.cells #[] 9)), ⟨((below_alloc (Below.refl wz.heap.size wz) (.cells #[] 9)).block _ (blk_lt PB1.out.1)).trans PB1.out.1, PB1.out.2⟩, ⟨((below_alloc (Below.refl wz.heap.size wz) (.cells #[] 9)).block _ (blk_lt PB2.out.1)).trans PB2.out.1, PB2.out.2⟩, ⟨blk_new wz _, HZ.out.size⟩⟩)
                  · skip
                    rintro ⟨b0, A0_, c0_, b1, A1_, c1_⟩ wz ⟨hF, hF0, hF1⟩
                    try simp only at hF hF0 hF1
                    have hHeld : Below w4.heap.size w4 wz ∧ wz.cell? ⟨g, 0, none⟩ = some (.slice Av k cv) ∧ wz.cell? ⟨y, 0, none⟩ = some (.slice Ao no co) ∧ wz.cell? ⟨y, 1, none⟩ = some (.slice Ai ni ci) ∧ wz.cell? ⟨y, 2, none⟩ = some (.slice Am nm cm) ∧ wz.cell? ⟨y, 3, none⟩ = some (.slice Ar nr cr) ∧ wz.cell? ⟨y, 4, none⟩ = some (.string e.cmd) ∧ wz.cell? ⟨y, 5, none⟩ = some (.string e.dep) := ⟨hF, pw_cell_below (hF) G0.out, pw_cell_below (hF) E0.out, pw_cell_below (hF) E1.out, pw_cell_below (hF) E2.out, pw_cell_below (hF) E3.out, pw_cell_below (hF) E4.out, pw_cell_below (hF) E5.out⟩
                    have HZ := Lib.hid hF
                    have RV0 := Lib.hid hF0
                    have RV1 := Lib.hid hF1
                    clear hF hF0 hF1
                    refine norm_ (a' := ?_) ?_ ?_
                    rotate_left
                    · simp only [putAll, Act.put, List.setIfInBounds_toArray, List.set_cons_zero, List.set_cons_succ]
                      rfl
                    refine two_ (i := 10) (j := 14) (Ni := some 33) (Nj := some 37) #[true, true, true, true, true, true, true, true, true, true, true, true, true, false, false, true, true, false, true, true, true, true, false, false, false, false, false] #[true, true, true, true, true, true, true, true, true, true, false, true, true, false, true, true, true, false, true, true, true, true, false, false, false, false, false] rfl rfl rfl rfl (by kernel_rfl) (by decide) (by decide) (fun K hK => ?_) (fun K hK => ?_)
                    · skip
                      refine value_ (w1 := ?_) (v := ?_) (by rfl) rfl ?_ ?_
                      rotate_left 2
                      · go_simp
                        constructor
                        · rfl
                        · rfl
                      refine hK.out _ _ ⟨HZ.out.alloc HZ.out.size _, pw_cell_below (HZ.out.alloc HZ.out.size _) G0.out, pw_cell_below (HZ.out.alloc HZ.out.size _) E0.out, pw_cell_below (HZ.out.alloc HZ.out.size _) E1.out, pw_cell_below (HZ.out.alloc HZ.out.size _) E2.out, pw_cell_below (HZ.out.alloc HZ.out.size _) E3.out, pw_cell_below (HZ.out.alloc HZ.out.size _) E4.out, pw_cell_below (HZ.out.alloc HZ.out.size _) E5.out⟩ (fun hHeld => ?_)
                      clear hK K
                      refine norm_ (a' := ?_) ?_ ?_
                      rotate_left
                      · show Act.put _ (some 33) _ = _
                        simp only [Act.put, List.setIfInBounds_toArray, List.set_cons_zero, List.set_cons_succ, i64_w, i32_w]
                        rfl
                      exact norm_ (by first | (simp only [putAll, Act.put, List.setIfInBounds_toArray, List.set_cons_zero, List.set_cons_succ]; done) | (simp only [putAll, Act.put, List.setIfInBounds_toArray, List.set_cons_zero, List.set_cons_succ]; rfl)) (hJ2_5_6_9_10 (b0, A0_, c0_, b1, A1_, c1_, wz.heap.size) _ ⟨hHeld.1, Kd.R_below RV0.out (below_alloc (Below.refl wz.heap.size wz) (.cells #[] 9)), Kd.R_below RV1.out (below_alloc (Below.refl wz.heap.size wz) (.cells #[] 9)), ⟨blk_new wz _, HZ.out.size⟩⟩)
                    · skip
                      refine value_ (w1 := ?_) (v := ?_) (by rfl) rfl ?_ ?_
                      rotate_left 2
                      · go_simp
                        constructor
                        · rfl
                        · rfl
                      refine hK.out _ _ ⟨HZ.out.alloc HZ.out.size _, pw_cell_below (HZ.out.alloc HZ.out.size _) G0.out, pw_cell_below (HZ.out.alloc HZ.out.size _) E0.out, pw_cell_below (HZ.out.alloc HZ.out.size _) E1.out, pw_cell_below (HZ.out.alloc HZ.out.size _) E2.out, pw_cell_below (HZ.out.alloc HZ.out.size _) E3.out, pw_cell_below (HZ.out.alloc HZ.out.size _) E4.out, pw_cell_below (HZ.out.alloc HZ.out.size _) E5.out⟩ (fun hHeld => ?_)
                      clear hK K
                      refine norm_ (a' := ?_) ?_ ?_
                      rotate_left
                      · show Act.put _ (some 37) _ = _
                        simp only [Act.put, List.setIfInBounds_toArray, List.set_cons_zero, List.set_cons_succ, i64_w, i32_w]
                        rfl
                      exact norm_ (by first | (simp only [putAll, Act.put, List.setIfInBounds_toArray, List.set_cons_zero, List.set_cons_succ]; done) | (simp only [putAll, Act.put, List.setIfInBounds_toArray, List.set_cons_zero, List.set_cons_succ]; rfl)) (hJ2_5_6_9_14 (b0, A0_, c0_, b1, A1_, c1_, wz.heap.size) _ ⟨hHeld.1, Kd.R_below RV0.out (below_alloc (Below.refl wz.heap.size wz) (.cells #[] 9)), Kd.R_below RV1.out (below_alloc (Below.refl wz.heap.size wz) (.cells #[] 9)), ⟨blk_new wz _, HZ.out.size⟩⟩)
                · skip
                  rintro ⟨b0, A0_, c0_, b1, b2, b3⟩ wz ⟨hF, hF0, hF1, hF2, hF3⟩
                  try simp only at hF hF0 hF1 hF2 hF3
                  have hHeld : Below w4.heap.size w4 wz ∧ wz.cell? ⟨g, 0, none⟩ = some (.slice Av k cv) ∧ wz.cell? ⟨y, 0, none⟩ = some (.slice Ao no co) ∧ wz.cell? ⟨y, 1, none⟩ = some (.slice Ai ni ci) ∧ wz.cell? ⟨y, 2, none⟩ = some (.slice Am nm cm) ∧ wz.cell? ⟨y, 3, none⟩ = some (.slice Ar nr cr) ∧ wz.cell? ⟨y, 4, none⟩ = some (.string e.cmd) ∧ wz.cell? ⟨y, 5, none⟩ = some (.string e.dep) := ⟨hF, pw_cell_below (hF) G0.out, pw_cell_below (hF) E0.out, pw_cell_below (hF) E1.out, pw_cell_below (hF) E2.out, pw_cell_below (hF) E3.out, pw_cell_below (hF) E4.out, pw_cell_below (hF) E5.out⟩
                  have HZ := Lib.hid hF
                  have RV0 := Lib.hid hF0
                  have PB1 := Lib.hid hF1
                  have PB2 := Lib.hid hF2
                  have PB3 := Lib.hid hF3
                  clear hF hF0 hF1 hF2 hF3
                  refine norm_ (a' := ?_) ?_ ?_
                  rotate_left
                  · simp only [putAll, Act.put, List.setIfInBounds_toArray, List.set_cons_zero, List.set_cons_succ]
                    rfl
                  refine one_ (i := 9) (N := some 32) #[true, true, true, true, true, true, true, true, true, true, true, true, true, false, true, true, true, false, true, true, true, true, false, false, false, false, false] rfl rfl (by kernel_rfl) (by decide) (fun K hK => ?_)
                  refine app_empty_step w4.heap.size rfl (.tmp 29) (.tmp 31) rfl b1 Ai ni ci e.ins rfl rfl PB1.out.1 PB1.out.2 HZ.out.size (SI.out.below HZ.out) (by omega) ?_
                  intro va wa ra ba
                  obtain ⟨An, cn, ea⟩ := Kd.R_slice ra
                  rw [← HNI.out] at ea
                  subst ea
                  skip
                  refine hK.out _ _ ⟨HZ.out.trans (ba.mono HZ.out.size), pw_cell_below (HZ.out.trans (ba.mono HZ.out.size)) G0.out, pw_cell_below (HZ.out.trans (ba.mono HZ.out.size)) E0.out, pw_cell_below (HZ.out.trans (ba.mono HZ.out.size)) E1.out, pw_cell_below (HZ.out.trans (ba.mono HZ.out.size)) E2.out, pw_cell_below (HZ.out.trans (ba.mono HZ.out.size)) E3.out, pw_cell_below (HZ.out.trans (ba.mono HZ.out.size)) E4.out, pw_cell_below (HZ.out.trans (ba.mono HZ.out.size)) E5.out⟩ (fun hHeld => ?_)
                  clear hK K
                  refine norm_ (a' := ?_) ?_ ?_
                  rotate_left
                  · show Act.put _ (some 32) _ = _
                    simp only [Act.put, List.setIfInBounds_toArray, List.set_cons_zero, List.set_cons_succ, i64_w, i32_w]
                    rfl
                  exact norm_ (by first | (simp only [putAll, Act.put, List.setIfInBounds_toArray, List.set_cons_zero, List.set_cons_succ]; done) | (simp only [putAll, Act.put, List.setIfInBounds_toArray, List.set_cons_zero, List.set_cons_succ]; rfl)) (hJ2_5_6_9_10_14 (b0, A0_, c0_, b1, An, cn, b2, b3) _ ⟨hHeld.1, Kd.R_below RV0.out ba, ra, ⟨(ba.block _ (blk_lt PB2.out.1)).trans PB2.out.1, PB2.out.2⟩, ⟨(ba.block _ (blk_lt PB3.out.1)).trans PB3.out.1, PB3.out.2⟩⟩)
              · skip
                rintro ⟨b0, A0_, c0_, b1, A1_, c1_, b3⟩ wz ⟨hF, hF0, hF1, hF3⟩
                try simp only at hF hF0 hF1 hF3
                have hHeld : Below w4.heap.size w4 wz ∧ wz.cell? ⟨g, 0, none⟩ = some (.slice Av k cv) ∧ wz.cell? ⟨y, 0, none⟩ = some (.slice Ao no co) ∧ wz.cell? ⟨y, 1, none⟩ = some (.slice Ai ni ci) ∧ wz.cell? ⟨y, 2, none⟩ = some (.slice Am nm cm) ∧ wz.cell? ⟨y, 3, none⟩ = some (.slice Ar nr cr) ∧ wz.cell? ⟨y, 4, none⟩ = some (.string e.cmd) ∧ wz.cell? ⟨y, 5, none⟩ = some (.string e.dep) := ⟨hF, pw_cell_below (hF) G0.out, pw_cell_below (hF) E0.out, pw_cell_below (hF) E1.out, pw_cell_below (hF) E2.out, pw_cell_below (hF) E3.out, pw_cell_below (hF) E4.out, pw_cell_below (hF) E5.out⟩
                have HZ := Lib.hid hF
                have RV0 := Lib.hid hF0
                have RV1 := Lib.hid hF1
                have PB3 := Lib.hid hF3
                clear hF hF0 hF1 hF3
                refine norm_ (a' := ?_) ?_ ?_
                rotate_left
                · simp only [putAll, Act.put, List.setIfInBounds_toArray, List.set_cons_zero, List.set_cons_succ]
                  rfl
                refine one_ (i := 10) (N := some 33) #[true, true, true, true, true, true, true, true, true, true, true, true, true, false, true, true, true, false, true, true, true, true, false, false, false, false, false] rfl rfl (by kernel_rfl) (by decide) (fun K hK => ?_)
                refine value_ (w1 := ?_) (v := ?_) (by rfl) rfl ?_ ?_
                rotate_left 2
                · go_simp
                  constructor
                  · rfl
                  · rfl
                refine hK.out _ _ ⟨HZ.out.alloc HZ.out.size _, pw_cell_below (HZ.out.alloc HZ.out.size _) G0.out, pw_cell_below (HZ.out.alloc HZ.out.size _) E0.out, pw_cell_below (HZ.out.alloc HZ.out.size _) E1.out, pw_cell_below (HZ.out.alloc HZ.out.size _) E2.out, pw_cell_below (HZ.out.alloc HZ.out.size _) E3.out, pw_cell_below (HZ.out.alloc HZ.out.size _) E4.out, pw_cell_below (HZ.out.alloc HZ.out.size _) E5.out⟩ (fun hHeld => ?_)
                clear hK K
                refine norm_ (a' := ?_) ?_ ?_
                rotate_left
                · show Act.put _ (some 33) _ = _
                  simp only [Act.put, List.setIfInBounds_toArray, List.set_cons_zero, List.set_cons_succ, i64_w, i32_w]
                  rfl
                exact norm_ (by first | (simp only [putAll, Act.put, List.setIfInBounds_toArray, List.set_cons_zero, List.set_cons_succ]; done) | (simp only [putAll, Act.put, List.setIfInBounds_toArray, List.set_cons_zero, List.set_cons_succ]; rfl)) (hJ2_5_6_9_10_14 (b0, A0_, c0_, b1, A1_, c1_, wz.heap.size, b3) _ ⟨hHeld.1, Kd.R_below RV0.out (below_alloc (Below.refl wz.heap.size wz) (.cells #[] 9)), Kd.R_below RV1.out (below_alloc (Below.refl wz.heap.size wz) (.cells #[] 9)), ⟨blk_new wz _, HZ.out.size⟩, ⟨((below_alloc (Below.refl wz.heap.size wz) (.cells #[] 9)).block _ (blk_lt PB3.out.1)).trans PB3.out.1, PB3.out.2⟩⟩)
            · skip
              rintro ⟨b0, A0_, c0_, b1, A1_, c1_, b2⟩ wz ⟨hF, hF0, hF1, hF2⟩
              try simp only at hF hF0 hF1 hF2
              have hHeld : Below w4.heap.size w4 wz ∧ wz.cell? ⟨g, 0, none⟩ = some (.slice Av k cv) ∧ wz.cell? ⟨y, 0, none⟩ = some (.slice Ao no co) ∧ wz.cell? ⟨y, 1, none⟩ = some (.slice Ai ni ci) ∧ wz.cell? ⟨y, 2, none⟩ = some (.slice Am nm cm) ∧ wz.cell? ⟨y, 3, none⟩ = some (.slice Ar nr cr) ∧ wz.cell? ⟨y, 4, none⟩ = some (.string e.cmd) ∧ wz.cell? ⟨y, 5, none⟩ = some (.string e.dep) := ⟨hF, pw_cell_below (hF) G0.out, pw_cell_below (hF) E0.out, pw_cell_below (hF) E1.out, pw_cell_below (hF) E2.out, pw_cell_below (hF) E3.out, pw_cell_below (hF) E4.out, pw_cell_below (hF) E5.out⟩
              have HZ := Lib.hid hF
              have RV0 := Lib.hid hF0
              have RV1 := Lib.hid hF1
              have PB2 := Lib.hid hF2
              clear hF hF0 hF1 hF2
              refine norm_ (a' := ?_) ?_ ?_
              rotate_left
              · simp only [putAll, Act.put, List.setIfInBounds_toArray, List.set_cons_zero, List.set_cons_succ]
                rfl
              refine two_ (i := 13) (j := 14) (Ni := some 36) (Nj := some 37) #[true, true, true, true, true, true, true, true, true, true, true, true, true, true, false, true, true, false, true, true, true, true, false, false, false, false, false] #[true, true, true, true, true, true, true, true, true, true, true, true, true, false, true, true, true, false, true, true, true, true, false, false, false, false, false] rfl rfl rfl rfl (by kernel_rfl) (by decide) (by decide) (fun K hK => ?_) (fun K hK => ?_)
              · skip
                refine app_empty_step w4.heap.size rfl (.tmp 33) (.tmp 35) rfl b2 Am nm cm e.imp rfl rfl PB2.out.1 PB2.out.2 HZ.out.size (SM.out.below HZ.out) (by omega) ?_
                intro va wa ra ba
                obtain ⟨An, cn, ea⟩ := Kd.R_slice ra
                rw [← HNM.out] at ea
                subst ea
                skip
                refine hK.out _ _ ⟨HZ.out.trans (ba.mono HZ.out.size), pw_cell_below (HZ.out.trans (ba.mono HZ.out.size)) G0.out, pw_cell_below (HZ.out.trans (ba.mono HZ.out.size)) E0.out, pw_cell_below (HZ.out.trans (ba.mono HZ.out.size)) E1.out, pw_cell_below (HZ.out.trans (ba.mono HZ.out.size)) E2.out, pw_cell_below (HZ.out.trans (ba.mono HZ.out.size)) E3.out, pw_cell_below (HZ.out.trans (ba.mono HZ.out.size)) E4.out, pw_cell_below (HZ.out.trans (ba.mono HZ.out.size)) E5.out⟩ (fun hHeld => ?_)
                clear hK K
                refine norm_ (a' := ?_) ?_ ?_
                rotate_left
                · show Act.put _ (some 36) _ = _
                  simp only [Act.put, List.setIfInBounds_toArray, List.set_cons_zero, List.set_cons_succ, i64_w, i32_w]
                  rfl
                exact norm_ (by first | (simp only [putAll, Act.put, List.setIfInBounds_toArray, List.set_cons_zero, List.set_cons_succ]; done) | (simp only [putAll, Act.put, List.setIfInBounds_toArray, List.set_cons_zero, List.set_cons_succ]; rfl)) (hJ2_5_6_9_10_13 (b0, A0_, c0_, b1, A1_, c1_, b2, An, cn) _ ⟨hHeld.1, Kd.R_below RV0.out ba, Kd.R_below RV1.out ba, ra⟩)
              · skip
                refine value_ (w1 := ?_) (v := ?_) (by rfl) rfl ?_ ?_
                rotate_left 2
                · go_simp
                  constructor
                  · rfl
                  · rfl
                refine hK.out _ _ ⟨HZ.out.alloc HZ.out.size _, pw_cell_below (HZ.out.alloc HZ.out.size _) G0.out, pw_cell_below (HZ.out.alloc HZ.out.size _) E0.out, pw_cell_below (HZ.out.alloc HZ.out.size _) E1.out, pw_cell_below (HZ.out.alloc HZ.out.size _) E2.out, pw_cell_below (HZ.out.alloc HZ.out.size _) E3.out, pw_cell_below (HZ.out.alloc HZ.out.size _) E4.out, pw_cell_below (HZ.out.alloc HZ.out.size _) E5.out⟩ (fun hHeld => ?_)
                clear hK K
                refine norm_ (a' := ?_) ?_ ?_
                rotate_left
                · show Act.put _ (some 37) _ = _
                  simp only [Act.put, List.setIfInBounds_toArray, List.set_cons_zero, List.set_cons_succ, i64_w, i32_w]
                  rfl
                exact norm_ (by first | (simp only [putAll, Act.put, List.setIfInBounds_toArray, List.set_cons_zero, List.set_cons_succ]; done) | (simp only [putAll, Act.put, List.setIfInBounds_toArray, List.set_cons_zero, List.set_cons_succ]; rfl)) (hJ2_5_6_9_10_14 (b0, A0_, c0_, b1, A1_, c1_, b2, wz.heap.size) _ ⟨hHeld.1, Kd.R_below RV0.out (below_alloc (Below.refl wz.heap.size wz) (.cells #[] 9)), Kd.R_below RV1.out (below_alloc (Below.refl wz.heap.size wz) (.cells #[] 9)), ⟨((below_alloc (Below.refl wz.heap.size wz) (.cells #[] 9)).block _ (blk_lt PB2.out.1)).trans PB2.out.1, PB2.out.2⟩, ⟨blk_new wz _, HZ.out.size⟩⟩)
          · skip
            rintro ⟨b0, A0_, c0_, b1, A1_, c1_, b2, b3⟩ wz ⟨hF, hF0, hF1, hF2, hF3⟩
            try simp only at hF hF0 hF1 hF2 hF3
            have hHeld : Below w4.heap.size w4 wz ∧ wz.cell? ⟨g, 0, none⟩ = some (.slice Av k cv) ∧ wz.cell? ⟨y, 0, none⟩ = some (.slice Ao no co) ∧ wz.cell? ⟨y, 1, none⟩ = some (.slice Ai ni ci) ∧ wz.cell? ⟨y, 2, none⟩ = some (.slice Am nm cm) ∧ wz.cell? ⟨y, 3, none⟩ = some (.slice Ar nr cr) ∧ wz.cell? ⟨y, 4, none⟩ = some (.string e.cmd) ∧ wz.cell? ⟨y, 5, none⟩ = some (.string e.dep) := ⟨hF, pw_cell_below (hF) G0.out, pw_cell_below (hF) E0.out, pw_cell_below (hF) E1.out, pw_cell_below (hF) E2.out, pw_cell_below (hF) E3.out, pw_cell_below (hF) E4.out, pw_cell_below (hF) E5.out⟩
            have HZ := Lib.hid hF
            have RV0 := Lib.hid hF0
            have RV1 := Lib.hid hF1
            have PB2 := Lib.hid hF2
            have PB3 := Lib.hid hF3
            clear hF hF0 hF1 hF2 hF3
            refine norm_ (a' := ?_) ?_ ?_
            rotate_left
            · simp only [putAll, Act.put, List.setIfInBounds_toArray, List.set_cons_zero, List.set_cons_succ]
              rfl
            refine one_ (i := 13) (N := some 36) #[true, true, true, true, true, true, true, true, true, true, true, true, true, true, true, true, true, false, true, true, true, true, false, false, false, false, false] rfl rfl (by kernel_rfl) (by decide) (fun K hK => ?_)
            refine app_empty_step w4.heap.size rfl (.tmp 33) (.tmp 35) rfl b2 Am nm cm e.imp rfl rfl PB2.out.1 PB2.out.2 HZ.out.size (SM.out.below HZ.out) (by omega) ?_
            intro va wa ra ba
            obtain ⟨An, cn, ea⟩ := Kd.R_slice ra
            rw [← HNM.out] at ea
            subst ea
            skip
            refine hK.out _ _ ⟨HZ.out.trans (ba.mono HZ.out.size), pw_cell_below (HZ.out.trans (ba.mono HZ.out.size)) G0.out, pw_cell_below (HZ.out.trans (ba.mono HZ.out.size)) E0.out, pw_cell_below (HZ.out.trans (ba.mono HZ.out.size)) E1.out, pw_cell_below (HZ.out.trans (ba.mono HZ.out.size)) E2.out, pw_cell_below (HZ.out.trans (ba.mono HZ.out.size)) E3.out, pw_cell_below (HZ.out.trans (ba.mono HZ.out.size)) E4.out, pw_cell_below (HZ.out.trans (ba.mono HZ.out.size)) E5.out⟩ (fun hHeld => ?_)
            clear hK K
            refine norm_ (a' := ?_) ?_ ?_
            rotate_left
            · show Act.put _ (some 36) _ = _
              simp only [Act.put, List.setIfInBounds_toArray, List.set_cons_zero, List.set_cons_succ, i64_w, i32_w]
              rfl
            exact norm_ (by first | (simp only [putAll, Act.put, List.setIfInBounds_toArray, List.set_cons_zero, List.set_cons_succ]; done) | (simp only [putAll, Act.put, List.setIfInBounds_toArray, List.set_cons_zero, List.set_cons_succ]; rfl)) (hJ2_5_6_9_10_13_14 (b0, A0_, c0_, b1, A1_, c1_, b2, An, cn, b3) _ ⟨hHeld.1, Kd.R_below RV0.out ba, Kd.R_below RV1.out ba, ra, ⟨(ba.block _ (blk_lt PB3.out.1)).trans PB3.out.1, PB3.out.2⟩⟩)
        · skip
          rintro ⟨b0, A0_, c0_, b1, A1_, c1_, b2, A2_, c2_⟩ wz ⟨hF, hF0, hF1, hF2⟩
          try simp only at hF hF0 hF1 hF2
          have hHeld : Below w4.heap.size w4 wz ∧ wz.cell? ⟨g, 0, none⟩ = some (.slice Av k cv) ∧ wz.cell? ⟨y, 0, none⟩ = some (.slice Ao no co) ∧ wz.cell? ⟨y, 1, none⟩ = some (.slice Ai ni ci) ∧ wz.cell? ⟨y, 2, none⟩ = some (.slice Am nm cm) ∧ wz.cell? ⟨y, 3, none⟩ = some (.slice Ar nr cr) ∧ wz.cell? ⟨y, 4, none⟩ = some (.string e.cmd) ∧ wz.cell? ⟨y, 5, none⟩ = some (.string e.dep) := ⟨hF, pw_cell_below (hF) G0.out, pw_cell_below (hF) E0.out, pw_cell_below (hF) E1.out, pw_cell_below (hF) E2.out, pw_cell_below (hF) E3.out, pw_cell_below (hF) E4.out, pw_cell_below (hF) E5.out⟩
          have HZ := Lib.hid hF
          have RV0 := Lib.hid hF0
          have RV1 := Lib.hid hF1
          have RV2 := Lib.hid hF2
          clear hF hF0 hF1 hF2
          refine norm_ (a' := ?_) ?_ ?_
          rotate_left
          · simp only [putAll, Act.put, List.setIfInBounds_toArray, List.set_cons_zero, List.set_cons_succ]
            rfl
          refine one_ (i := 14) (N := some 37) #[true, true, true, true, true, true, true, true, true, true, true, true, true, true, true, true, true, false, true, true, true, true, false, false, false, false, false] rfl rfl (by kernel_rfl) (by decide) (fun K hK => ?_)
          refine value_ (w1 := ?_) (v := ?_) (by rfl) rfl ?_ ?_
          rotate_left 2
          · go_simp
            constructor
            · rfl
            · rfl
          refine hK.out _ _ ⟨HZ.out.alloc HZ.out.size _, pw_cell_below (HZ.out.alloc HZ.out.size _) G0.out, pw_cell_below (HZ.out.alloc HZ.out.size _) E0.out, pw_cell_below (HZ.out.alloc HZ.out.size _) E1.out, pw_cell_below (HZ.out.alloc HZ.out.size _) E2.out, pw_cell_below (HZ.out.alloc HZ.out.size _) E3.out, pw_cell_below (HZ.out.alloc HZ.out.size _) E4.out, pw_cell_below (HZ.out.alloc HZ.out.size _) E5.out⟩ (fun hHeld => ?_)
          clear hK K
          refine norm_ (a' := ?_) ?_ ?_
          rotate_left
          · show Act.put _ (some 37) _ = _
            simp only [Act.put, List.setIfInBounds_toArray, List.set_cons_zero, List.set_cons_succ, i64_w, i32_w]
            rfl
          exact norm_ (by first | (simp only [putAll, Act.put, List.setIfInBounds_toArray, List.set_cons_zero, List.set_cons_succ]; done) | (simp only [putAll, Act.put, List.setIfInBounds_toArray, List.set_cons_zero, List.set_cons_succ]; rfl)) (hJ2_5_6_9_10_13_14 (b0, A0_, c0_, b1, A1_, c1_, b2, A2_, c2_, wz.heap.size) _ ⟨hHeld.1, Kd.R_below RV0.out (below_alloc (Below.refl wz.heap.size wz) (.cells #[] 9)), Kd.R_below RV1.out (below_alloc (Below.refl wz.heap.size wz) (.cells #[] 9)), Kd.R_below RV2.out (below_alloc (Below.refl wz.heap.size wz) (.cells #[] 9)), ⟨blk_new wz _, HZ.out.size⟩⟩)
      rintro ⟨b0, A0_, c0_, b1, A1_, c1_, b2, A2_, c2_, b3⟩ wz ⟨hF, hF0, hF1, hF2, hF3⟩
      try simp only at hF hF0 hF1 hF2 hF3
      have hHeld : Below w4.heap.size w4 wz ∧ wz.cell? ⟨g, 0, none⟩ = some (.slice Av k cv) ∧ wz.cell? ⟨y, 0, none⟩ = some (.slice Ao no co) ∧ wz.cell? ⟨y, 1, none⟩ = some (.slice Ai ni ci) ∧ wz.cell? ⟨y, 2, none⟩ = some (.slice Am nm cm) ∧ wz.cell? ⟨y, 3, none⟩ = some (.slice Ar nr cr) ∧ wz.cell? ⟨y, 4, none⟩ = some (.string e.cmd) ∧ wz.cell? ⟨y, 5, none⟩ = some (.string e.dep) := ⟨hF, pw_cell_below (hF) G0.out, pw_cell_below (hF) E0.out, pw_cell_below (hF) E1.out, pw_cell_below (hF) E2.out, pw_cell_below (hF) E3.out, pw_cell_below (hF) E4.out, pw_cell_below (hF) E5.out⟩
      have HZ := Lib.hid hF
      have RV0 := Lib.hid hF0
      have RV1 := Lib.hid hF1
      have RV2 := Lib.hid hF2
      have PB3 := Lib.hid hF3
      clear hF hF0 hF1 hF2 hF3
      refine norm_ (a' := ?_) ?_ ?_
      rotate_left
      · simp only [putAll, Act.put, List.setIfInBounds_toArray, List.set_cons_zero, List.set_cons_succ]
        rfl
      refine one_ (i := 17) (N := some 40) #[true, true, true, true, true, true, true, true, true, true, true, true, true, true, true, true, true, true, true, true, true, true, false, false, false, false, false] rfl rfl (by kernel_rfl) (by decide) (fun K hK => ?_)
      refine app_empty_step w4.heap.size rfl (.tmp 37) (.tmp 39) rfl b3 Ar nr cr e.ord rfl rfl PB3.out.1 PB3.out.2 HZ.out.size (SR.out.below HZ.out) (by omega) ?_
      intro vy wy ra ba
      obtain ⟨An, cn, ea⟩ := Kd.R_slice ra
      rw [← HNR.out] at ea
      subst ea
      have HZ9 := Lib.hid (HZ.out.trans (ba.mono HZ.out.size))
      have RW3 := Lib.hid ra
      have RW0 := Lib.hid (Kd.R_below RV0.out ba)
      have RW1 := Lib.hid (Kd.R_below RV1.out ba)
      have RW2 := Lib.hid (Kd.R_below RV2.out ba)
      clear ra ba
      refine hK.out _ _ ⟨HZ9.out, pw_cell_below (HZ9.out) G0.out, pw_cell_below (HZ9.out) E0.out, pw_cell_below (HZ9.out) E1.out, pw_cell_below (HZ9.out) E2.out, pw_cell_below (HZ9.out) E3.out, pw_cell_below (HZ9.out) E4.out, pw_cell_below (HZ9.out) E5.out⟩ (fun hHeld => ?_)
      clear hK K
      refine norm_ (a' := ?_) ?_ ?_
      rotate_left
      · show Act.put _ (some 40) _ = _
        simp only [Act.put, List.setIfInBounds_toArray, List.set_cons_zero, List.set_cons_succ, i64_w, i32_w]
        rfl
      refine pure_ (i := 22) (N := some 45) (v := ?_) (a' := ?_) #[true, true, true, true, true, true, true, true, true, true, true, true, true, true, true, true, true, true, true, true, true, true, true, false, false, false, false] rfl rfl (by kernel_rfl) (fun _ _ _ h => h) (Or.inl ⟨by rfl, ?_⟩) ?_ ?_
      rotate_left
      · intro w'
        go_simp
        with_reducible rfl
      rotate_left
      · simp only [Act.put, List.setIfInBounds_toArray, List.set_cons_zero, List.set_cons_succ, i64_w, i32_w]
        rfl
      refine one_ (i := 23) (N := some 46) #[true, true, true, true, true, true, true, true, true, true, true, true, true, true, true, true, true, true, true, true, true, true, true, true, false, false, false] rfl rfl (by kernel_rfl) (by decide) (fun K hK => ?_)
      refine value_ (w1 := ?_) (v := ?_) (by rfl) rfl ?_ ?_
      rotate_left 2
      · go_simp
        constructor
        · rfl
        · rfl
      refine hK.out _ _ ⟨HZ9.out.alloc HZ9.out.size _, pw_cell_below (HZ9.out.alloc HZ9.out.size _) G0.out, pw_cell_below (HZ9.out.alloc HZ9.out.size _) E0.out, pw_cell_below (HZ9.out.alloc HZ9.out.size _) E1.out, pw_cell_below (HZ9.out.alloc HZ9.out.size _) E2.out, pw_cell_below (HZ9.out.alloc HZ9.out.size _) E3.out, pw_cell_below (HZ9.out.alloc HZ9.out.size _) E4.out, pw_cell_below (HZ9.out.alloc HZ9.out.size _) E5.out⟩ (fun hHeld => ?_)
      clear hK K
      refine norm_ (a' := ?_) ?_ ?_
      rotate_left
      · show Act.put _ (some 46) _ = _
        simp only [Act.put, List.setIfInBounds_toArray, List.set_cons_zero, List.set_cons_succ, i64_w, i32_w]
        rfl
      refine last_ (i := 24) (N := some 47) #[true, true, true, true, true, true, true, true, true, true, true, true, true, true, true, true, true, true, true, true, true, true, true, true, true, false, false] rfl rfl (by kernel_rfl) (by decide) (fun K hK => ?_)
      have HKz := Lib.hid (HK4.out.moved HZ9.out)
      have hle := Nat.le_trans HK4.out.below.size (Nat.le_refl _)
      have HEO : Hid (EdO Wb.heap.size (fun _ => True) wy (.slice A0_ no c0_) (.slice A1_ ni c1_) (.slice A2_ nm c2_) (.slice An nr cn) e) := ⟨Kd.R_lower RW0.out hle, Kd.R_lower RW1.out hle, Kd.R_lower RW2.out hle, Kd.R_lower RW3.out hle⟩
      refine app_edge_step (w0 := Wb) rfl (.tmp 24) (.tmp 46) rfl (.slice Av k cv) _ _ _ _ (m.edges.take k) e rfl rfl HKz.out.ed HKz.out.below HEO.out (by rw [List.length_take]; omega) ?_
      intro va wa ra _ ga
      rw [← HTE.out.1] at ra
      obtain ⟨Aa, ca, ea⟩ := Kd.R_slice ra
      have hva : ((m.edges.take (k + 1)).map EdgeV.x).length = k + 1 := by rw [List.length_map, List.length_take, ← HN.out]; omega
      rw [hva] at ea
      subst ea
      obtain ⟨e7, x7⟩ := HKz.out.edge ra ga
      have X7 := Lib.hid x7
      have fa := blk_frozen e7 0
      have ka := blk_cell e7 0
      clear ra ga hva e7 x7
      refine hK.out _ _ ?_
      clear hK K
      refine norm_ (a' := ?_) ?_ ?_
      rotate_left
      · show Act.put _ (some 47) _ = _
        simp only [Act.put, List.setIfInBounds_toArray, List.set_cons_zero, List.set_cons_succ, i64_w, i32_w]
        rfl
      refine pure_ (i := 25) (N := some 48) (v := ?_) (a' := ?_) #[true, true, true, true, true, true, true, true, true, true, true, true, true, true, true, true, true, true, true, true, true, true, true, true, true, true, false] rfl rfl (by kernel_rfl) (fun _ _ _ h => h) (Or.inl ⟨by rfl, ?_⟩) ?_ ?_
      rotate_left
      · intro w'
        go_simp
        with_reducible rfl
      rotate_left
      · simp only [Act.put, List.setIfInBounds_toArray, List.set_cons_zero, List.set_cons_succ, i64_w, i32_w]
        rfl
      refine last_ (i := 26) (N := none) #[true, true, true, true, true, true, true, true, true, true, true, true, true, true, true, true, true, true, true, true, true, true, true, true, true, true, true] rfl rfl (by kernel_rfl) (by decide) (fun K hK => ?_)
      refine skip_ (w1 := ?_) (by rfl) rfl ?_ ?_
      rotate_left
      · go_simp
        rfl
      refine hK.out _ _ ?_
      clear hK K
      refine done_ (by kernel_rfl) ?_
      --S3
      clear hHeld fa ka HK4 G0 E0 E1 E2 E3 E4 E5
      generalize wa.setCell ⟨g, 0, none⟩ (.slice Aa (k + 1) ca) = w8 at X7 ⊢
      go_wp2
      go_roundw
      case rel => exact ⟨k + 1, _, by omega, by go_num, X7.out⟩
      case measure => simp [intOf]; omega
    · --S4
      have hk2 : k = n := by omega
      have htk : m.edges.take k = m.edges := by rw [hk2, HN.out, List.take_length]
      have hk3 := hk2.symm
      rw [htk] at HK
      subst hk3
      clear htk hk2
      obtain ⟨w6, hw6⟩ : ∃ w6, w6 = wr := ⟨_, rfl⟩
      subst hw6
      have XR6 : Hid (w6.heap[x + 1]? = some (.cells #[.slice none 0 0, .slice none 0 0] 33 (0, 0))) := (HK.out.below.block (x + 1) (blk_lt HXR.out)).trans HXR.out
      have HBF : Hid (Below w.heap.size w w6) := HB1.out.trans (HK.out.below.mono HB1.out.size)
      go_wp2_with (with_reducible refine gate_ (.load 33 (.tmp 3)) rfl ?_; refine Held.of ?_)
      clear q0 l1 hk
      refine Held.out (wpList_load_row rfl 33 (.tmp 3) rfl g rfl 33 _ (0, 0) _ HK.out.gx Try.underlying33 rfl (by kernel_rfl) ?_)
      go_wp2_with (with_reducible refine gate_ (.store 33 (.tmp 2) (.tmp 49)) rfl ?_; refine Held.of ?_)
      refine Held.out (wpList_plain rfl fun K hK => wp_store_row 33 (.tmp 2) (.tmp 49) rfl (x + 1) #[.slice Av n cv, .slice A3 nd c3] rfl rfl 33 _ XR6.out (by kernel_rfl) rfl (by simp [Value.oneCell']) (hK _ _ ?_))
      have HY := Lib.hid (setRow_heap _ (x + 1) _ (#[.slice Av n cv, .slice A3 nd c3]) _ _ XR6.out)
      go_wp2
      (try simp only [Exit.inBlock, Exit.then])
      refine bodyPost_ret (results_cell_row rfl _ _ (x + 1) 33 _ (0, 0) _ rfl HY.out Try.underlying33 rfl (by kernel_rfl)) rfl ?_
      have hxw : w.heap.size ≤ x + 1 := by rw [HXX.out]; omega
      exact ⟨⟨_, _, rfl, ez_of_R (R_setRow HK.out.ed XR6.out (by decide) _), r_ss (R_setRow HK.out.df XR6.out (by decide) _)⟩, row_below (g := x + 1) HBF.out hxw _⟩
--END WALK
end Go.Proofs.Ytifbkojapfighaa.Gr
