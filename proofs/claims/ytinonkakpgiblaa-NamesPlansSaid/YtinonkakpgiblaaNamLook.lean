/- What is told of an output: names.(*Book).dep and Look (walks). -/
import Derived.Test.YtinonkakpgiblaaNamNames
namespace Go.Proofs.Ytinonkakpgiblaa.Nam
open Go.RowKit Go.Proofs.YtinonkakpgiblaaW.PrintWords Go.Proofs.YtinonkakpgiblaaW.PrintLast Go.Proofs.Ytinonkakpgiblaa.Base Go.Proofs.Ytinonkakpgiblaa.Pack Go.Maps
set_option linter.unusedVariables false
set_option linter.unusedSimpArgs false

/-- What was found, its names in a row of the call's own. -/
def DepO (base : Nat) (w : World) (v : Value) (d : DepV) : Prop := ∃ vd, v = .agg #[.string d.out, .int .i64 d.time, vd] ∧ Kd.string.R 9 w base (fun _ => True) vd d.deps
theorem DepO.is {base : Nat} {w : World} {v : Value} {d : DepV} (h : DepO base w v d) : DepIs w v d := by
  obtain ⟨vd, h1, h2⟩ := h
  exact ⟨vd, h1, r_ss h2⟩
theorem DepO.below {base : Nat} {w w1 : World} {v : Value} {d : DepV} (h : DepO base w v d) (hb : Below w.heap.size w w1) : DepO base w1 v d := by
  obtain ⟨vd, h1, h2⟩ := h
  exact ⟨vd, h1, Kd.R_below h2 hb⟩
theorem found_zero (w : World) : (zeroValue 82).run Try.prog w = .ok (.agg #[.int .i64 0, .slice none 0 0]) w := by kernel_rfl
/-- append(v, s) of one text, as a step. -/
theorem app_str_step {ops : Array Oper} {o : Oper} {a : Act} {Q : Exit → Act → World → Prop} {K : Act → World → Prop} {E : Prop} {w0 W : World} (base : Nat) (hgd : o.guard = none) (s x : Operand)
    (ho : o.op = .call { callee := .builtin .append, args := #[s, x], argTypes := #[22, 22] })
    (v : Value) (xs : List ByteArray) (y : ByteArray) (ok : Nat → Prop) (hs : a.eval s = v) (hx : a.eval x = .slice (some ⟨W.heap.size, 0, none⟩) 1 1)
    (HO : Kd.string.R 9 W base ok v xs) (hfresh : ∀ k, W.heap.size ≤ k → ok k) (HB : Below base w0 W) (hbase : base ≤ W.heap.size) (hl : (xs.length + 1) * 16 ≤ 140737488355328)
    (h : ∀ v1 w1, Kd.string.R 9 w1 base ok v1 (xs ++ [y]) → Below base w0 w1 → W.grownBy w1 v.ownBlock → K (a.put o.dst v1) w1) :
    if Region.wanted o (yielded ops a.tmps) = true then Oper.wp Try.prog o a (W.alloc (.cells #[.string y] 9)) K Q else E := by
  have hw : Region.wanted o (yielded ops a.tmps) = true := by simp [Region.wanted, hgd]
  have hK := Kd.R_append_step Kd.string (P := Try.prog) (Kc := K) (Q := Q) (ops := ops) (o := o) (a := a) (w0 := w0) (W := W) base hw s x 22 9 (.string ⟨#[]⟩) 16 ho Try.underlying22 (by kernel_rfl) rfl (by decide) (by decide) v xs y [.string y] ok (fun _ => False) hs hx rfl (fun _ h => h.elim) hfresh HO HB hbase hl (fun v1 w1 h1 h2 h3 _ => h v1 w1 h1 h2 h3)
  rw [if_pos hw] at hK ⊢
  exact hK
theorem r_int {w : World} {base : Nat} {ok : Nat → Prop} {e : Nat} {A : Option Addr} {n c : Nat} {xs : List Int} (h : (Kd.int .i64).R e w base ok (.slice A n c) xs) (k : Nat) (hk : k < xs.length) : ∃ ad, A = some ad ∧ w.cell? (ad.add k) = some (.int .i64 (xs.getD k 0)) := by
  obtain ⟨A', c', e', _, hC⟩ := Kd.R_reads h
  injection e' with e1
  subst e1
  obtain ⟨_, _, h3⟩ := Kd.reads_of_C (enc := Value.int .i64) (d := (0 : Int)) hC
  obtain ⟨ad, e, hc⟩ := h3 (by omega)
  exact ⟨ad, e, hc k hk⟩
theorem getD_map_cast (l : List Nat) (k : Nat) : (l.map fun n : Nat => (n : Int)).getD k 0 = ((l.getD k 0 : Nat) : Int) := by
  rw [List.getD_eq_getElem?_getD, List.getD_eq_getElem?_getD, List.getElem?_map]
  cases l[k]? <;> rfl
--BEGIN WALK
set_option maxRecDepth 100000 in
set_option maxHeartbeats 4000000 in
theorem dep_any (S : Nat → Prop) (c g : Nat) (b : BookV) (n : Nat) (f : FndV) (w : World) (hB : Bk S c w g b) (hf : b.os n = some f) (hc : c ≤ 1000000) (hfl : f.deps.length ≤ 1000000) :
    Calls Try.prog 36 #[.pointer (some ⟨g, 0, none⟩), .int .i64 (n : Int)] w fun e w' => ∃ v, e = .returned v ∧ DepO w.heap.size w' v (depV b n f) ∧ Below w.heap.size w w' := by
  have hgood := hB.good.at_ n f hf
  have hns : b.ns.length ≤ 1000000 := by have := hB.few; omega
  have hnn := hgood.1
  have HBK := Lib.hid hB
  obtain ⟨_, _, _, _, _, vn, m1, m2, n2, f2, h1, _, _, _, _, hRn, _, hM2, hO⟩ := hB
  obtain ⟨An, cn, en⟩ := Kd.R_slice hRn
  subst en
  have hss := r_ss hRn
  obtain ⟨fd, cs, e1, e2, hM⟩ : ∃ fd cs, b.os n = some fd ∧ f2 n = some (.agg cs.toArray) ∧ kfnd.M w 0 S fd.x cs := by
    rcases hO n with ⟨h, _⟩ | h
    · rw [hf] at h; cases h
    · exact h
  rw [hf] at e1
  injection e1 with e1
  subst e1
  obtain ⟨cs0, cs1, rfl, ec0, vdv, ec1, hRd⟩ := hM
  have ec0 : cs0 = [.int .i64 f.time] := ec0
  subst ec0
  subst ec1
  obtain ⟨Af, cf, ev⟩ := Kd.R_slice hRd
  subst ev
  obtain ⟨nf, hnf⟩ : ∃ nf, nf = f.x.2.length := ⟨_, rfl⟩
  rw [← hnf] at e2 hRd
  have hnf2 : nf = f.deps.length := by rw [hnf]; simp [FndV.x]
  have hlk := (hM2.look keyed_i Try.underlying67 (found_zero _) (s := n) (keyOf_i (by omega))).2
  rw [e2] at hlk
  have hlk2 : (Instr.lookup 67 (.map (some m2)) (.int .i64 (n : Int)) false).run Try.prog w = .ok (.agg #[.int .i64 f.time, .slice Af nf cf]) w := hlk
  have HLK := Lib.hid hlk2
  have HRD := Lib.hid hRd
  have HSS := Lib.hid hss
  have X1 := Lib.hid h1
  have HG := Lib.hid hgood
  have HNF := Lib.hid hnf2
  have hnfl : nf ≤ 1000000 := by omega
  obtain ⟨x, hx⟩ : ∃ x, w.heap.size = x := ⟨_, rfl⟩
  obtain ⟨Wb, hWb⟩ : ∃ Wb, Wb = (w.alloc (.cells #[.string ⟨#[]⟩, .int .i64 0, .slice none 0 0] 36)).alloc (.cells #[.int .i64 f.time, .slice Af nf cf] 82) := ⟨_, rfl⟩
  have hb1 := below_alloc (Below.refl w.heap.size w) (.cells #[.string ⟨#[]⟩, .int .i64 0, .slice none 0 0] 36)
  have hb0 : Below w.heap.size w Wb := by rw [hWb]; exact below_alloc hb1 _
  have hXf : Wb.heap[x + 1]? = some (.cells #[.int .i64 f.time, .slice Af nf cf] 82 (0, 0)) := by
    have h := blk_new (w.alloc (.cells #[.string ⟨#[]⟩, .int .i64 0, .slice none 0 0] 36)) (.cells #[.int .i64 f.time, .slice Af nf cf] 82)
    rw [hWb, ← hx]
    simpa using h
  have hXr : Wb.heap[x]? = some (.cells #[.string ⟨#[]⟩, .int .i64 0, .slice none 0 0] 36 (0, 0)) := by
    have h := blk_new w (.cells #[.string ⟨#[]⟩, .int .i64 0, .slice none 0 0] 36)
    have h2 := below_alloc (Below.refl (w.alloc (.cells #[.string ⟨#[]⟩, .int .i64 0, .slice none 0 0] 36)).heap.size (w.alloc (.cells #[.string ⟨#[]⟩, .int .i64 0, .slice none 0 0] 36))) (.cells #[.int .i64 f.time, .slice Af nf cf] 82)
    rw [hWb, ← hx]
    exact (h2.block w.heap.size (blk_lt h)).trans h
  have hws : Wb.heap.size = x + 1 + 1 := by rw [hWb, ← hx]; simp
  have XF := Lib.hid hXf
  have XR := Lib.hid hXr
  have HB0 := Lib.hid hb0
  have HWS := Lib.hid hws
  have HX_ := Lib.hid hx
  have HWB := Lib.hid hWb
  have g2 := blk_cell h1 2
  have hlt : g < x := by rw [← hx]; exact blk_lt h1
  have HKB := Lib.hid (HBK.out.below hb0)
  have hlk3 : (Instr.lookup 67 (.map (some m2)) (.int .i64 (n : Int)) false).run Try.prog (w.alloc (.cells #[.string ⟨#[]⟩, .int .i64 0, .slice none 0 0] 36)) = .ok (.agg #[.int .i64 f.time, .slice Af nf cf]) (w.alloc (.cells #[.string ⟨#[]⟩, .int .i64 0, .slice none 0 0] 36)) := by
    have h := ((hM2.below hb1).look keyed_i Try.underlying67 (found_zero _) (s := n) (keyOf_i (by omega))).2
    rw [e2] at h
    exact h
  clear h1 hRn hM2 hO hss hRd hnf hnf2 hlk hlk2 hb1 hb0 hXf hXr hws hWb hgood hf e2 HLK
  go_enter Try.func36, Try.ntmps36
  go_wp2
  rw [← HWB.out]
  try rw [hx]
  clear hx hlk3 g2 hlt
  --S1
  have SSB := Lib.hid (HSS.out.below HB0.out)
  obtain ⟨Ax, cx, ex, _, _, hcel⟩ := SSB.out
  injection ex with ex1 ex2 ex3
  subst ex1
  obtain ⟨ad, ead, hcell⟩ := hcel (by omega)
  subst ead
  have hcell : Wb.cell? (ad.add n) = some (.string (b.ns.getD n ⟨#[]⟩)) := hcell n hnn
  obtain ⟨nm, hnm⟩ : ∃ nm, nm = b.ns.getD n ⟨#[]⟩ := ⟨_, rfl⟩
  rw [← hnm] at hcell
  have HNM := Lib.hid hnm
  have XG := Lib.hid ((HB0.out.block _ (blk_lt X1.out)).trans X1.out)
  have C0 := Lib.hid (show Wb.cell? ⟨g, 0, none⟩ = some (.slice (some ad) b.ns.length cn) from blk_cell XG.out 0)
  have C1 := Lib.hid hcell
  have C2 := Lib.hid (show Wb.cell? ⟨x + 1, 0, none⟩ = some (.int .i64 f.time) from blk_cell XF.out 0)
  clear hcel ex2 ex3 hcell hnm
  refine start_ (n := 12) (S := fun w' => Below Wb.heap.size Wb w' ∧ w'.cell? ⟨g, 0, none⟩ = some (.slice (some ad) b.ns.length cn) ∧ w'.cell? (ad.add n) = some (.string nm) ∧ w'.cell? ⟨x + 1, 0, none⟩ = some (.int .i64 f.time)) (ds := [11]) #[false, false, false, false, false, false, false, false, false, false, false, false] (by kernel_rfl) rfl rfl ⟨Below.drew (Below.refl _ _), C0.out, C1.out, C2.out⟩ (fun hHeld => ?_)
  refine pure_ (i := 0) (N := some 15) (v := ?_) (a' := ?_) #[true, false, false, false, false, false, false, false, false, false, false, false] rfl rfl (by kernel_rfl) (fun _ _ _ h => h) (Or.inl ⟨by rfl, ?_⟩) ?_ ?_
  rotate_left
  · intro w'
    go_simp
    with_reducible rfl
  rotate_left
  · simp only [Act.put, List.setIfInBounds_toArray, List.set_cons_zero, List.set_cons_succ, i64_w, i32_w]
    rfl
  refine pure_ (i := 1) (N := some 16) (v := ?_) (a' := ?_) #[true, true, false, false, false, false, false, false, false, false, false, false] rfl rfl (by kernel_rfl) (fun _ _ _ h => h) (Or.inl ⟨by rfl, ?_⟩) ?_ ?_
  rotate_left
  · intro w'
    go_simp
    with_reducible rfl
  rotate_left
  · simp only [Act.put, List.setIfInBounds_toArray, List.set_cons_zero, List.set_cons_succ, i64_w, i32_w]
    rfl
  refine pure_ (i := 2) (N := some 17) (v := ?_) (a' := ?_) #[true, true, true, false, false, false, false, false, false, false, false, false] rfl rfl (by kernel_rfl) (fun _ _ _ h => h) (Or.inl ⟨by rfl, ?_⟩) ?_ ?_
  rotate_left
  · intro w'
    go_simp
    with_reducible rfl
  rotate_left
  · simp only [Act.put, List.setIfInBounds_toArray, List.set_cons_zero, List.set_cons_succ, i64_w, i32_w]
    rfl
  refine pure_ (i := 4) (N := some 19) (v := ?_) (a' := ?_) #[true, true, true, false, true, false, false, false, false, false, false, false] rfl rfl (by kernel_rfl) (fun _ _ _ h => h) (Or.inl ⟨by rfl, ?_⟩) ?_ ?_
  rotate_left
  · intro w'
    go_simp
    with_reducible rfl
  rotate_left
  · simp only [Act.put, List.setIfInBounds_toArray, List.set_cons_zero, List.set_cons_succ, i64_w, i32_w]
    rfl
  refine pure_ (i := 7) (N := some 22) (v := ?_) (a' := ?_) #[true, true, true, false, true, false, false, true, false, false, false, false] rfl rfl (by kernel_rfl) (fun _ _ _ h => h) (Or.inl ⟨by rfl, ?_⟩) ?_ ?_
  rotate_left
  · intro w'
    go_simp
    with_reducible rfl
  rotate_left
  · simp only [Act.put, List.setIfInBounds_toArray, List.set_cons_zero, List.set_cons_succ, i64_w, i32_w]
    rfl
  refine take_ (i := 3) (N := some 18) (v := ?_) (a' := ?_) #[true, true, true, true, true, false, false, true, false, false, false, false] rfl rfl (by kernel_rfl) (fun _ _ _ h => h) (Or.inl ⟨by rfl, ?_⟩) hHeld ?_ ?_
  rotate_left
  · rintro w' ⟨s0, s1, s2, s3⟩
    go_simp
    with_reducible rfl
  rotate_left
  · simp only [Act.put, List.setIfInBounds_toArray, List.set_cons_zero, List.set_cons_succ, i64_w, i32_w]
    rfl
  refine pure_ (i := 5) (N := some 20) (v := ?_) (a' := ?_) #[true, true, true, true, true, true, false, true, false, false, false, false] rfl rfl (by kernel_rfl) (fun _ _ _ h => h) (Or.inl ⟨by rfl, ?_⟩) ?_ ?_
  rotate_left
  · intro w'
    go_simp
    with_reducible rfl
  rotate_left
  · simp only [Act.put, List.setIfInBounds_toArray, List.set_cons_zero, List.set_cons_succ, i64_w, i32_w]
    rfl
  refine take_ (i := 6) (N := some 21) (v := ?_) (a' := ?_) #[true, true, true, true, true, true, true, true, false, false, false, false] rfl rfl (by kernel_rfl) (fun _ _ _ h => h) (Or.inl ⟨by rfl, ?_⟩) hHeld ?_ ?_
  rotate_left
  · rintro w' ⟨s0, s1, s2, s3⟩
    go_simp
    with_reducible rfl
  rotate_left
  · simp only [Act.put, List.setIfInBounds_toArray, List.set_cons_zero, List.set_cons_succ, i64_w, i32_w]
    rfl
  refine take_ (i := 8) (N := some 23) (v := ?_) (a' := ?_) #[true, true, true, true, true, true, true, true, true, false, false, false] rfl rfl (by kernel_rfl) (fun _ _ _ h => h) (Or.inl ⟨by rfl, ?_⟩) hHeld ?_ ?_
  rotate_left
  · rintro w' ⟨s0, s1, s2, s3⟩
    go_simp
    with_reducible rfl
  rotate_left
  · simp only [Act.put, List.setIfInBounds_toArray, List.set_cons_zero, List.set_cons_succ, i64_w, i32_w]
    rfl
  refine pure_ (i := 9) (N := some 24) (v := ?_) (a' := ?_) #[true, true, true, true, true, true, true, true, true, true, false, false] rfl rfl (by kernel_rfl) (fun _ _ _ h => h) (Or.inl ⟨by rfl, ?_⟩) ?_ ?_
  rotate_left
  · intro w'
    go_simp
    with_reducible rfl
  rotate_left
  · simp only [Act.put, List.setIfInBounds_toArray, List.set_cons_zero, List.set_cons_succ, i64_w, i32_w]
    rfl
  refine one_ (i := 10) (N := some 6) #[true, true, true, true, true, true, true, true, true, true, true, false] rfl rfl (by kernel_rfl) (by decide) (fun K hK => ?_)
  refine value_ (w1 := ?_) (v := ?_) (by rfl) rfl ?_ ?_
  rotate_left 2
  · go_simp
    constructor
    · rfl
    · rfl
  have HZ : Hid ((Wb.drew.alloc (.cells #[.string ⟨#[]⟩, .int .i64 0, .slice none 0 0] 36)).heap[Wb.heap.size]? = some (.cells #[.string ⟨#[]⟩, .int .i64 0, .slice none 0 0] 36 (0, 0))) := blk_new Wb.drew _
  refine hK.out _ _ ⟨hHeld.1.alloc hHeld.1.size _, pw_cell_below (hHeld.1.alloc hHeld.1.size _) C0.out, pw_cell_below (hHeld.1.alloc hHeld.1.size _) C1.out, pw_cell_below (hHeld.1.alloc hHeld.1.size _) C2.out⟩ (fun hHeld => ?_)
  clear hK K
  refine norm_ (a' := ?_) ?_ ?_
  rotate_left
  · show Act.put _ (some 6) _ = _
    simp only [Act.put, List.setIfInBounds_toArray, List.set_cons_zero, List.set_cons_succ, i64_w, i32_w]
    rfl
  refine last_ (i := 11) (N := none) #[true, true, true, true, true, true, true, true, true, true, true, true] rfl rfl (by kernel_rfl) (by decide) (fun K hK => ?_)
  refine put_row_step rfl rfl 36 (.tmp 6) (.tmp 24) rfl Wb.heap.size _ rfl rfl 36 _ HZ.out (by kernel_rfl) rfl (by simp [Value.oneCell']) ?_
  refine hK.out _ _ ?_
  clear hK K
  refine done_ (by kernel_rfl) ?_
  --S2
  obtain ⟨wd, hwd⟩ : ∃ wd, wd = (Wb.alloc (.cells #[.string ⟨#[]⟩, .int .i64 0, .slice none 0 0] 36)).drew.setRow Wb.heap.size #[.string nm, .int .i64 f.time, .slice none 0 0] := ⟨_, rfl⟩
  have hbd : Below Wb.heap.size Wb wd := by rw [hwd]; exact row_below hHeld.1 (Nat.le_refl _) _
  have hXd : wd.heap[Wb.heap.size]? = some (.cells #[.string nm, .int .i64 f.time, .slice none 0 0] 36 (0, 0)) := by rw [hwd]; exact setRow_heap _ _ _ _ _ _ HZ.out
  obtain ⟨y, hy⟩ : ∃ y, Wb.heap.size = y := ⟨_, rfl⟩
  rw [hy] at hXd
  rw [← hwd]
  try rw [hy]
  have HBD := Lib.hid (HB0.out.trans (hbd.mono HB0.out.size))
  have XD := Lib.hid hXd
  have HYE := Lib.hid hy
  have XF2 := Lib.hid ((hbd.block _ (blk_lt XF.out)).trans XF.out)
  have XR2 := Lib.hid ((hbd.block _ (blk_lt XR.out)).trans XR.out)
  have f1 := blk_cell XF2.out 1
  clear hwd hbd hXd hHeld HZ hy
  go_wp2
  clear f1
  --S3
  go_loopw [28] (fun i wr => ∃ (k : Nat) (vd : Value), k ≤ nf ∧ i = .int .i64 k ∧ Hid (wr.heap[y]? = some (.cells #[.string nm, .int .i64 f.time, vd] 36 (0, 0))) ∧ Hid (Kd.string.R 9 wr y (fun _ => True) vd ((f.deps.take k).map fun j => b.ns.getD j ⟨#[]⟩)) ∧ Hid (Below y wd wr)) (fun i _ => nf - (intOf i).toNat)
  case atStart => exact ⟨0, _, by omega, rfl, XD.out, by rw [List.take_zero]; exact Kd.R_nil _ _ _ _ _, Below.refl _ _⟩
  case round =>
    obtain ⟨k, vd, hk, rfl, HX, HR, HB⟩ := hrel
    have hyx : y = x + 1 + 1 := by have h1 := HYE.out; have h2 := HWS.out; omega
    have HYX := Lib.hid hyx
    have hyw : w.heap.size ≤ y := by have h1 := HX_.out; omega
    have HYW := Lib.hid hyw
    have hsz := HBD.out.size
    have hbw : Below w.heap.size w wr := HBD.out.trans (HB.out.mono hyw)
    have HBW := Lib.hid hbw
    have hyr : y ≤ wr.heap.size := Nat.le_of_lt (blk_lt HX.out)
    have HYR := Lib.hid hyr
    obtain ⟨Av, cv, ev⟩ := Kd.R_slice HR.out
    subst ev
    obtain ⟨nv, hnv⟩ : ∃ nv, nv = ((f.deps.take k).map fun j => b.ns.getD j ⟨#[]⟩).length := ⟨_, rfl⟩
    rw [← hnv] at HX HR
    rw [List.length_map, List.length_take, Nat.min_eq_left (by have := HNF.out; omega)] at hnv
    have HNV := Lib.hid hnv
    clear hyw hyx hsz hnv hyr
    by_cases l1 : k < nf
    · have hkl : k < f.deps.length := by rw [← HNF.out]; exact l1
      obtain ⟨hTK, hmem⟩ := take_at f.deps 0 k hkl
      have hjn := HG.out.2.1 _ hmem
      obtain ⟨af, ef, qf⟩ := r_int HRD.out k (by rw [FndV.x, List.length_map]; exact hkl)
      subst ef
      rw [FndV.x, getD_map_cast] at qf
      obtain ⟨Ax, cx, ex, _, _, hcel⟩ := HSS.out
      injection ex with ex1 ex2 ex3
      subst ex1
      obtain ⟨ad', ead, hcell⟩ := hcel (by omega)
      injection ead with ead
      subst ead
      have hname := hcell _ hjn
      have q0 := pw_cell_below HBW.out qf
      have q1 := pw_cell_below HBW.out hname
      have hTM : (f.deps.take (k + 1)).map (fun j => b.ns.getD j ⟨#[]⟩) = (f.deps.take k).map (fun j => b.ns.getD j ⟨#[]⟩) ++ [b.ns.getD (f.deps.getD k 0) ByteArray.empty] := by rw [hTK, List.map_append]; rfl
      have HTM := Lib.hid hTM
      clear hTM hTK hmem hkl hcel hcell hname qf ex2 ex3
      generalize f.deps.getD k 0 = kj at q0 q1 hjn HTM
      generalize b.ns.getD kj ByteArray.empty = sj at q1 HTM
      have XGr := (HBW.out.block _ (blk_lt X1.out)).trans X1.out
      have P0 := Lib.hid (show wr.cell? ⟨y, 2, none⟩ = some (.slice Av nv cv) from blk_cell HX.out 2)
      have P1 := Lib.hid (show wr.cell? ⟨g, 0, none⟩ = some (.slice (some ad) b.ns.length cn) from blk_cell XGr 0)
      have P2 := Lib.hid q1
      have HRd : Hid (Kd.string.R 9 wr.drew y (fun _ => True) (.slice Av nv cv) ((f.deps.take k).map fun j => b.ns.getD j ⟨#[]⟩)) := Kd.R_step HR.out (fun _ _ _ => rfl)
      have HXd : Hid (wr.drew.heap[y]? = some (.cells #[.string nm, .int .i64 f.time, .slice Av nv cv] 36 (0, 0))) := HX.out
      have HLEN : Hid (((f.deps.take k).map fun j => b.ns.getD j ⟨#[]⟩).length ≤ 1000000) := by show List.length _ ≤ 1000000; rw [List.length_map, List.length_take]; omega
      clear XGr q1
      go_wp2
      --S4
      refine start_ (n := 13) (S := fun w' => Below wr.heap.size wr w' ∧ w'.cell? ⟨y, 2, none⟩ = some (.slice Av nv cv) ∧ w'.cell? ⟨g, 0, none⟩ = some (.slice (some ad) b.ns.length cn) ∧ w'.cell? (ad.add kj) = some (.string sj)) (ds := [10, 12]) #[false, false, false, false, false, false, false, false, false, false, false, false, false] (by kernel_rfl) rfl rfl ⟨Below.drew (Below.refl _ _), P0.out, P1.out, P2.out⟩ (fun hHeld => ?_)
      refine pure_ (i := 0) (N := some 32) (v := ?_) (a' := ?_) #[true, false, false, false, false, false, false, false, false, false, false, false, false] rfl rfl (by kernel_rfl) (fun _ _ _ h => h) (Or.inl ⟨by rfl, ?_⟩) ?_ ?_
      rotate_left
      · intro w'
        go_simp
        with_reducible rfl
      rotate_left
      · simp only [Act.put, List.setIfInBounds_toArray, List.set_cons_zero, List.set_cons_succ, i64_w, i32_w]
        rfl
      refine pure_ (i := 2) (N := some 34) (v := ?_) (a' := ?_) #[true, false, true, false, false, false, false, false, false, false, false, false, false] rfl rfl (by kernel_rfl) (fun _ _ _ h => h) (Or.inl ⟨by rfl, ?_⟩) ?_ ?_
      rotate_left
      · intro w'
        go_simp
        with_reducible rfl
      rotate_left
      · simp only [Act.put, List.setIfInBounds_toArray, List.set_cons_zero, List.set_cons_succ, i64_w, i32_w]
        rfl
      refine pure_ (i := 3) (N := some 35) (v := ?_) (a' := ?_) #[true, false, true, true, false, false, false, false, false, false, false, false, false] rfl rfl (by kernel_rfl) (fun _ _ _ h => h) (Or.inl ⟨by rfl, ?_⟩) ?_ ?_
      rotate_left
      · intro w'
        go_simp
        with_reducible rfl
      rotate_left
      · simp only [Act.put, List.setIfInBounds_toArray, List.set_cons_zero, List.set_cons_succ, i64_w, i32_w]
        rfl
      refine pure_ (i := 4) (N := some 36) (v := ?_) (a' := ?_) #[true, false, true, true, true, false, false, false, false, false, false, false, false] rfl rfl (by kernel_rfl) (fun _ _ _ h => h) (Or.inl ⟨by rfl, ?_⟩) ?_ ?_
      rotate_left
      · intro w'
        go_simp
        with_reducible rfl
      rotate_left
      · simp only [Act.put, List.setIfInBounds_toArray, List.set_cons_zero, List.set_cons_succ, i64_w, i32_w]
        rfl
      refine pure_ (i := 6) (N := some 38) (v := ?_) (a' := ?_) #[true, false, true, true, true, false, true, false, false, false, false, false, false] rfl rfl (by kernel_rfl) (fun _ _ _ h => h) (Or.inl ⟨by rfl, ?_⟩) ?_ ?_
      rotate_left
      · intro w'
        go_simp
        with_reducible rfl
      rotate_left
      · simp only [Act.put, List.setIfInBounds_toArray, List.set_cons_zero, List.set_cons_succ, i64_w, i32_w]
        rfl
      refine take_ (i := 1) (N := some 33) (v := ?_) (a' := ?_) #[true, true, true, true, true, false, true, false, false, false, false, false, false] rfl rfl (by kernel_rfl) (fun _ _ _ h => h) (Or.inl ⟨by rfl, ?_⟩) hHeld ?_ ?_
      rotate_left
      · rintro w' ⟨s0, s1, s2, s3⟩
        go_simp
        with_reducible rfl
      rotate_left
      · simp only [Act.put, List.setIfInBounds_toArray, List.set_cons_zero, List.set_cons_succ, i64_w, i32_w]
        rfl
      refine take_ (i := 5) (N := some 37) (v := ?_) (a' := ?_) #[true, true, true, true, true, true, true, false, false, false, false, false, false] rfl rfl (by kernel_rfl) (fun _ _ _ h => h) (Or.inl ⟨by rfl, ?_⟩) hHeld ?_ ?_
      rotate_left
      · rintro w' ⟨s0, s1, s2, s3⟩
        go_simp
        with_reducible rfl
      rotate_left
      · simp only [Act.put, List.setIfInBounds_toArray, List.set_cons_zero, List.set_cons_succ, i64_w, i32_w]
        rfl
      refine pure_ (i := 7) (N := some 39) (v := ?_) (a' := ?_) #[true, true, true, true, true, true, true, true, false, false, false, false, false] rfl rfl (by kernel_rfl) (fun _ _ _ h => h) (Or.inl ⟨by rfl, ?_⟩) ?_ ?_
      rotate_left
      · intro w'
        go_simp
        with_reducible rfl
      rotate_left
      · simp only [Act.put, List.setIfInBounds_toArray, List.set_cons_zero, List.set_cons_succ, i64_w, i32_w]
        rfl
      refine take_ (i := 8) (N := some 40) (v := ?_) (a' := ?_) #[true, true, true, true, true, true, true, true, true, false, false, false, false] rfl rfl (by kernel_rfl) (fun _ _ _ h => h) (Or.inl ⟨by rfl, ?_⟩) hHeld ?_ ?_
      rotate_left
      · rintro w' ⟨s0, s1, s2, s3⟩
        go_simp
        with_reducible rfl
      rotate_left
      · simp only [Act.put, List.setIfInBounds_toArray, List.set_cons_zero, List.set_cons_succ, i64_w, i32_w]
        rfl
      refine one_ (i := 9) (N := some 41) #[true, true, true, true, true, true, true, true, true, true, false, false, false] rfl rfl (by kernel_rfl) (by decide) (fun K hK => ?_)
      refine value_ (w1 := ?_) (v := ?_) (by rfl) rfl ?_ ?_
      rotate_left 2
      · go_simp
        constructor
        · rfl
        · rfl
      refine hK.out _ _ ⟨hHeld.1.alloc hHeld.1.size _, pw_cell_below (hHeld.1.alloc hHeld.1.size _) P0.out, pw_cell_below (hHeld.1.alloc hHeld.1.size _) P1.out, pw_cell_below (hHeld.1.alloc hHeld.1.size _) P2.out⟩ (fun hHeld => ?_)
      clear hK K
      refine norm_ (a' := ?_) ?_ ?_
      rotate_left
      · show Act.put _ (some 41) _ = _
        simp only [Act.put, List.setIfInBounds_toArray, List.set_cons_zero, List.set_cons_succ, i64_w, i32_w]
        rfl
      refine last_ (i := 10) (N := some 42) #[true, true, true, true, true, true, true, true, true, true, true, false, false] rfl rfl (by kernel_rfl) (by decide) (fun K hK => ?_)
      refine app_str_step (w0 := wr.drew) y rfl (.tmp 33) (.tmp 41) rfl (.slice Av nv cv) _ sj (fun _ => True) rfl rfl HRd.out (fun _ _ => trivial) (Below.refl _ _) HYR.out (by have := HLEN.out; omega) ?_
      intro va wa ra ba ga
      obtain ⟨Aa, ca, ea⟩ := Kd.R_slice ra
      obtain ⟨na, hna⟩ : ∃ na, na = (((f.deps.take k).map fun j => b.ns.getD j ⟨#[]⟩) ++ [sj]).length := ⟨_, rfl⟩
      rw [← hna] at ea
      subst ea
      have hne : some y ≠ (Value.slice Av nv cv).ownBlock := Kd.R_ne HRd.out HXd.out (by decide)
      have XA : Hid (wa.heap[y]? = some (.cells #[.string nm, .int .i64 f.time, .slice Av nv cv] 36 (0, 0))) := blk_grown HXd.out ga hne
      have HRA := Lib.hid ra
      have HBA : Hid (Below y wr wa) := Below.trans (Below.drew (Below.refl y wr)) ba
      have fa := blk_frozen XA.out 2
      have ka := blk_cell XA.out 2
      clear ra ba ga hna hne
      refine hK.out _ _ ?_
      clear hK K
      refine norm_ (a' := ?_) ?_ ?_
      rotate_left
      · show Act.put _ (some 42) _ = _
        simp only [Act.put, List.setIfInBounds_toArray, List.set_cons_zero, List.set_cons_succ, i64_w, i32_w]
        rfl
      refine pure_ (i := 11) (N := some 43) (v := ?_) (a' := ?_) #[true, true, true, true, true, true, true, true, true, true, true, true, false] rfl rfl (by kernel_rfl) (fun _ _ _ h => h) (Or.inl ⟨by rfl, ?_⟩) ?_ ?_
      rotate_left
      · intro w'
        go_simp
        with_reducible rfl
      rotate_left
      · simp only [Act.put, List.setIfInBounds_toArray, List.set_cons_zero, List.set_cons_succ, i64_w, i32_w]
        rfl
      refine last_ (i := 12) (N := none) #[true, true, true, true, true, true, true, true, true, true, true, true, true] rfl rfl (by kernel_rfl) (by decide) (fun K hK => ?_)
      refine skip_ (w1 := ?_) (by rfl) rfl ?_ ?_
      rotate_left
      · go_simp
        rfl
      refine hK.out _ _ ?_
      clear hK K
      refine done_ (by kernel_rfl) ?_
      --S5
      have HF1 : Hid ((wa.setCell ⟨y, 2, none⟩ (.slice Aa na ca)).heap[y]? = some (.cells #[.string nm, .int .i64 f.time, .slice Aa na ca] 36 (0, 0))) := blk_set XA.out 2 _
      have HF2 : Hid (Kd.string.R 9 (wa.setCell ⟨y, 2, none⟩ (.slice Aa na ca)) y (fun _ => True) (.slice Aa na ca) ((f.deps.take (k + 1)).map fun j => b.ns.getD j ⟨#[]⟩)) := by
        have h := Kd.R_set HRA.out XA.out (by decide) 2 (.slice Aa na ca)
        show Kd.R _ _ _ _ _ _ _
        rw [HTM.out]
        exact h
      have HF3 : Hid (Below y wd (wa.setCell ⟨y, 2, none⟩ (.slice Aa na ca))) := (HB.out.trans HBA.out).setCell (Nat.le_refl _) _
      clear hHeld fa ka
      go_wp2
      go_roundw
      case rel => exact ⟨k + 1, _, by omega, by go_num, HF1.out, HF2.out, HF3.out⟩
      case measure => simp [intOf]; omega
    · have hk2 : k = nf := by omega
      have HRE : Hid (Kd.string.R 9 wr y (fun _ => True) (.slice Av nv cv) (f.deps.map fun j => b.ns.getD j ⟨#[]⟩)) := by
        have h := HR.out
        rw [hk2, HNF.out, List.take_length] at h
        exact h
      have XRr : Hid (wr.heap[x]? = some (.cells #[.string ⟨#[]⟩, .int .i64 0, .slice none 0 0] 36 (0, 0))) := (HB.out.block x (by have := HYX.out; omega)).trans XR2.out
      clear hk2
      go_wp2_with (with_reducible refine gate_ (.load 36 (.tmp 6)) rfl ?_; refine Held.of ?_)
      refine Held.out (wpList_load_row rfl 36 (.tmp 6) rfl y rfl 36 _ (0, 0) _ HX.out Try.underlying36 rfl (by kernel_rfl) ?_)
      go_wp2_with (with_reducible refine gate_ (.store 36 (.tmp 4) (.tmp 45)) rfl ?_; refine Held.of ?_)
      refine Held.out (wpList_plain rfl fun K hK => wp_store_row 36 (.tmp 4) (.tmp 45) rfl x _ rfl rfl 36 _ XRr.out (by kernel_rfl) rfl (by simp [Value.oneCell']) (hK _ _ ?_))
      have HY := Lib.hid (setRow_heap wr x _ (#[.string nm, .int .i64 f.time, .slice Av nv cv]) _ _ XRr.out)
      go_wp2
      (try simp only [Exit.inBlock, Exit.then])
      refine bodyPost_ret (results_cell_row rfl _ _ x 36 _ (0, 0) _ rfl HY.out Try.underlying36 rfl (by kernel_rfl)) rfl ?_
      refine ⟨_, rfl, ⟨_, by rw [HNM.out]; rfl, ?_⟩, ?_⟩
      · exact Kd.R_lower (R_setRow HRE.out XRr.out (by decide) _) HYW.out
      · exact row_below HBW.out (by have := HX_.out; omega) _
--END WALK
end Go.Proofs.Ytinonkakpgiblaa.Nam
