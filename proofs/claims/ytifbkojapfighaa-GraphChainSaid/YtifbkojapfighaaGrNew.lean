/- graph.New (walk). -/
import Derived.Test.YtifbkojapfighaaGrNewKit
namespace Go.Proofs.Ytifbkojapfighaa.Gr
open Go.RowKit Go.Proofs.YtifbkojapfighaaW.PrintWords Go.Proofs.YtifbkojapfighaaW.PrintLast Go.Proofs.Ytifbkojapfighaa.Base Go.Maps
set_option linter.unusedVariables false
set_option linter.unusedSimpArgs false

/-- The graph under way. -/
structure Na (w0 w : World) (g mk : Nat) (ve vd va : Value) (es : List EdgeV) (ds : List ByteArray) (mf : ByteArray → Option Nat) (c : Nat) : Prop where
  gx : w.heap[g]? = some (.cells #[ve, vd, .map (some mk), va] 70 (0, 0))
  ed : kedge.R 44 w w0.heap.size (fun _ => True) ve (es.map EdgeV.x)
  df : Kd.string.R 9 w w0.heap.size (fun _ => True) vd ds
  mp : ∃ n, n ≤ c ∧ MMap w mk n mf
  below : Below w0.heap.size w0 w
  hg : w0.heap.size ≤ g
  hm : w0.heap.size ≤ mk
section
variable {w0 w w1 : World} {g mk c : Nat} {ve vd va v1 : Value} {es es1 : List EdgeV} {ds : List ByteArray} {mf : ByteArray → Option Nat}
theorem Na.moved (h : Na w0 w g mk ve vd va es ds mf c) (hb : Below w.heap.size w w1) : Na w0 w1 g mk ve vd va es ds mf c := by
  obtain ⟨n, h3, h4⟩ := h.mp
  exact ⟨(hb.block _ (blk_lt h.gx)).trans h.gx, Kd.R_below h.ed hb, Kd.R_below h.df hb, ⟨n, h3, VMap.below h4 hb⟩, h.below.trans (hb.mono h.below.size), h.hg, h.hm⟩
/-- An edge more. -/
theorem Na.edge (h : Na w0 w g mk ve vd va es ds mf c) (r1 : kedge.R 44 w1 w0.heap.size (fun _ => True) v1 (es1.map EdgeV.x)) (g1 : w.grownBy w1 ve.ownBlock) :
    w1.heap[g]? = some (.cells #[ve, vd, .map (some mk), va] 70 (0, 0)) ∧ Na w0 (w1.setCell ⟨g, 0, none⟩ v1) g mk v1 vd va es1 ds mf c := by
  have hty := Kd.R_typed h.ed
  have e1 := blk_grown h.gx g1 (Kd.R_ne h.ed h.gx (by decide))
  have hb : Below w0.heap.size w0 w1 := h.below.grown g1 h.below.size (fun q hq => Kd.R_base h.ed q hq)
  obtain ⟨n, h3, h4⟩ := h.mp
  refine ⟨e1, blk_set e1 0 v1, Kd.R_set r1 e1 (by decide) 0 v1, Kd.R_set (R_row h.df g1 (fun k e t ht => ?_)) e1 (by decide) 0 v1, ⟨n, h3, VMap.set (VMap.grown h4 g1 (fun q hq => ?_)) e1 0 v1⟩, hb.setCell h.hg _, h.hg, h.hm⟩
  · obtain ⟨cells, hc⟩ := hty k e
    exact not_cells hc (by intro he; subst he; revert ht; decide)
  · obtain ⟨cells, hc⟩ := hty q hq
    exact ⟨cells, _, hc⟩
/-- A maker more. -/
theorem Na.put (h : Na w0 w g mk ve vd va es ds mf c) (s : ByteArray) (n : Nat) (hs : s.size ≤ maxLen) (hc : c ≤ 1000000) :
    ∃ w1, (Instr.mapUpdate 67 (.map (some mk)) (.string s) (.int .i64 (n : Int))).run Try.prog w = .ok () w1 ∧ Na w0 w1 g mk ve vd va es ds (fun s' => if s' = s then some n else mf s') (c + 1) := by
  obtain ⟨m, hm1, hm⟩ := h.mp
  obtain ⟨w1, r1, m1, g1, z1⟩ := VMap.store hm keyed_s Try.underlying67 (by simp only [maxLen]; omega) (s := s) (keyOf_s hs) (skey_lit s) (fun s' h => skey_inj h) (.int .i64 (n : Int))
  refine ⟨w1, r1, (g1.block _ (blk_lt h.gx) (fun e => VMap.ne hm h.gx (Option.some.inj e).symm)).trans h.gx, R_q h.ed (fun t _ cells => VMap.no_cells hm) (fun i hi hne => g1.block i hi (fun e => hne (Option.some.inj e))), R_q h.df (fun t _ cells => VMap.no_cells hm) (fun i hi hne => g1.block i hi (fun e => hne (Option.some.inj e))), ⟨_, ?_, VMap.congr m1 fun s' => ?_⟩, h.below.grown g1 h.below.size (fun q hq => by rw [← Option.some.inj hq]; exact h.hm), h.hg, h.hm⟩
  · have h9 : ∀ p : Prop, ∀ _ : Decidable p, (if p then m else m + 1) ≤ m + 1 := fun p _ => by split <;> omega
    exact Nat.le_trans (h9 _ _) (by omega)
  · show Option.map _ (if s' = s then some n else mf s') = if s' = s then _ else _
    by_cases e : s' = s
    · rw [if_pos e, if_pos e]; rfl
    · rw [if_neg e, if_neg e]
theorem Na.congr (h : Na w0 w g mk ve vd va es ds mf c) {mf' : ByteArray → Option Nat} (he : ∀ s, mf' s = mf s) : Na w0 w g mk ve vd va es ds mf' c := by
  have : mf' = mf := funext he
  rw [this]
  exact h
theorem Na.more (h : Na w0 w g mk ve vd va es ds mf c) {c' : Nat} (hc : c ≤ c') : Na w0 w g mk ve vd va es ds mf c' := by
  obtain ⟨n, h3, h4⟩ := h.mp
  exact ⟨h.gx, h.ed, h.df, ⟨n, Nat.le_trans h3 hc, h4⟩, h.below, h.hg, h.hm⟩
end
abbrev kints : Kd (List Int) := Kd.slice 3 (Kd.int .i64)
theorem iss_of_R {base : Nat} {ok : Nat → Prop} {w : World} {v : Value} {ls : List (List Nat)} (h : kints.R 37 w base ok v (ls.map ints)) : Iss w v ls := by
  obtain ⟨A, c, rfl, hc, hr⟩ := Kd.R_reads h
  rw [List.length_map] at *
  refine ⟨A, c, rfl, hc, hr.2.1, fun hp => ?_⟩
  obtain ⟨ad, e, hcell⟩ := hr.2.2 hp
  refine ⟨ad, e, fun i hi => ?_⟩
  have hd : (ls.map ints)[i]? = some (ints (ls.getD i [])) := by
    rw [List.getElem?_map, List.getElem?_eq_getElem hi, List.getD_eq_getElem?_getD, List.getElem?_eq_getElem hi]
    rfl
  obtain ⟨cs, _, hk, hcs⟩ := hcell i _ hd
  obtain ⟨A', c', rfl, hc', hC⟩ := hk
  refine ⟨_, by have := hcs 0 _ rfl; rwa [show i * kints.sz + 0 = i from by show i * 1 + 0 = i; omega] at this, ?_⟩
  have h1 := Kd.reads_of_C (enc := Value.int .i64) (d := (0 : Int)) hC
  have hl : (ints (ls.getD i [])).length = (ls.getD i []).length := List.length_map _
  refine ⟨A', c', by rw [hl], by rw [← hl]; exact hc', by rw [← hl]; exact h1.2.1, fun hp => ?_⟩
  obtain ⟨ad', e', hcell'⟩ := h1.2.2 (by rw [hl]; exact hp)
  refine ⟨ad', e', fun j hj => ?_⟩
  have h2 := hcell' j (by rw [hl]; exact hj)
  rw [getD_cast] at h2
  exact h2
/-- The second half: the rows of what stands ahead. -/
structure Nb (w0 w : World) (g mk : Nat) (ve vd va : Value) (m : ManV) (c : Nat) (ahs : List (List Nat)) (vl : Value) (all : List Nat) : Prop where
  na : Na w0 w g mk ve vd va m.edges m.defs (makerOf m.edges) c
  ah : kints.R 37 w w0.heap.size (fun k => True ∧ some k ≠ vl.ownBlock) va (ahs.map ints)
  al : Ir w0.heap.size w vl all
section
variable {w0 w w1 : World} {g mk c : Nat} {ve vd va vl v1 : Value} {m : ManV} {ahs ahs1 : List (List Nat)} {all all1 : List Nat}
theorem Nb.moved (h : Nb w0 w g mk ve vd va m c ahs vl all) (hb : Below w.heap.size w w1) : Nb w0 w1 g mk ve vd va m c ahs vl all := ⟨h.na.moved hb, Kd.R_below h.ah hb, Kd.R_below h.al hb⟩
theorem Nb.row (h : Nb w0 w g mk ve vd va m c ahs vl all) (r1 : kints.R 37 w1 w0.heap.size (fun k => True ∧ some k ≠ vl.ownBlock) v1 (ahs1.map ints)) (g1 : w.grownBy w1 va.ownBlock) :
    w1.heap[g]? = some (.cells #[ve, vd, .map (some mk), va] 70 (0, 0)) ∧ Nb w0 (w1.setCell ⟨g, 3, none⟩ v1) g mk ve vd v1 m c ahs1 vl all := by
  have hty := Kd.R_typed h.ah
  have e1 := blk_grown h.na.gx g1 (Kd.R_ne h.ah h.na.gx (by decide))
  have hb : Below w0.heap.size w0 w1 := h.na.below.grown g1 h.na.below.size (fun q hq => Kd.R_base h.ah q hq)
  obtain ⟨n, h3, h4⟩ := h.na.mp
  have hr : ∀ k, va.ownBlock = some k → ∀ t', t' ≠ 37 → ∀ cells, w.heap[k]? ≠ some (.cells cells t' (0, 0)) := fun k e t' ht => by
    obtain ⟨cells, hc⟩ := hty k e
    exact not_cells hc (fun he => ht he.symm)
  refine ⟨e1, ⟨blk_set e1 3 v1, Kd.R_set (R_row h.na.ed g1 (fun k e t ht => hr k e t (by intro he; subst he; revert ht; decide))) e1 (by decide) 3 v1, Kd.R_set (R_row h.na.df g1 (fun k e t ht => hr k e t (by intro he; subst he; revert ht; decide))) e1 (by decide) 3 v1, ⟨n, h3, VMap.set (VMap.grown h4 g1 (fun q hq => ?_)) e1 3 v1⟩, hb.setCell h.na.hg _, h.na.hg, h.na.hm⟩, Kd.R_set r1 e1 (by decide) 3 v1, Kd.R_set (R_row h.al g1 (fun k e t ht => hr k e t (by intro he; subst he; revert ht; decide))) e1 (by decide) 3 v1⟩
  obtain ⟨cells, hc⟩ := hty q hq
  exact ⟨cells, _, hc⟩
theorem Nb.num (h : Nb w0 w g mk ve vd va m c ahs vl all) (r1 : Ir w0.heap.size w1 v1 all1) (g1 : w.grownBy w1 vl.ownBlock) (hat : v1.ownBlock = vl.ownBlock ∨ ∃ b, v1.ownBlock = some b ∧ w.heap.size ≤ b) : Nb w0 w1 g mk ve vd va m c ahs v1 all1 := by
  have hty := Kd.R_typed h.al
  have e1 := blk_grown h.na.gx g1 (Kd.R_ne h.al h.na.gx (by decide))
  have hb : Below w0.heap.size w0 w1 := h.na.below.grown g1 h.na.below.size (fun q hq => Kd.R_base h.al q hq)
  obtain ⟨n, h3, h4⟩ := h.na.mp
  have hr : ∀ k, vl.ownBlock = some k → ∀ t', t' ≠ 3 → ∀ cells, w.heap[k]? ≠ some (.cells cells t' (0, 0)) := fun k e t' ht => by
    obtain ⟨cells, hc⟩ := hty k e
    exact not_cells hc (fun he => ht he.symm)
  refine ⟨⟨e1, R_row h.na.ed g1 (fun k e t ht => hr k e t (by intro he; subst he; revert ht; decide)), R_row h.na.df g1 (fun k e t ht => hr k e t (by intro he; subst he; revert ht; decide)), ⟨n, h3, VMap.grown h4 g1 (fun q hq => ?_)⟩, hb, h.na.hg, h.na.hm⟩, Kd.R_after h.ah g1 hat, r1⟩
  obtain ⟨cells, hc⟩ := hty q hq
  exact ⟨cells, _, hc⟩
end
section
variable {ops : Array Oper} {o : Oper} {a : Act} {Q : Exit → Act → World → Prop} {K : Act → World → Prop} {E : Prop}
theorem app_ints_step {w0 W : World} {g mk c : Nat} {ve vd va vl u : Value} {m : ManV} {ahs : List (List Nat)} {all p : List Nat} {B : Nat} (hgd : o.guard = none) (s x : Operand)
    (ho : o.op = .call { callee := .builtin .append, args := #[s, x], argTypes := #[68, 68] })
    (hs : a.eval s = va) (hx : a.eval x = .slice (some ⟨W.heap.size, 0, none⟩) 1 1)
    (HO : Nb w0 W g mk ve vd va m c ahs vl all) (HP : Ir B W u p) (hB : w0.heap.size ≤ B) (hva : ∀ k, va.ownBlock = some k → k < B) (hvl : ∀ k, vl.ownBlock = some k → k < B) (hBW : B ≤ W.heap.size) (hl : ahs.length ≤ 100000)
    (h : ∀ v1 w1, kints.R 37 w1 w0.heap.size (fun k => True ∧ some k ≠ vl.ownBlock) v1 ((ahs ++ [p]).map ints) → W.grownBy w1 va.ownBlock → K (a.put o.dst v1) w1) :
    if Region.wanted o (yielded ops a.tmps) = true then Oper.wp Try.prog o a (W.alloc (.cells #[u] 37)) K Q else E := by
  have hw : Region.wanted o (yielded ops a.tmps) = true := by simp [Region.wanted, hgd]
  have hR : (Kd.int .i64).R 3 W w0.heap.size (fun k => (True ∧ some k ≠ vl.ownBlock) ∧ some k ≠ va.ownBlock) u (ints p) := by
    refine Kd.R_lower (Kd.R_mono (Kd.R_bound HP) fun k hk => ?_) hB
    have hk2 : B ≤ k := hk.2.1
    exact ⟨⟨trivial, fun e => by have := hvl k e.symm; omega⟩, fun e => by have := hva k e.symm; omega⟩
  have hK := Kd.R_append_step kints (P := Try.prog) (Kc := K) (Q := Q) (ops := ops) (o := o) (a := a) (w0 := w0) (W := W) w0.heap.size hw s x 68 37 (.slice none 0 0) 24 ho Try.underlying68 (by kernel_rfl) rfl (by decide) (by decide) va (ahs.map ints) (ints p) [u] (fun k => True ∧ some k ≠ vl.ownBlock) _ hs hx ⟨u, rfl, hR⟩ (fun _ hk => hk) (fun k hk => ⟨trivial, fun e => by have := hvl k e.symm; omega⟩) HO.ah HO.na.below HO.na.below.size (by rw [List.length_map]; omega) (fun v1 w1 h1 _ h3 _ => h v1 w1 (by rw [List.map_append]; exact h1) h3)
  rw [if_pos hw] at hK ⊢
  exact hK
end
--BEGIN WALK
set_option maxRecDepth 100000 in
set_option maxHeartbeats 16000000 in
theorem new_any (v : Value) (m : ManV) (w : World) (ve0 vd0 : Value) (hv : v = .agg #[ve0, vd0]) (hE : Ez w ve0 m.edges) (hD : Ss w vd0 m.defs) (hs : SmallM m) :
    Calls Try.prog 11 #[v] w fun e w' => (((e = .returned (.tuple #[.pointer none, .int .i64 11]) ∧ ¬ (allOuts m.edges).Nodup) ∨ (e = .returned (.tuple #[.pointer none, .int .i64 12]) ∧ (allOuts m.edges).Nodup ∧ (orderV (aheadV m.edges) (List.range m.edges.length)).length < m.edges.length) ∨
      (∃ g, e = .returned (.tuple #[.pointer (some ⟨g, 0, none⟩), .int .i64 0]) ∧ (allOuts m.edges).Nodup ∧ ¬ (orderV (aheadV m.edges) (List.range m.edges.length)).length < m.edges.length ∧
        ∃ ve vd va mk nk, w'.heap[g]? = some (.cells #[ve, vd, .map (some mk), va] 70 (0, 0)) ∧ Ez w' ve m.edges ∧ Ss w' vd m.defs ∧ MMap w' mk nk (makerOf m.edges) ∧ Iss w' va (aheadV m.edges)))) ∧ Below w.heap.size w w' := by
  subst hv
  have hmm := @run_makeMap Try.prog
  obtain ⟨Ae, ce, rfl, hce, hme⟩ := hE.len
  obtain ⟨n, hn⟩ : ∃ n, n = m.edges.length := ⟨_, rfl⟩
  rw [← hn] at hce hme hE
  rw [← hn]
  obtain ⟨Ad, cd, rfl, hcd, hmd⟩ := ss_len hD
  obtain ⟨nd, hnd⟩ : ∃ nd, nd = m.defs.length := ⟨_, rfl⟩
  rw [← hnd] at hcd hmd hD
  rw [← hnd]
  obtain ⟨x, hx⟩ : ∃ x, w.heap.size = x := ⟨_, rfl⟩
  obtain ⟨w1, hw1⟩ : ∃ w1, w1 = ((w.alloc (.cells #[.slice Ae n ce, .slice Ad nd cd] 33)).alloc (.map #[] 0)).alloc (.cells #[.slice none 0 0, .slice none 0 0, .map (some (x + 1)), .slice none 0 0] 70) := ⟨_, rfl⟩
  have s1 : (w.alloc (.cells #[.slice Ae n ce, .slice Ad nd cd] 33)).heap.size = x + 1 := by rw [← hx]; simp
  have s2 : ((w.alloc (.cells #[.slice Ae n ce, .slice Ad nd cd] 33)).alloc (.map #[] 0)).heap.size = x + 1 + 1 := by simp [hx]
  have b1 := below_alloc (Below.refl w.heap.size w) (.cells #[.slice Ae n ce, .slice Ad nd cd] 33)
  have b2 := below_alloc b1 (.map #[] 0)
  have b3 := below_alloc b2 (.cells #[.slice none 0 0, .slice none 0 0, .map (some (x + 1)), .slice none 0 0] 70)
  have c1 := below_alloc (Below.refl (w.alloc (.cells #[.slice Ae n ce, .slice Ad nd cd] 33)).heap.size (w.alloc (.cells #[.slice Ae n ce, .slice Ad nd cd] 33))) (.map #[] 0)
  have c2 := below_alloc c1 (.cells #[.slice none 0 0, .slice none 0 0, .map (some (x + 1)), .slice none 0 0] 70)
  have d0 := blk_new w (.cells #[.slice Ae n ce, .slice Ad nd cd] 33)
  rw [hx] at d0
  have d1 := VMap.made (w.alloc (.cells #[.slice Ae n ce, .slice Ad nd cd] 33)) 9 skey
  rw [s1] at d1
  have e2 := below_alloc (Below.refl ((w.alloc (.cells #[.slice Ae n ce, .slice Ad nd cd] 33)).alloc (.map #[] 0)).heap.size ((w.alloc (.cells #[.slice Ae n ce, .slice Ad nd cd] 33)).alloc (.map #[] 0))) (.cells #[.slice none 0 0, .slice none 0 0, .map (some (x + 1)), .slice none 0 0] 70)
  have d2 := blk_new ((w.alloc (.cells #[.slice Ae n ce, .slice Ad nd cd] 33)).alloc (.map #[] 0)) (.cells #[.slice none 0 0, .slice none 0 0, .map (some (x + 1)), .slice none 0 0] 70)
  rw [s2] at d2
  have XM : Hid (w1.heap[x]? = some (.cells #[.slice Ae n ce, .slice Ad nd cd] 33 (0, 0))) := by show _ = _; rw [hw1]; exact (c2.block x (blk_lt d0)).trans d0
  have HN0 : Hid (Na w w1 (x + 1 + 1) (x + 1) (.slice none 0 0) (.slice none 0 0) (.slice none 0 0) [] [] (fun _ => none) 0) := by
    show Na _ _ _ _ _ _ _ _ _ _ _
    rw [hw1]
    exact ⟨d2, Kd.R_nil _ _ _ _ _, Kd.R_nil _ _ _ _ _, ⟨0, Nat.le_refl _, VMap.congr (VMap.below d1 e2) fun s => rfl⟩, b3, by omega, by omega⟩
  have HW := Lib.hid hw1
  have HX := Lib.hid hx
  have HE := Lib.hid hE
  have HD := Lib.hid hD
  have HN := Lib.hid hn
  have HND := Lib.hid hnd
  have HS := Lib.hid hs
  have hn4 : n ≤ 10000 := by rw [hn]; exact hs.edges
  have m1 := blk_cell XM.out 1
  clear hw1 s1 s2 b1 b2 b3 c1 c2 d0 d1 e2 d2 hE hD hn hnd hs
  go_enter Try.func11, Try.ntmps11
  go_upto_region 2 with (fail)
  rw [← HW.out]
  try rw [hx]
  clear hx
  go_wp2_with fail
  --S1
  refine (clone_strs _ m.defs _ (HD.out.below HN0.out.below) (by have := HS.out.defs; omega)).mono ?_
  rintro e w2 ⟨v2, rfl, r2, b2⟩
  have hg2 := HN0.out.moved b2
  obtain ⟨A2, c2, e2⟩ := Kd.R_slice r2
  rw [← HND.out] at e2
  subst e2
  have XG2 := Lib.hid hg2.gx
  have f2 := blk_frozen XG2.out 1
  have k2 := blk_cell XG2.out 1
  have HN2 : Hid (Na w (w2.setCell ⟨x + 1 + 1, 1, none⟩ (.slice A2 nd c2)) (x + 1 + 1) (x + 1) (.slice none 0 0) (.slice A2 nd c2) (.slice none 0 0) (m.edges.take 0) m.defs (makerOf (m.edges.take 0)) 0) := by
    obtain ⟨n0, h3, h4⟩ := hg2.mp
    refine ⟨blk_set XG2.out 1 _, Kd.R_nil _ _ _ _ _, Kd.R_lower (Kd.R_set r2 XG2.out (by decide) 1 _) HN0.out.below.size, ⟨n0, h3, ?_⟩, hg2.below.setCell hg2.hg _, hg2.hg, hg2.hm⟩
    exact VMap.congr (VMap.set h4 XG2.out 1 _) fun s => rfl
  have XM2 := Lib.hid ((b2.block _ (blk_lt XM.out)).trans XM.out)
  have XM3 : Hid ((w2.setCell ⟨x + 1 + 1, 1, none⟩ (.slice A2 nd c2)).heap[x]? = some (.cells #[.slice Ae n ce, .slice Ad nd cd] 33 (0, 0))) := (Below.heap_setCell _ _ _ _ (show x ≠ x + 1 + 1 by omega)).trans XM2.out
  clear r2 b2 hg2 m1
  go_upto_region 3 with (fail)
  obtain ⟨w3, hw3⟩ : ∃ w3, w3 = w2.setCell ⟨x + 1 + 1, 1, none⟩ (.slice A2 nd c2) := ⟨_, rfl⟩
  rw [← hw3] at HN2 XM3
  rw [← hw3]
  have m0 := blk_cell XM3.out 0
  clear hw3 f2 k2 XG2 XM2
  go_wp2
  --S2
  go_loopw [27] (fun i wr => ∃ (k : Nat) (ve : Value), k ≤ n ∧ i = .int .i64 k ∧ Hid (Na w wr (x + 1 + 1) (x + 1) ve (.slice A2 nd c2) (.slice none 0 0) (m.edges.take k) m.defs (makerOf (m.edges.take k)) (allOuts (m.edges.take k)).length) ∧ Hid ((allOuts (m.edges.take k)).Nodup)) (fun i _ => n - (intOf i).toNat)
  case atStart => exact ⟨0, _, by omega, rfl, HN2.out, List.nodup_nil⟩
  case round =>
    clear m0
    obtain ⟨k, ve, hk, rfl, HK, HU⟩ := hrel
    obtain ⟨Av, cv, ev⟩ := Kd.R_slice HK.out.ed
    have hvk : ((m.edges.take k).map EdgeV.x).length = k := by rw [List.length_map, List.length_take, ← HN.out]; omega
    rw [hvk] at ev
    subst ev
    clear hvk
    by_cases l1 : k < n
    · have hkl : k < m.edges.length := by rw [← HN.out]; exact l1
      obtain ⟨ad, vo, vi, vm, vr, e1, p0, p1, p2, p3, p4, p5, hec⟩ := HE.out.get k hkl
      subst e1
      have HTE := Lib.hid (take_at m.edges zedge k hkl)
      have HSP := Lib.hid (split_at m.edges zedge k hkl)
      have HSE := Lib.hid (HS.out.each _ HTE.out.2)
      have HSZ := Lib.hid (fun s hs => HS.out.size _ HTE.out.2 s (.inl hs))
      have HALL : Hid ((allOuts (m.edges.take k)).length + (m.edges.getD k zedge).outs.length ≤ 1000000) := by
        have h1 := HS.out.all
        have h2 : allOuts m.edges = allOuts (m.edges.take k) ++ (m.edges.getD k zedge).outs ++ allOuts (m.edges.drop (k + 1)) := by
          conv => lhs; rw [HSP.out]
          unfold allOuts
          simp
        rw [h2, List.length_append, List.length_append] at h1
        show _ ≤ _
        omega
      have HDUP : Hid (∀ j, j < (m.edges.getD k zedge).outs.length → (m.edges.getD k zedge).outs.getD j ByteArray.empty ∈ allOuts (m.edges.take k) ++ (m.edges.getD k zedge).outs.take j → ¬ (allOuts m.edges).Nodup) := fun j hj hmem hnd => by
        have h2 : allOuts m.edges = (allOuts (m.edges.take k) ++ (m.edges.getD k zedge).outs.take j) ++ (m.edges.getD k zedge).outs.getD j ByteArray.empty :: ((m.edges.getD k zedge).outs.drop (j + 1) ++ allOuts (m.edges.drop (k + 1))) := by
          have h3 : allOuts m.edges = allOuts (m.edges.take k) ++ (m.edges.getD k zedge).outs ++ allOuts (m.edges.drop (k + 1)) := by
            conv => lhs; rw [HSP.out]
            unfold allOuts
            simp
          rw [h3]
          conv => lhs; rw [split_at (m.edges.getD k zedge).outs ByteArray.empty j hj]
          simp
        rw [h2, List.nodup_append] at hnd
        exact hnd.2.2 _ hmem _ (List.mem_cons_self) rfl
      clear hkl
      generalize m.edges.getD k zedge = e at p4 p5 hec HTE HSE HSZ HALL HDUP
      obtain ⟨so, si, sm, sr⟩ := hec
      obtain ⟨Ao, co, rfl, _, hmo⟩ := ss_len so
      obtain ⟨Ai, ci, rfl, _, hmi⟩ := ss_len si
      obtain ⟨Am, cm, rfl, _, hmm'⟩ := ss_len sm
      obtain ⟨Ar, cr, rfl, _, hmr⟩ := ss_len sr
      obtain ⟨no, hno⟩ : ∃ no, no = e.outs.length := ⟨_, rfl⟩
      obtain ⟨ni, hni⟩ : ∃ ni, ni = e.ins.length := ⟨_, rfl⟩
      obtain ⟨nm, hnm⟩ : ∃ nm, nm = e.imp.length := ⟨_, rfl⟩
      obtain ⟨nr, hnr⟩ : ∃ nr, nr = e.ord.length := ⟨_, rfl⟩
      rw [← hno] at p0 so hmo
      rw [← hni] at p1 si hmi
      rw [← hnm] at p2 sm hmm'
      rw [← hnr] at p3 sr hmr
      have SO := Lib.hid so
      have q0 := pw_cell_below HK.out.below p0
      have q1 := pw_cell_below HK.out.below p1
      have q2 := pw_cell_below HK.out.below p2
      have q3 := pw_cell_below HK.out.below p3
      have q4 := pw_cell_below HK.out.below p4
      have q5 := pw_cell_below HK.out.below p5
      obtain ⟨y, hy⟩ : ∃ y, wr.heap.size = y := ⟨_, rfl⟩
      obtain ⟨w4, hw4⟩ : ∃ w4, w4 = wr.alloc (.cells #[.slice Ao no co, .slice Ai ni ci, .slice Am nm cm, .slice Ar nr cr, .string e.cmd, .string e.dep] 44) := ⟨_, rfl⟩
      have hb4 : Below wr.heap.size wr w4 := by rw [hw4]; exact below_alloc (Below.refl _ _) _
      have XE : Hid (w4.heap[y]? = some (.cells #[.slice Ao no co, .slice Ai ni ci, .slice Am nm cm, .slice Ar nr cr, .string e.cmd, .string e.dep] 44 (0, 0))) := by show _ = _; rw [hw4, ← hy]; exact blk_new wr _
      have HK4 := Lib.hid (HK.out.moved hb4)
      have HEI : Hid (EdIs w4 (.agg #[.slice Ao no co, .slice Ai ni ci, .slice Am nm cm, .slice Ar nr cr, .string e.cmd, .string e.dep]) e) := ⟨_, _, _, _, rfl, so.below (HK.out.below.trans (hb4.mono HK.out.below.size)), si.below (HK.out.below.trans (hb4.mono HK.out.below.size)), sm.below (HK.out.below.trans (hb4.mono HK.out.below.size)), sr.below (HK.out.below.trans (hb4.mono HK.out.below.size))⟩
      have HNO := Lib.hid hno
      have HW4 := Lib.hid hw4
      have HYN : Hid (some y ≠ (Value.slice Av k cv).ownBlock ∧ y ≠ x + 1 + 1) := by
        refine ⟨fun e' => ?_, fun e' => ?_⟩
        · obtain ⟨cells, hc⟩ := Kd.R_typed HK.out.ed y e'.symm
          have := blk_lt hc
          omega
        · have := blk_lt HK.out.gx
          omega
      have G0 := Lib.hid (show w4.cell? ⟨x + 1 + 1, 0, none⟩ = some (.slice Av k cv) from blk_cell HK4.out.gx 0)
      have E0 := Lib.hid (show w4.cell? ⟨y, 0, none⟩ = some (.slice Ao no co) from blk_cell XE.out 0)
      have E1 := Lib.hid (show w4.cell? ⟨y, 1, none⟩ = some (.slice Ai ni ci) from blk_cell XE.out 1)
      have E2 := Lib.hid (show w4.cell? ⟨y, 2, none⟩ = some (.slice Am nm cm) from blk_cell XE.out 2)
      have E3 := Lib.hid (show w4.cell? ⟨y, 3, none⟩ = some (.slice Ar nr cr) from blk_cell XE.out 3)
      have E4 := Lib.hid (show w4.cell? ⟨y, 4, none⟩ = some (.string e.cmd) from blk_cell XE.out 4)
      have E5 := Lib.hid (show w4.cell? ⟨y, 5, none⟩ = some (.string e.dep) from blk_cell XE.out 5)
      clear so si sm sr hw4 hb4 p0 p1 p2 p3 p4 p5 hno hni hnm hnr
      go_upto_region 6 with (fail)
      rw [← HW4.out]
      try rw [hy]
      clear hy q0 q1 q2 q3 q4 q5
      --S3
      refine start_ (n := 14) (S := fun w' => Below w4.heap.size w4 w' ∧ w'.cell? ⟨x + 1 + 1, 0, none⟩ = some (.slice Av k cv) ∧ w'.cell? ⟨y, 0, none⟩ = some (.slice Ao no co) ∧ w'.cell? ⟨y, 1, none⟩ = some (.slice Ai ni ci) ∧ w'.cell? ⟨y, 2, none⟩ = some (.slice Am nm cm) ∧ w'.cell? ⟨y, 3, none⟩ = some (.slice Ar nr cr) ∧ w'.cell? ⟨y, 4, none⟩ = some (.string e.cmd) ∧ w'.cell? ⟨y, 5, none⟩ = some (.string e.dep)) (ds := [9, 13]) #[false, false, false, false, false, false, false, false, false, false, false, false, false, false] (by kernel_rfl) rfl rfl ⟨Below.drew (Below.refl _ _), G0.out, E0.out, E1.out, E2.out, E3.out, E4.out, E5.out⟩ (fun hHeld => ?_)
      refine pure_ (i := 0) (N := some 32) (v := ?_) (a' := ?_) #[true, false, false, false, false, false, false, false, false, false, false, false, false, false] rfl rfl (by kernel_rfl) (fun _ _ _ h => h) (Or.inl ⟨by rfl, ?_⟩) ?_ ?_
      rotate_left
      · intro w'
        go_simp
        with_reducible rfl
      rotate_left
      · simp only [Act.put, List.setIfInBounds_toArray, List.set_cons_zero, List.set_cons_succ, i64_w, i32_w]
        rfl
      refine pure_ (i := 1) (N := some 33) (v := ?_) (a' := ?_) #[true, true, false, false, false, false, false, false, false, false, false, false, false, false] rfl rfl (by kernel_rfl) (fun _ _ _ h => h) (Or.inl ⟨by rfl, ?_⟩) ?_ ?_
      rotate_left
      · intro w'
        go_simp
        with_reducible rfl
      rotate_left
      · simp only [Act.put, List.setIfInBounds_toArray, List.set_cons_zero, List.set_cons_succ, i64_w, i32_w]
        rfl
      refine pure_ (i := 2) (N := some 34) (v := ?_) (a' := ?_) #[true, true, true, false, false, false, false, false, false, false, false, false, false, false] rfl rfl (by kernel_rfl) (fun _ _ _ h => h) (Or.inl ⟨by rfl, ?_⟩) ?_ ?_
      rotate_left
      · intro w'
        go_simp
        with_reducible rfl
      rotate_left
      · simp only [Act.put, List.setIfInBounds_toArray, List.set_cons_zero, List.set_cons_succ, i64_w, i32_w]
        rfl
      refine pure_ (i := 3) (N := some 35) (v := ?_) (a' := ?_) #[true, true, true, true, false, false, false, false, false, false, false, false, false, false] rfl rfl (by kernel_rfl) (fun _ _ _ h => h) (Or.inl ⟨by rfl, ?_⟩) ?_ ?_
      rotate_left
      · intro w'
        go_simp
        with_reducible rfl
      rotate_left
      · simp only [Act.put, List.setIfInBounds_toArray, List.set_cons_zero, List.set_cons_succ, i64_w, i32_w]
        rfl
      refine pure_ (i := 4) (N := some 36) (v := ?_) (a' := ?_) #[true, true, true, true, true, false, false, false, false, false, false, false, false, false] rfl rfl (by kernel_rfl) (fun _ _ _ h => h) (Or.inl ⟨by rfl, ?_⟩) ?_ ?_
      rotate_left
      · intro w'
        go_simp
        with_reducible rfl
      rotate_left
      · simp only [Act.put, List.setIfInBounds_toArray, List.set_cons_zero, List.set_cons_succ, i64_w, i32_w]
        rfl
      refine take_ (i := 5) (N := some 37) (v := ?_) (a' := ?_) #[true, true, true, true, true, true, false, false, false, false, false, false, false, false] rfl rfl (by kernel_rfl) (fun _ _ _ h => h) (Or.inl ⟨by rfl, ?_⟩) hHeld ?_ ?_
      rotate_left
      · rintro w' ⟨s0, s1, s2, s3, s4, s5, s6, s7⟩
        go_simp
        with_reducible rfl
      rotate_left
      · simp only [Act.put, List.setIfInBounds_toArray, List.set_cons_zero, List.set_cons_succ, i64_w, i32_w]
        rfl
      refine take_ (i := 6) (N := some 38) (v := ?_) (a' := ?_) #[true, true, true, true, true, true, true, false, false, false, false, false, false, false] rfl rfl (by kernel_rfl) (fun _ _ _ h => h) (Or.inl ⟨by rfl, ?_⟩) hHeld ?_ ?_
      rotate_left
      · rintro w' ⟨s0, s1, s2, s3, s4, s5, s6, s7⟩
        go_simp
        with_reducible rfl
      rotate_left
      · simp only [Act.put, List.setIfInBounds_toArray, List.set_cons_zero, List.set_cons_succ, i64_w, i32_w]
        rfl
      refine one_ (i := 7) (N := some 39) #[true, true, true, true, true, true, true, true, false, false, false, false, false, false] rfl rfl (by kernel_rfl) (by decide) (fun K hK => ?_)
      refine goes_ Try.func36 (by kernel_rfl) rfl #[.agg #[.slice Ao no co, .slice Ai ni ci, .slice Am nm cm, .slice Ar nr cr, .string e.cmd, .string e.dep]] (by rfl) rfl rfl (by first | (simp only [List.map_toArray, List.map_cons, List.map_nil]; done) | (simp only [List.map_toArray, List.map_cons, List.map_nil]; rfl) | rfl) ?_
      with_reducible refine (copied_any _ e _ (HEI.out.below hHeld.1) HSE.out).mono ?_
      rintro r w5 ⟨zo, zi, zm, zr, rfl, o5, b5⟩
      refine ⟨_, rfl, ?_⟩
      have h5 := hHeld.1.trans (b5.mono hHeld.1.size)
      have HO5 : Hid (EdO w.heap.size (fun _ => True) w5 zo zi zm zr e) := by
        have hle := Nat.le_trans HK4.out.below.size hHeld.1.size
        exact ⟨Kd.R_lower o5.1 hle, Kd.R_lower o5.2.1 hle, Kd.R_lower o5.2.2.1 hle, Kd.R_lower o5.2.2.2 hle⟩
      have HK5 := Lib.hid (HK4.out.moved h5)
      clear o5 b5
      refine hK.out _ _ ⟨h5, pw_cell_below (h5) G0.out, pw_cell_below (h5) E0.out, pw_cell_below (h5) E1.out, pw_cell_below (h5) E2.out, pw_cell_below (h5) E3.out, pw_cell_below (h5) E4.out, pw_cell_below (h5) E5.out⟩ (fun hHeld => ?_)
      clear hK K
      refine norm_ (a' := ?_) ?_ ?_
      rotate_left
      · show Act.put _ (some 39) _ = _
        simp only [Act.put, List.setIfInBounds_toArray, List.set_cons_zero, List.set_cons_succ, i64_w, i32_w]
        rfl
      refine one_ (i := 8) (N := some 40) #[true, true, true, true, true, true, true, true, true, false, false, false, false, false] rfl rfl (by kernel_rfl) (by decide) (fun K hK => ?_)
      refine value_ (w1 := ?_) (v := ?_) (by rfl) rfl ?_ ?_
      rotate_left 2
      · go_simp
        constructor
        · rfl
        · rfl
      refine hK.out _ _ ⟨hHeld.1.alloc hHeld.1.size _, pw_cell_below (hHeld.1.alloc hHeld.1.size _) G0.out, pw_cell_below (hHeld.1.alloc hHeld.1.size _) E0.out, pw_cell_below (hHeld.1.alloc hHeld.1.size _) E1.out, pw_cell_below (hHeld.1.alloc hHeld.1.size _) E2.out, pw_cell_below (hHeld.1.alloc hHeld.1.size _) E3.out, pw_cell_below (hHeld.1.alloc hHeld.1.size _) E4.out, pw_cell_below (hHeld.1.alloc hHeld.1.size _) E5.out⟩ (fun hHeld => ?_)
      clear hK K
      refine norm_ (a' := ?_) ?_ ?_
      rotate_left
      · show Act.put _ (some 40) _ = _
        simp only [Act.put, List.setIfInBounds_toArray, List.set_cons_zero, List.set_cons_succ, i64_w, i32_w]
        rfl
      refine last_ (i := 9) (N := some 41) #[true, true, true, true, true, true, true, true, true, true, false, false, false, false] rfl rfl (by kernel_rfl) (by decide) (fun K hK => ?_)
      refine app_edge_step (w0 := w) rfl (.tmp 37) (.tmp 40) rfl (.slice Av k cv) zo zi zm zr (m.edges.take k) e rfl rfl HK5.out.ed HK5.out.below HO5.out (by rw [List.length_take]; omega) ?_
      intro va wa ra _ ga
      rw [← HTE.out.1] at ra
      obtain ⟨Aa, ca, ea⟩ := Kd.R_slice ra
      have hva : ((m.edges.take (k + 1)).map EdgeV.x).length = k + 1 := by rw [List.length_map, List.length_take, ← HN.out]; omega
      rw [hva] at ea
      subst ea
      obtain ⟨e7, x7⟩ := HK5.out.edge ra ga
      have XEa : Hid (wa.heap[y]? = some (.cells #[.slice Ao no co, .slice Ai ni ci, .slice Am nm cm, .slice Ar nr cr, .string e.cmd, .string e.dep] 44 (0, 0))) := (ga.block y (Nat.lt_of_lt_of_le (blk_lt XE.out) h5.size) HYN.out.1).trans ((h5.block y (blk_lt XE.out)).trans XE.out)
      have X7 := Lib.hid x7
      have fa := blk_frozen e7 0
      have ka := blk_cell e7 0
      clear ra ga hva e7 x7
      refine hK.out _ _ ?_
      clear hK K
      refine norm_ (a' := ?_) ?_ ?_
      rotate_left
      · show Act.put _ (some 41) _ = _
        simp only [Act.put, List.setIfInBounds_toArray, List.set_cons_zero, List.set_cons_succ, i64_w, i32_w]
        rfl
      refine pure_ (i := 10) (N := some 42) (v := ?_) (a' := ?_) #[true, true, true, true, true, true, true, true, true, true, true, false, false, false] rfl rfl (by kernel_rfl) (fun _ _ _ h => h) (Or.inl ⟨by rfl, ?_⟩) ?_ ?_
      rotate_left
      · intro w'
        go_simp
        with_reducible rfl
      rotate_left
      · simp only [Act.put, List.setIfInBounds_toArray, List.set_cons_zero, List.set_cons_succ, i64_w, i32_w]
        rfl
      refine pure_ (i := 11) (N := some 43) (v := ?_) (a' := ?_) #[true, true, true, true, true, true, true, true, true, true, true, true, false, false] rfl rfl (by kernel_rfl) (fun _ _ _ h => h) (Or.inl ⟨by rfl, ?_⟩) ?_ ?_
      rotate_left
      · intro w'
        go_simp
        with_reducible rfl
      rotate_left
      · simp only [Act.put, List.setIfInBounds_toArray, List.set_cons_zero, List.set_cons_succ, i64_w, i32_w]
        rfl
      refine pure_ (i := 12) (N := some 44) (v := ?_) (a' := ?_) #[true, true, true, true, true, true, true, true, true, true, true, true, true, false] rfl rfl (by kernel_rfl) (fun _ _ _ h => h) (Or.inl ⟨by rfl, ?_⟩) ?_ ?_
      rotate_left
      · intro w'
        go_simp
        with_reducible rfl
      rotate_left
      · simp only [Act.put, List.setIfInBounds_toArray, List.set_cons_zero, List.set_cons_succ, i64_w, i32_w]
        rfl
      refine last_ (i := 13) (N := none) #[true, true, true, true, true, true, true, true, true, true, true, true, true, true] rfl rfl (by kernel_rfl) (by decide) (fun K hK => ?_)
      refine skip_ (w1 := ?_) (by rfl) rfl ?_ ?_
      rotate_left
      · go_simp
        rfl
      refine hK.out _ _ ?_
      clear hK K
      refine done_ (by kernel_rfl) ?_
      --S4
      clear hHeld fa ka HO5 HK5 G0 E0 E1 E2 E3 E4 E5
      obtain ⟨w8, hw8⟩ : ∃ w8, w8 = wa.setCell ⟨x + 1 + 1, 0, none⟩ (.slice Aa (k + 1) ca) := ⟨_, rfl⟩
      have XE8 : Hid (w8.heap[y]? = some (.cells #[.slice Ao no co, .slice Ai ni ci, .slice Am nm cm, .slice Ar nr cr, .string e.cmd, .string e.dep] 44 (0, 0))) := by
        show _ = _
        rw [hw8]
        exact (Below.heap_setCell _ _ _ _ HYN.out.2).trans XEa.out
      rw [← hw8] at X7 ⊢
      have X8 : Hid (Na w w8 (x + 1 + 1) (x + 1) (.slice Aa (k + 1) ca) (.slice A2 nd c2) (.slice none 0 0) (m.edges.take (k + 1)) m.defs (makerIn (m.edges.take k) (e.outs.take 0)) ((allOuts (m.edges.take k)).length + 0)) := X7.out.congr (fun s => by rw [List.take_zero]; exact makerIn_nil _ s)
      have e0 := blk_cell XE8.out 0
      clear hw8 XEa X7 h5
      go_wp2
      clear e0
      --S5
      go_loopw [48] (fun i wr => ∃ j : Nat, j ≤ no ∧ i = .int .i64 j ∧ Hid (Na w wr (x + 1 + 1) (x + 1) (.slice Aa (k + 1) ca) (.slice A2 nd c2) (.slice none 0 0) (m.edges.take (k + 1)) m.defs (makerIn (m.edges.take k) (e.outs.take j)) ((allOuts (m.edges.take k)).length + j)) ∧ Hid ((allOuts (m.edges.take k) ++ e.outs.take j).Nodup)) (fun i _ => no - (intOf i).toNat)
      case atStart => exact ⟨0, by omega, rfl, X8.out, by rw [List.take_zero, List.append_nil]; exact HU.out⟩
      case round =>
        obtain ⟨j, hj, rfl, HJ, HUJ⟩ := hrel
        by_cases l2 : j < no
        · have hjl : j < e.outs.length := by rw [← HNO.out]; exact l2
          obtain ⟨As, cs, es', _, _, hcel⟩ := SO.out
          injection es' with es1 es2 es3
          subst es1
          obtain ⟨ao, eo, hcell⟩ := hcel (by omega)
          subst eo
          have q := pw_cell_below HJ.out.below (hcell j hjl)
          have HTJ := Lib.hid (take_at e.outs ByteArray.empty j hjl)
          have hsz := HSZ.out _ HTJ.out.2
          have HDJ := Lib.hid (HDUP.out j hjl)
          have HLJ : Hid ((allOuts (m.edges.take k)).length + j + 1 ≤ 1000000) := by have := HALL.out; show _ ≤ _; omega
          clear hcel hcell es2 es3 hjl
          generalize e.outs.getD j ByteArray.empty = s at q HTJ hsz HDJ
          obtain ⟨nm', hnm', hmp⟩ := HJ.out.mp
          have hlk := (VMap.look hmp keyed_s Try.underlying67 (zero_int _) (s := s) (keyOf_s hsz)).1
          have g2 := blk_cell HJ.out.gx 2
          clear hnm' hmp
          by_cases hd : s ∈ allOuts (m.edges.take k) ++ e.outs.take j
          · have HNU := Lib.hid (HDJ.out hd)
            have hsome : (makerIn (m.edges.take k) (e.outs.take j) s).isSome = true := by
              unfold makerIn
              rcases List.mem_append.1 hd with h | h
              · have h1 : (makerOf (m.edges.take k) s).isSome = true := by rw [maker_some]; exact decide_eq_true h
                obtain ⟨q, hq⟩ := Option.isSome_iff_exists.1 h1
                rw [hq]; rfl
              · rw [if_pos h]
                cases makerOf (m.edges.take k) s <;> rfl
            obtain ⟨z, hz⟩ := Option.isSome_iff_exists.1 hsome
            rw [hz] at hlk
            simp only [Option.map_some, Option.getD_some, Option.isSome_some] at hlk
            have HBJ := Lib.hid HJ.out.below
            clear hd hsome hz
            go_wp2
            go_ret2
            exact ⟨.inl ⟨rfl, HNU.out⟩, HBJ.out⟩
          · have hnone : makerIn (m.edges.take k) (e.outs.take j) s = none := by
              unfold makerIn
              have h1 : (makerOf (m.edges.take k) s).isSome = false := by rw [maker_some]; exact decide_eq_false (fun h => hd (List.mem_append_left _ h))
              rw [Option.isSome_eq_false_iff, Option.isNone_iff_eq_none] at h1
              rw [h1, if_neg (fun h => hd (List.mem_append_right _ h))]
              rfl
            rw [hnone] at hlk
            simp only [Option.map_none, Option.getD_none, Option.isSome_none] at hlk
            have HUJ2 : Hid ((allOuts (m.edges.take k) ++ e.outs.take (j + 1)).Nodup) := by
              show List.Nodup _
              rw [HTJ.out.1, ← List.append_assoc, List.nodup_append]
              exact ⟨HUJ.out, by simp, fun a ha b hb e => by rw [List.mem_singleton.1 hb] at e; exact hd (e ▸ ha)⟩
            have HNONE := Lib.hid hnone
            clear hd hnone
            obtain ⟨w9, hrun, hna⟩ := HJ.out.put s k hsz (by have := HLJ.out; omega)
            have HRUN := Lib.hid hrun
            have HJ2 : Hid (Na w w9 (x + 1 + 1) (x + 1) (.slice Aa (k + 1) ca) (.slice A2 nd c2) (.slice none 0 0) (m.edges.take (k + 1)) m.defs (makerIn (m.edges.take k) (e.outs.take (j + 1))) ((allOuts (m.edges.take k)).length + (j + 1))) := by
              refine hna.congr fun s' => ?_
              show makerIn (m.edges.take k) (e.outs.take (j + 1)) s' = if s' = s then some k else makerIn (m.edges.take k) (e.outs.take j) s'
              have hk9 : (m.edges.take k).length = k := by rw [List.length_take, ← HN.out]; omega
              by_cases hs : s' = s
              · rw [if_pos hs, hs]
                have h1 := HNONE.out
                unfold makerIn at h1 ⊢
                rw [Option.or_eq_none_iff] at h1
                rw [h1.1, if_pos (by rw [HTJ.out.1]; simp), hk9]
                rfl
              · rw [if_neg hs]
                unfold makerIn
                congr 1
                by_cases h2 : s' ∈ e.outs.take j
                · rw [if_pos h2, if_pos (by rw [HTJ.out.1]; exact List.mem_append_left _ h2)]
                · rw [if_neg h2, if_neg (fun h => by rw [HTJ.out.1] at h; rcases List.mem_append.1 h with h | h; exact h2 h; exact hs (List.mem_singleton.1 h))]
            clear hrun hna
            go_wp2_with (with_reducible refine gate_ (.mapUpdate 67 (.tmp 65) (.tmp 66) (.tmp 67)) rfl ?_; refine Held.of ?_)
            refine Held.out (Held.out (Held.of (upd_at rfl (.tmp 65) (.tmp 66) (.tmp 67) 67 rfl (x + 1) (.string s) (.int .i64 (k : Int)) rfl rfl rfl HRUN.out ?_)))
            clear q g2 hlk
            go_wp2
            --S6
            go_roundw
            case rel => exact ⟨j + 1, by omega, by go_num, HJ2.out, HUJ2.out⟩
            case measure => simp [intOf]; omega
        · have hj2 : j = no := by omega
          have HKE : Hid (Na w wr (x + 1 + 1) (x + 1) (.slice Aa (k + 1) ca) (.slice A2 nd c2) (.slice none 0 0) (m.edges.take (k + 1)) m.defs (makerOf (m.edges.take (k + 1))) (allOuts (m.edges.take (k + 1))).length) := by
            have h := HJ.out
            rw [hj2, HNO.out, List.take_length] at h
            have e1 : (allOuts (m.edges.take (k + 1))).length = (allOuts (m.edges.take k)).length + e.outs.length := by rw [HTE.out.1, allOuts_snoc, List.length_append]
            show Na _ _ _ _ _ _ _ _ _ _ _
            rw [e1]
            exact h.congr fun s => by rw [HTE.out.1, makerOf_snoc]; rfl
          have HUE : Hid ((allOuts (m.edges.take (k + 1))).Nodup) := by
            have h := HUJ.out
            rw [hj2, HNO.out, List.take_length] at h
            show List.Nodup _
            rw [HTE.out.1, allOuts_snoc]
            exact h
          clear hj2
          go_wp2
          --S7
          go_roundw
          case rel => exact ⟨k + 1, _, by omega, by go_num, HKE.out, HUE.out⟩
          case measure => simp [intOf]; omega
    · --S8
      have hk2 : k = n := by omega
      have htk : m.edges.take k = m.edges := by rw [hk2, HN.out, List.take_length]
      rw [htk] at HK HU
      have hk3 := hk2.symm
      subst hk3
      clear htk hk2
      obtain ⟨w3, hw3⟩ : ∃ w3, w3 = wr := ⟨_, rfl⟩
      subst hw3
      have HAL : Hid ((aheadV m.edges).length = n) := by show _ = _; unfold aheadV; rw [List.length_map, ← HN.out]
      have HB0 : Hid (Nb w w3 (x + 1 + 1) (x + 1) (.slice Av n cv) (.slice A2 nd c2) (.slice none 0 0) m (allOuts m.edges).length ((aheadV m.edges).take 0) (.slice none 0 0) (List.range 0)) := ⟨HK.out, Kd.R_nil _ _ _ _ _, Kd.R_nil _ _ _ _ _⟩
      have g0 := blk_cell HB0.out.na.gx 0
      clear HK
      go_wp2
      clear g0 l1 hk
      --S9
      go_loopw [11, 76] (fun vl i wr => ∃ (k : Nat) (va : Value), k ≤ n ∧ i = .int .i64 k ∧ Hid (Nb w wr (x + 1 + 1) (x + 1) (.slice Av n cv) (.slice A2 nd c2) va m (allOuts m.edges).length ((aheadV m.edges).take k) vl (List.range k))) (fun _ i _ => n - (intOf i).toNat)
      case atStart => exact ⟨0, _, by omega, rfl, HB0.out⟩
      case round =>
        obtain ⟨k, va, hk, rfl, HK⟩ := hrel
        obtain ⟨Aa, ca, ea⟩ := Kd.R_slice HK.out.ah
        have hak : (((aheadV m.edges).take k).map ints).length = k := by rw [List.length_map, List.length_take, HAL.out]; omega
        rw [hak] at ea
        subst ea
        obtain ⟨Al, cl, el⟩ := Kd.R_slice HK.out.al
        have hlk2 : (ints (List.range k)).length = k := by rw [List.length_map, List.length_range]
        rw [hlk2] at el
        subst el
        clear hak hlk2
        by_cases l1 : k < n
        · have hkl : k < m.edges.length := by rw [← HN.out]; exact l1
          obtain ⟨ad, vo, vi, vm, vr, e1, p0, p1, p2, p3, p4, p5, hec⟩ := (ez_of_R HK.out.na.ed).get k hkl
          subst e1
          have HTE := Lib.hid (take_at m.edges zedge k hkl)
          have HSE := Lib.hid (HS.out.each _ HTE.out.2)
          have HSZ := Lib.hid (fun s hs => HS.out.size _ HTE.out.2 s (.inr hs))
          have HAH : Hid ((aheadV m.edges).take (k + 1) = (aheadV m.edges).take k ++ [madeF (makerOf m.edges) (needsV (m.edges.getD k zedge))]) := by
            show _ = _
            unfold aheadV
            rw [← List.map_take, ← List.map_take, HTE.out.1, List.map_append]
            rfl
          have HBLK : Hid ((∀ q, (Value.slice Aa k ca).ownBlock = some q → q < wr.heap.size) ∧ ∀ q, (Value.slice Al k cl).ownBlock = some q → q < wr.heap.size) :=
            ⟨fun q hq => by obtain ⟨cells, hc⟩ := Kd.R_typed HK.out.ah q hq; exact blk_lt hc, fun q hq => by obtain ⟨cells, hc⟩ := Kd.R_typed HK.out.al q hq; exact blk_lt hc⟩
          clear hkl
          generalize m.edges.getD k zedge = e at p4 p5 hec HTE HSE HSZ HAH
          obtain ⟨so, si, sm, sr⟩ := hec
          obtain ⟨Ao, co, rfl, _, hmo⟩ := ss_len so
          obtain ⟨Ai, ci, rfl, _, hmi⟩ := ss_len si
          obtain ⟨Am, cm, rfl, _, hmm'⟩ := ss_len sm
          obtain ⟨Ar, cr, rfl, _, hmr⟩ := ss_len sr
          obtain ⟨no, hno⟩ : ∃ no, no = e.outs.length := ⟨_, rfl⟩
          obtain ⟨ni, hni⟩ : ∃ ni, ni = e.ins.length := ⟨_, rfl⟩
          obtain ⟨nm, hnm⟩ : ∃ nm, nm = e.imp.length := ⟨_, rfl⟩
          obtain ⟨nr, hnr⟩ : ∃ nr, nr = e.ord.length := ⟨_, rfl⟩
          rw [← hno] at p0 so hmo
          rw [← hni] at p1 si hmi
          rw [← hnm] at p2 sm hmm'
          rw [← hnr] at p3 sr hmr
          obtain ⟨y, hy⟩ : ∃ y, wr.heap.size = y := ⟨_, rfl⟩
          obtain ⟨w4, hw4⟩ : ∃ w4, w4 = wr.alloc (.cells #[.slice Ao no co, .slice Ai ni ci, .slice Am nm cm, .slice Ar nr cr, .string e.cmd, .string e.dep] 44) := ⟨_, rfl⟩
          have hb4 : Below wr.heap.size wr w4 := by rw [hw4]; exact below_alloc (Below.refl _ _) _
          have XE : Hid (w4.heap[y]? = some (.cells #[.slice Ao no co, .slice Ai ni ci, .slice Am nm cm, .slice Ar nr cr, .string e.cmd, .string e.dep] 44 (0, 0))) := by show _ = _; rw [hw4, ← hy]; exact blk_new wr _
          have HK4 := Lib.hid (HK.out.moved hb4)
          have HEI : Hid (EdIs w4 (.agg #[.slice Ao no co, .slice Ai ni ci, .slice Am nm cm, .slice Ar nr cr, .string e.cmd, .string e.dep]) e) := ⟨_, _, _, _, rfl, so.below hb4, si.below hb4, sm.below hb4, sr.below hb4⟩
          have HSZ4 : Hid (wr.heap.size ≤ w4.heap.size) := hb4.size
          have HW4 := Lib.hid hw4
          have G0 := Lib.hid (show w4.cell? ⟨x + 1 + 1, 3, none⟩ = some (.slice Aa k ca) from blk_cell HK4.out.na.gx 3)
          have E0 := Lib.hid (show w4.cell? ⟨y, 0, none⟩ = some (.slice Ao no co) from blk_cell XE.out 0)
          have E1 := Lib.hid (show w4.cell? ⟨y, 1, none⟩ = some (.slice Ai ni ci) from blk_cell XE.out 1)
          have E2 := Lib.hid (show w4.cell? ⟨y, 2, none⟩ = some (.slice Am nm cm) from blk_cell XE.out 2)
          have E3 := Lib.hid (show w4.cell? ⟨y, 3, none⟩ = some (.slice Ar nr cr) from blk_cell XE.out 3)
          have E4 := Lib.hid (show w4.cell? ⟨y, 4, none⟩ = some (.string e.cmd) from blk_cell XE.out 4)
          have E5 := Lib.hid (show w4.cell? ⟨y, 5, none⟩ = some (.string e.dep) from blk_cell XE.out 5)
          clear so si sm sr hw4 hb4 hno hni hnm hnr
          go_upto_region 20 with (fail)
          rw [← HW4.out]
          try rw [hy]
          clear hy p0 p1 p2 p3 p4 p5
          --SA
          refine start_ (n := 14) (S := fun w' => Below w4.heap.size w4 w' ∧ w'.cell? ⟨x + 1 + 1, 3, none⟩ = some (.slice Aa k ca) ∧ w'.cell? ⟨y, 0, none⟩ = some (.slice Ao no co) ∧ w'.cell? ⟨y, 1, none⟩ = some (.slice Ai ni ci) ∧ w'.cell? ⟨y, 2, none⟩ = some (.slice Am nm cm) ∧ w'.cell? ⟨y, 3, none⟩ = some (.slice Ar nr cr) ∧ w'.cell? ⟨y, 4, none⟩ = some (.string e.cmd) ∧ w'.cell? ⟨y, 5, none⟩ = some (.string e.dep)) (ds := [10, 13]) #[false, false, false, false, false, false, false, false, false, false, false, false, false, false] (by kernel_rfl) rfl rfl ⟨Below.drew (Below.refl _ _), G0.out, E0.out, E1.out, E2.out, E3.out, E4.out, E5.out⟩ (fun hHeld => ?_)
          refine pure_ (i := 0) (N := some 81) (v := ?_) (a' := ?_) #[true, false, false, false, false, false, false, false, false, false, false, false, false, false] rfl rfl (by kernel_rfl) (fun _ _ _ h => h) (Or.inl ⟨by rfl, ?_⟩) ?_ ?_
          rotate_left
          · intro w'
            go_simp
            with_reducible rfl
          rotate_left
          · simp only [Act.put, List.setIfInBounds_toArray, List.set_cons_zero, List.set_cons_succ, i64_w, i32_w]
            rfl
          refine pure_ (i := 1) (N := some 82) (v := ?_) (a' := ?_) #[true, true, false, false, false, false, false, false, false, false, false, false, false, false] rfl rfl (by kernel_rfl) (fun _ _ _ h => h) (Or.inl ⟨by rfl, ?_⟩) ?_ ?_
          rotate_left
          · intro w'
            go_simp
            with_reducible rfl
          rotate_left
          · simp only [Act.put, List.setIfInBounds_toArray, List.set_cons_zero, List.set_cons_succ, i64_w, i32_w]
            rfl
          refine pure_ (i := 2) (N := some 83) (v := ?_) (a' := ?_) #[true, true, true, false, false, false, false, false, false, false, false, false, false, false] rfl rfl (by kernel_rfl) (fun _ _ _ h => h) (Or.inl ⟨by rfl, ?_⟩) ?_ ?_
          rotate_left
          · intro w'
            go_simp
            with_reducible rfl
          rotate_left
          · simp only [Act.put, List.setIfInBounds_toArray, List.set_cons_zero, List.set_cons_succ, i64_w, i32_w]
            rfl
          refine pure_ (i := 3) (N := some 84) (v := ?_) (a' := ?_) #[true, true, true, true, false, false, false, false, false, false, false, false, false, false] rfl rfl (by kernel_rfl) (fun _ _ _ h => h) (Or.inl ⟨by rfl, ?_⟩) ?_ ?_
          rotate_left
          · intro w'
            go_simp
            with_reducible rfl
          rotate_left
          · simp only [Act.put, List.setIfInBounds_toArray, List.set_cons_zero, List.set_cons_succ, i64_w, i32_w]
            rfl
          refine pure_ (i := 5) (N := some 86) (v := ?_) (a' := ?_) #[true, true, true, true, false, true, false, false, false, false, false, false, false, false] rfl rfl (by kernel_rfl) (fun _ _ _ h => h) (Or.inl ⟨by rfl, ?_⟩) ?_ ?_
          rotate_left
          · intro w'
            go_simp
            with_reducible rfl
          rotate_left
          · simp only [Act.put, List.setIfInBounds_toArray, List.set_cons_zero, List.set_cons_succ, i64_w, i32_w]
            rfl
          refine take_ (i := 4) (N := some 85) (v := ?_) (a' := ?_) #[true, true, true, true, true, true, false, false, false, false, false, false, false, false] rfl rfl (by kernel_rfl) (fun _ _ _ h => h) (Or.inl ⟨by rfl, ?_⟩) hHeld ?_ ?_
          rotate_left
          · rintro w' ⟨s0, s1, s2, s3, s4, s5, s6, s7⟩
            go_simp
            with_reducible rfl
          rotate_left
          · simp only [Act.put, List.setIfInBounds_toArray, List.set_cons_zero, List.set_cons_succ, i64_w, i32_w]
            rfl
          refine take_ (i := 6) (N := some 87) (v := ?_) (a' := ?_) #[true, true, true, true, true, true, true, false, false, false, false, false, false, false] rfl rfl (by kernel_rfl) (fun _ _ _ h => h) (Or.inl ⟨by rfl, ?_⟩) hHeld ?_ ?_
          rotate_left
          · rintro w' ⟨s0, s1, s2, s3, s4, s5, s6, s7⟩
            go_simp
            with_reducible rfl
          rotate_left
          · simp only [Act.put, List.setIfInBounds_toArray, List.set_cons_zero, List.set_cons_succ, i64_w, i32_w]
            rfl
          refine one_ (i := 7) (N := some 88) #[true, true, true, true, true, true, true, true, false, false, false, false, false, false] rfl rfl (by kernel_rfl) (by decide) (fun K hK => ?_)
          refine goes_ Try.func38 (by kernel_rfl) rfl #[.agg #[.slice Ao no co, .slice Ai ni ci, .slice Am nm cm, .slice Ar nr cr, .string e.cmd, .string e.dep]] (by rfl) rfl rfl (by first | (simp only [List.map_toArray, List.map_cons, List.map_nil]; done) | (simp only [List.map_toArray, List.map_cons, List.map_nil]; rfl) | rfl) ?_
          with_reducible refine (needs_any _ e _ (HEI.out.below hHeld.1) HSE.out).mono ?_
          rintro r w5 ⟨v5, rfl, o5, b5⟩
          refine ⟨_, rfl, ?_⟩
          obtain ⟨A5, c5, e5⟩ := Kd.R_slice o5
          obtain ⟨n5, hn5⟩ : ∃ n5, n5 = (needsV e).length := ⟨_, rfl⟩
          rw [← hn5] at e5
          subst e5
          have h5 := hHeld.1.trans (b5.mono hHeld.1.size)
          have HS5 := Lib.hid (r_ss o5)
          have HK5 := Lib.hid (HK4.out.moved h5)
          have HZ5 : Hid (w4.heap.size ≤ w5.heap.size) := h5.size
          have HN5 := Lib.hid hn5
          obtain ⟨nk5, _, hm5⟩ := HK5.out.na.mp
          have HM5 := Lib.hid hm5
          clear o5 b5 hn5 hm5
          refine hK.out _ _ ⟨h5, pw_cell_below (h5) G0.out, pw_cell_below (h5) E0.out, pw_cell_below (h5) E1.out, pw_cell_below (h5) E2.out, pw_cell_below (h5) E3.out, pw_cell_below (h5) E4.out, pw_cell_below (h5) E5.out⟩ (fun hHeld => ?_)
          clear hK K
          refine norm_ (a' := ?_) ?_ ?_
          rotate_left
          · show Act.put _ (some 88) _ = _
            simp only [Act.put, List.setIfInBounds_toArray, List.set_cons_zero, List.set_cons_succ, i64_w, i32_w]
            rfl
          refine one_ (i := 8) (N := some 89) #[true, true, true, true, true, true, true, true, true, false, false, false, false, false] rfl rfl (by kernel_rfl) (by decide) (fun K hK => ?_)
          refine goes_ Try.func37 (by kernel_rfl) rfl #[.pointer (some ⟨x + 1 + 1, 0, none⟩), .slice A5 n5 c5] (by rfl) rfl rfl (by first | (simp only [List.map_toArray, List.map_cons, List.map_nil]; done) | (simp only [List.map_toArray, List.map_cons, List.map_nil]; rfl) | rfl) ?_
          with_reducible refine (made_any (x + 1 + 1) (x + 1) nk5 (makerOf m.edges) _ (needsV e) _ (blk_cell HK5.out.na.gx 2) HM5.out HS5.out (by unfold needsV; have h1 := HSE.out.ins; have h2 := HSE.out.imp; have h3 := HSE.out.ord; simp only [List.length_append]; omega) HSZ.out).mono ?_
          rintro r w6 ⟨v6, rfl, o6, b6⟩
          refine ⟨_, rfl, ?_⟩
          obtain ⟨A6, c6, e6⟩ := Kd.R_slice o6
          obtain ⟨n6, hn6⟩ : ∃ n6, n6 = (ints (madeF (makerOf m.edges) (needsV e))).length := ⟨_, rfl⟩
          rw [← hn6] at e6
          subst e6
          have h6 := hHeld.1.trans (b6.mono hHeld.1.size)
          have HK6 := Lib.hid (HK4.out.moved h6)
          have HO6 := Lib.hid (Kd.R_lower o6 hHeld.1.size)
          have HZ6 : Hid (w4.heap.size ≤ w6.heap.size) := h6.size
          clear o6 b6 hn6
          refine hK.out _ _ ⟨h6, pw_cell_below (h6) G0.out, pw_cell_below (h6) E0.out, pw_cell_below (h6) E1.out, pw_cell_below (h6) E2.out, pw_cell_below (h6) E3.out, pw_cell_below (h6) E4.out, pw_cell_below (h6) E5.out⟩ (fun hHeld => ?_)
          clear hK K
          refine norm_ (a' := ?_) ?_ ?_
          rotate_left
          · show Act.put _ (some 89) _ = _
            simp only [Act.put, List.setIfInBounds_toArray, List.set_cons_zero, List.set_cons_succ, i64_w, i32_w]
            rfl
          refine one_ (i := 9) (N := some 90) #[true, true, true, true, true, true, true, true, true, true, false, false, false, false] rfl rfl (by kernel_rfl) (by decide) (fun K hK => ?_)
          refine value_ (w1 := ?_) (v := ?_) (by rfl) rfl ?_ ?_
          rotate_left 2
          · go_simp
            constructor
            · rfl
            · rfl
          refine hK.out _ _ ⟨hHeld.1.alloc hHeld.1.size _, pw_cell_below (hHeld.1.alloc hHeld.1.size _) G0.out, pw_cell_below (hHeld.1.alloc hHeld.1.size _) E0.out, pw_cell_below (hHeld.1.alloc hHeld.1.size _) E1.out, pw_cell_below (hHeld.1.alloc hHeld.1.size _) E2.out, pw_cell_below (hHeld.1.alloc hHeld.1.size _) E3.out, pw_cell_below (hHeld.1.alloc hHeld.1.size _) E4.out, pw_cell_below (hHeld.1.alloc hHeld.1.size _) E5.out⟩ (fun hHeld => ?_)
          clear hK K
          refine norm_ (a' := ?_) ?_ ?_
          rotate_left
          · show Act.put _ (some 90) _ = _
            simp only [Act.put, List.setIfInBounds_toArray, List.set_cons_zero, List.set_cons_succ, i64_w, i32_w]
            rfl
          refine last_ (i := 10) (N := some 91) #[true, true, true, true, true, true, true, true, true, true, true, false, false, false] rfl rfl (by kernel_rfl) (by decide) (fun K hK => ?_)
          refine app_ints_step (w0 := w) (B := w4.heap.size) (u := .slice A6 n6 c6) (p := madeF (makerOf m.edges) (needsV e)) rfl (.tmp 85) (.tmp 90) rfl rfl rfl HK6.out HO6.out HK4.out.na.below.size (fun q hq => Nat.lt_of_lt_of_le (HBLK.out.1 q hq) HSZ4.out) (fun q hq => Nat.lt_of_lt_of_le (HBLK.out.2 q hq) HSZ4.out) HZ6.out (by rw [List.length_take]; omega) ?_
          intro va wa ra ga
          rw [← HAH.out] at ra
          obtain ⟨Ab, cb, eb⟩ := Kd.R_slice ra
          have hva : (((aheadV m.edges).take (k + 1)).map ints).length = k + 1 := by rw [List.length_map, List.length_take, HAL.out]; omega
          rw [hva] at eb
          subst eb
          obtain ⟨e7, x7⟩ := HK6.out.row ra ga
          have X7 := Lib.hid x7
          have fa := blk_frozen e7 3
          have ka := blk_cell e7 3
          clear ra ga hva e7 x7
          refine hK.out _ _ ?_
          clear hK K
          refine norm_ (a' := ?_) ?_ ?_
          rotate_left
          · show Act.put _ (some 91) _ = _
            simp only [Act.put, List.setIfInBounds_toArray, List.set_cons_zero, List.set_cons_succ, i64_w, i32_w]
            rfl
          refine pure_ (i := 11) (N := some 92) (v := ?_) (a' := ?_) #[true, true, true, true, true, true, true, true, true, true, true, true, false, false] rfl rfl (by kernel_rfl) (fun _ _ _ h => h) (Or.inl ⟨by rfl, ?_⟩) ?_ ?_
          rotate_left
          · intro w'
            go_simp
            with_reducible rfl
          rotate_left
          · simp only [Act.put, List.setIfInBounds_toArray, List.set_cons_zero, List.set_cons_succ, i64_w, i32_w]
            rfl
          refine pure_ (i := 12) (N := some 93) (v := ?_) (a' := ?_) #[true, true, true, true, true, true, true, true, true, true, true, true, true, false] rfl rfl (by kernel_rfl) (fun _ _ _ h => h) (Or.inl ⟨by rfl, ?_⟩) ?_ ?_
          rotate_left
          · intro w'
            go_simp
            with_reducible rfl
          rotate_left
          · simp only [Act.put, List.setIfInBounds_toArray, List.set_cons_zero, List.set_cons_succ, i64_w, i32_w]
            rfl
          refine last_ (i := 13) (N := none) #[true, true, true, true, true, true, true, true, true, true, true, true, true, true] rfl rfl (by kernel_rfl) (by decide) (fun K hK => ?_)
          refine skip_ (w1 := ?_) (by rfl) rfl ?_ ?_
          rotate_left
          · go_simp
            rfl
          refine hK.out _ _ ?_
          clear hK K
          refine done_ (by kernel_rfl) ?_
          --SB
          clear hHeld fa ka HO6 HK5 HK6 HM5 HS5 G0 E0 E1 E2 E3 E4 E5 h5 h6
          generalize wa.setCell ⟨x + 1 + 1, 3, none⟩ (.slice Ab (k + 1) cb) = w8 at X7 ⊢
          go_wp2_with (at_builtin; refine Held.of ?_)
          refine Held.out (Kd.R_append (Kd.int .i64) (w0 := w) w.heap.size rfl (.tmp 94) (.tmp 96) 37 3 (.int .i64 0) 8 rfl Try.underlying37 (by kernel_rfl) rfl (by decide) (by decide) _ (ints (List.range k)) (k : Int) [.int .i64 (k : Int)] (fun _ => True) (fun _ => False) rfl rfl rfl (fun _ h => h.elim) (fun _ _ => trivial) X7.out.al X7.out.na.below X7.out.na.below.size (by rw [List.length_map, List.length_range]; omega) ?_)
          intro v9 w9 r9 _ g9 hat
          have r9' : Ir w.heap.size w9 v9 (List.range (k + 1)) := by
            have e : ints (List.range (k + 1)) = ints (List.range k) ++ [(k : Int)] := by rw [List.range_succ]; simp [ints]
            show (Kd.int .i64).R _ _ _ _ _ _
            rw [e]
            exact r9
          have HK9 := Lib.hid (X7.out.num r9' g9 hat)
          obtain ⟨A9, c9, ev9⟩ := Kd.R_slice r9'
          have hl9 : (ints (List.range (k + 1))).length = k + 1 := by rw [List.length_map, List.length_range]
          rw [hl9] at ev9
          subst ev9
          clear r9 r9' g9 hat hl9
          go_wp2
          go_roundw
          case rel => exact ⟨k + 1, _, by omega, by go_num, HK9.out⟩
          case measure => simp [intOf]; omega
        · --SC
          have hk2 : k = n := by omega
          have hk3 := hk2.symm
          subst hk3
          have HKF : Hid (Nb w wr (x + 1 + 1) (x + 1) (.slice Av n cv) (.slice A2 nd c2) (.slice Aa n ca) m (allOuts m.edges).length (aheadV m.edges) (.slice Al n cl) (List.range n)) := by
            have h := HK.out
            rw [List.take_of_length_le (by rw [HAL.out]; exact Nat.le_refl _)] at h
            exact h
          clear HK hk2
          have HIA := Lib.hid (iss_of_R HKF.out.ah)
          have HIL := Lib.hid (Ir.is HKF.out.al)
          have HBB : Hid (∀ r ∈ aheadV m.edges, ∀ k ∈ r, k < 9223372036854775808) := fun r hr k hk => by
            have := ahead_lt m.edges r hr k hk
            have := HN.out
            omega
          go_wp2_with fail
          --SD
          refine (order_any (x + 1 + 1) _ (aheadV m.edges) _ (List.range n) _ (blk_cell HKF.out.na.gx 3) HIA.out HIL.out (by rw [List.length_range]; omega) (fun i hi => by rw [HAL.out]; exact List.mem_range.1 hi) HBB.out (by rw [HAL.out]; omega)).mono ?_
          rintro r w5 ⟨v5, rfl, r5, b5⟩
          obtain ⟨A5, c5, e5⟩ := Kd.R_slice r5
          obtain ⟨n5, hn5⟩ : ∃ n5, n5 = (orderV (aheadV m.edges) (List.range n)).length := ⟨_, rfl⟩
          rw [List.length_map, ← hn5] at e5
          subst e5
          have HK5 := Lib.hid (HKF.out.moved b5)
          have HN5 := Lib.hid hn5
          clear r5 b5 hn5
          by_cases hlt : n5 < n
          · have hd : decide ((n5 : Int) < (n : Int)) = true := decide_eq_true (by omega)
            have HLT := Lib.hid hlt
            clear hlt
            go_wp2
            go_ret2
            exact ⟨.inr (.inl ⟨rfl, HU.out, by rw [← HN5.out]; exact HLT.out⟩), HK5.out.na.below⟩
          · have hd : decide ((n5 : Int) < (n : Int)) = false := decide_eq_false (by omega)
            have HLT := Lib.hid hlt
            clear hlt
            go_wp2
            go_ret2
            obtain ⟨nk, _, hmp⟩ := HK5.out.na.mp
            exact ⟨.inr (.inr ⟨_, rfl, HU.out, by rw [← HN5.out]; exact HLT.out, _, _, _, _, nk, HK5.out.na.gx, ez_of_R HK5.out.na.ed, r_ss HK5.out.na.df, hmp, iss_of_R HK5.out.ah⟩), HK5.out.na.below⟩
--END WALK
end Go.Proofs.Ytifbkojapfighaa.Gr
