/- bellowslaw13.GraphOrders (walk). -/
import Derived.Test.YtifbkojapfighaaGrOpen
import Derived.Test.YtifbkojapfighaaGrAsk
namespace Go.Proofs.Ytifbkojapfighaa.Gr
open Go.RowKit Go.Proofs.YtifbkojapfighaaW.PrintWords Go.Proofs.YtifbkojapfighaaW.PrintLast Go.Proofs.Ytifbkojapfighaa.Base Go.Maps
set_option linter.unusedVariables false
set_option linter.unusedSimpArgs false
theorem topo_prefix {ah : List (List Nat)} {l : List Nat} (h : Topo ah l) : ∀ j, j < l.length → ∀ k ∈ ah.getD (l.getD j 0) [], k ∈ l.take j := by
  induction h with
  | nil => intro j hj; cases hj
  | snoc l n ht hn hcl ih =>
    intro j hj k hk
    by_cases h1 : j < l.length
    · have e : (l ++ [n]).getD j 0 = l.getD j 0 := by rw [List.getD_eq_getElem?_getD, List.getD_eq_getElem?_getD, List.getElem?_append_left h1]
      rw [e] at hk
      rw [List.take_append_of_le_length (by omega)]
      exact ih j h1 k hk
    · have e2 : j = l.length := by rw [List.length_append, List.length_singleton] at hj; omega
      subst e2
      have e : (l ++ [n]).getD l.length 0 = n := by rw [List.getD_eq_getElem?_getD, List.getElem?_append_right (Nat.le_refl _)]; simp
      rw [e] at hk
      rw [List.take_append_of_le_length (Nat.le_refl _), List.take_length]
      exact hcl k hk
theorem full_mem {es : List EdgeV} (hu : (allOuts es).Nodup) (hno : ¬ (orderV (aheadV es) (List.range es.length)).length < es.length) {l1 : List Nat} (hl1 : IsReach (aheadV es) (madeF (makerOf es) (sortS (allOuts es))) l1) {i : Nat} (hi : i < es.length) : i ∈ orderV (aheadV es) l1 ↔ 0 < (es.getD i zedge).outs.length := by
  rw [order_all hno hl1 (fun x hx => madeF_lt es _ x hx), hl1.mem]
  constructor
  · intro h
    have key : ∃ s, makerOf es s = some i := by
      cases h with
      | base _ h =>
        obtain ⟨s, _, h⟩ := mem_madeF.1 h
        exact ⟨s, h⟩
      | step n _ _ h =>
        by_cases hn : n < es.length
        · rw [ahead_at hn] at h
          obtain ⟨s, _, h⟩ := mem_madeF.1 h
          exact ⟨s, h⟩
        · rw [List.getD_eq_getElem?_getD, List.getElem?_eq_none (by rw [ahead_len]; omega)] at h
          cases h
    obtain ⟨s, h⟩ := key
    exact List.length_pos_of_mem (maker_mem h).2
  · intro h
    have hm := (take_at (es.getD i zedge).outs ByteArray.empty 0 h).2
    refine .base i (mem_madeF.2 ⟨_, mem_sortS.2 ?_, maker_uniq hu hi hm⟩)
    exact List.mem_flatten.2 ⟨_, List.mem_map.2 ⟨_, (take_at es zedge i hi).2, rfl⟩, hm⟩
set_option maxRecDepth 100000 in
set_option maxHeartbeats 16000000 in
theorem orders_any (v : Value) (m : ManV) (w : World) (hm : ManIs w v m) :
    Calls Try.prog 6 #[v] w fun e w' => e = .returned (.bool true) ∧ Below w.heap.size w w' := by
  obtain ⟨ve, vd, rfl, hE, hD⟩ := hm
  obtain ⟨Ae, ce, rfl, hce, hme⟩ := hE.len
  obtain ⟨n, hn⟩ : ∃ n, n = m.edges.length := ⟨_, rfl⟩
  rw [← hn] at hce hme hE ⊢
  obtain ⟨Ad, cd, rfl, hcd, hmd⟩ := ss_len hD
  obtain ⟨nd, hnd⟩ : ∃ nd, nd = m.defs.length := ⟨_, rfl⟩
  rw [← hnd] at hcd hmd hD ⊢
  obtain ⟨x, hx⟩ : ∃ x, w.heap.size = x := ⟨_, rfl⟩
  obtain ⟨w1, hw1⟩ : ∃ w1, w1 = w.alloc (.cells #[.slice Ae n ce, .slice Ad nd cd] 25) := ⟨_, rfl⟩
  have hb1 : Below w.heap.size w w1 := by rw [hw1]; exact below_alloc (Below.refl _ _) _
  have hX : w1.heap[x]? = some (.cells #[.slice Ae n ce, .slice Ad nd cd] 25 (0, 0)) := by rw [hw1, ← hx]; exact blk_new w _
  have HX := Lib.hid hX
  have HE1 := Lib.hid (hE.below hb1)
  have HD1 := Lib.hid (hD.below hb1)
  have HB1 := Lib.hid hb1
  have HW := Lib.hid hw1
  have HN := Lib.hid hn
  have q0 := (show w1.cell? ⟨x, 0, none⟩ = some (.slice Ae n ce) from blk_cell hX 0)
  have q1 := (show w1.cell? ⟨x, 1, none⟩ = some (.slice Ad nd cd) from blk_cell hX 1)
  clear hE hD hb1 hX hw1 hn hnd
  go_enter Try.func6, Try.ntmps6
  go_upto_region 1 with (fail)
  rw [← HW.out]
  try rw [hx]
  clear hx
  go_wp2_with fail
  refine (few_any _ m _ _ _ rfl HE1.out HD1.out).mono ?_
  rintro e w2 ⟨hres, b2⟩
  have HB2 := Lib.hid (HB1.out.trans (b2.mono HB1.out.size))
  rcases hres with rfl | ⟨rfl, hfm⟩
  · clear q0 q1
    go_wp2
    go_ret
    exact ⟨rfl, HB2.out⟩
  have HFM := Lib.hid hfm
  clear hfm q0 q1
  have X2 := Lib.hid ((b2.block x (blk_lt HX.out)).trans HX.out)
  have q0 := (show w2.cell? ⟨x, 0, none⟩ = some (.slice Ae n ce) from blk_cell X2.out 0)
  have q1 := (show w2.cell? ⟨x, 1, none⟩ = some (.slice Ad nd cd) from blk_cell X2.out 1)
  have HE2 := Lib.hid (HE1.out.below b2)
  have HD2 := Lib.hid (HD1.out.below b2)
  clear b2
  go_wp2_with fail
  refine (of_any _ m _ _ _ rfl HE2.out HD2.out HFM.out).mono ?_
  rintro e w3 ⟨⟨ve3, vd3, rfl, hE3, hD3⟩, b3⟩
  obtain ⟨A3, c3, e3, _, _⟩ := hE3.len
  rw [← HN.out] at e3
  subst e3
  obtain ⟨Ad3, cd3, e3, _, _⟩ := ss_len hD3
  obtain ⟨nd3, hnd3⟩ : ∃ nd3, nd3 = m.defs.length := ⟨_, rfl⟩
  rw [← hnd3] at e3
  subst e3
  have HE3 := Lib.hid hE3
  have HD3 := Lib.hid hD3
  have HB3 := Lib.hid (HB2.out.trans (b3.mono HB2.out.size))
  have X3 := Lib.hid ((b3.block x (blk_lt X2.out)).trans X2.out)
  have HER3 := Lib.hid (HE2.out.below b3)
  have HSG := Lib.hid (few_small HFM.out)
  clear hE3 hD3 hnd3 b3 q0 q1 X2 HE2 HD2
  go_wp2_with fail
  refine (new_any _ m _ _ _ rfl HE3.out HD3.out HSG.out.toSmallM).mono ?_
  rintro e w4 ⟨hres, b4⟩
  have HB4 := Lib.hid (HB3.out.trans (b4.mono HB3.out.size))
  have X4 := Lib.hid ((b4.block x (blk_lt X3.out)).trans X3.out)
  have HER4 := Lib.hid (HER3.out.below b4)
  have q0 := (show w4.cell? ⟨x, 0, none⟩ = some (.slice Ae n ce) from blk_cell X4.out 0)
  have q1 := (show w4.cell? ⟨x, 1, none⟩ = some (.slice Ad nd cd) from blk_cell X4.out 1)
  clear b4 X3 HER3 HE3 HD3
  rcases hres with ⟨rfl, hbad⟩ | ⟨rfl, hnd4, hbad⟩ | ⟨g, rfl, hnd4, hno, hgx⟩
  · have HBAD := Lib.hid hbad
    clear hbad
    go_wp2_with fail
    refine (wrong_any _ m _ _ _ rfl HER4.out HSG.out.toSmallM (by have := HFM.out.edges; omega)).mono ?_
    rintro e w5 ⟨⟨c, rfl, hc⟩, b5⟩
    have HB5 := Lib.hid (HB4.out.trans (b5.mono HB4.out.size))
    have hc0 : c = 11 ∨ c = 12 := by
      rcases hc.any with ⟨h, _⟩ | ⟨h, _⟩ | ⟨_, h1, h2⟩
      · exact .inl h
      · exact .inr h
      · exact absurd h1 HBAD.out
    have c1 : ((c : Int) != 0) = true := by rw [bne_iff_ne]; omega
    have HC0 := Lib.hid hc0
    clear b5 hc hc0 q0 q1
    go_wp2_with fail
    refine (awake_any _).mono ?_
    rintro e w6 ⟨rfl, b6⟩
    have HB6 := Lib.hid (HB5.out.trans (b6.mono HB5.out.size))
    clear b6
    go_wp2
    go_ret
    exact ⟨rfl, HB6.out⟩
  · have HBAD := Lib.hid hbad
    clear hbad hnd4
    go_wp2_with fail
    refine (wrong_any _ m _ _ _ rfl HER4.out HSG.out.toSmallM (by have := HFM.out.edges; omega)).mono ?_
    rintro e w5 ⟨⟨c, rfl, hc⟩, b5⟩
    have HB5 := Lib.hid (HB4.out.trans (b5.mono HB4.out.size))
    have hc0 : c = 11 ∨ c = 12 := by
      rcases hc.any with ⟨h, _⟩ | ⟨h, _⟩ | ⟨_, h1, h2⟩
      · exact .inl h
      · exact .inr h
      · exact absurd HBAD.out h2
    have c1 : ((c : Int) != 0) = true := by rw [bne_iff_ne]; omega
    have HC0 := Lib.hid hc0
    clear b5 hc hc0 q0 q1
    go_wp2_with fail
    refine (awake_any _).mono ?_
    rintro e w6 ⟨rfl, b6⟩
    have HB6 := Lib.hid (HB5.out.trans (b6.mono HB5.out.size))
    clear b6
    go_wp2
    go_ret
    exact ⟨rfl, HB6.out⟩
  have HG : Hid (Gx w4 g m) := hgx
  have HU := Lib.hid hnd4
  have HNO := Lib.hid hno
  clear hnd4 hno hgx
  clear q1
  go_wp2_with fail
  refine (outs_any g m _ HG.out HSG.out HU.out).mono ?_
  rintro e w5 ⟨v5, rfl, r5, b5⟩
  have HB5 := Lib.hid (HB4.out.trans (b5.mono HB4.out.size))
  have HG5 := Lib.hid (HG.out.below b5)
  have X5 := Lib.hid ((b5.block x (blk_lt X4.out)).trans X4.out)
  have HER5 := Lib.hid (HER4.out.below b5)
  have HS5 := Lib.hid (r_ss r5)
  have HALL : Hid (∀ s ∈ sortS (allOuts m.edges), (makerOf m.edges s).isSome = true ∧ s.size ≤ maxLen) := fun s hs => by
    have hs := mem_sortS.1 hs
    obtain ⟨k, hk⟩ : ∃ k, makerOf m.edges s = some k := by
      have h := maker_some (es := m.edges) (s := s)
      rw [decide_eq_true hs] at h
      exact Option.isSome_iff_exists.1 h
    refine ⟨by rw [hk]; rfl, ?_⟩
    obtain ⟨h1, h2⟩ := maker_mem hk
    exact HSG.out.size _ (take_at m.edges zedge k h1).2 s (.inl h2)
  have HLL : Hid ((sortS (allOuts m.edges)).length ≤ 100000) := by
    have h1 := sum_len (fun e => e.outs) 10 m.edges (fun e he => (HFM.out.each e he).outs)
    have h2 := HFM.out.edges
    have h3 := (sortS_perm (allOuts m.edges)).length_eq
    unfold allOuts at h3 ⊢
    show _ ≤ _
    omega
  obtain ⟨A5, c5, e5⟩ := Kd.R_slice r5
  obtain ⟨n5, hn5⟩ : ∃ n5, n5 = (sortS (allOuts m.edges)).length := ⟨_, rfl⟩
  rw [← hn5] at e5
  subst e5
  clear r5 b5 hn5 HG HER4 X4 q0
  go_wp2_with fail
  refine (plan_any g m _ (sortS (allOuts m.edges)) _ HG5.out HSG.out HS5.out (fun s hs => (HALL.out s hs).2) HLL.out).mono ?_
  rintro e w6 ⟨hres, b6⟩
  have HB6 := Lib.hid (HB5.out.trans (b6.mono HB5.out.size))
  have HG6 := Lib.hid (HG5.out.below b6)
  have X6 := Lib.hid ((b6.block x (blk_lt X5.out)).trans X5.out)
  have HER6 := Lib.hid (HER5.out.below b6)
  rcases hres with ⟨rfl, hno⟩ | ⟨v6, l1, rfl, hgood, hl1, r6⟩
  · exact absurd (fun t ht => .inr (HALL.out t ht).1) hno
  have HFU : Hid (∀ i, i < m.edges.length → (i ∈ orderV (aheadV m.edges) l1 ↔ 0 < (m.edges.getD i zedge).outs.length)) := fun i hi => full_mem HU.out HNO.out hl1 hi
  have HTP := Lib.hid (order_topo (aheadV m.edges) l1)
  have HLT : Hid (∀ z ∈ orderV (aheadV m.edges) l1, z < n) := fun z hz => by
    have h1 := hl1.lt (by rw [ahead_len]; exact madeF_lt m.edges _) (fun r hr k hk => by rw [ahead_len]; exact ahead_lt m.edges r hr k hk) z (order_sub _ _ z hz)
    rwa [ahead_len, ← HN.out] at h1
  generalize orderV (aheadV m.edges) l1 = l at HFU HTP HLT r6
  have HS6 := Lib.hid (Ir.is r6)
  obtain ⟨A6, c6, e6⟩ := Kd.R_slice r6
  obtain ⟨n1, hn1⟩ : ∃ n1, n1 = l.length := ⟨_, rfl⟩
  rw [List.length_map, ← hn1] at e6
  subst e6
  have HN1 := Lib.hid hn1
  have hn30 : n ≤ 30 := by have := HFM.out.edges; have := HN.out; omega
  have hn16 : n1 ≤ 30 := by
    have h1 := nodup_sub_len HTP.out.nodup (m := List.range n) fun x hx => List.mem_range.2 (HLT.out x hx)
    rw [List.length_range, ← hn1] at h1
    omega
  have hmb := mk_bools n (by omega)
  have q0 := (show w6.cell? ⟨x, 0, none⟩ = some (.slice Ae n ce) from blk_cell X6.out 0)
  clear r6 b6 hn1 hgood hl1 HG5 HER5 X5 HALL HLL HS5
  go_upto_region 10 with (fail)
  obtain ⟨gd, hgd⟩ : ∃ gd, w6.heap.size = gd := ⟨_, rfl⟩
  have HR7 : Hid (BR (w6.alloc (.cells (madeCells #[.bool false] n) 4)) gd n (fun _ => false)) := by show BR _ _ _ _; rw [← hgd]; exact BR.made w6 n
  have HB7 : Hid (Below w6.heap.size w6 (w6.alloc (.cells (madeCells #[.bool false] n) 4))) := below_alloc (Below.refl _ _) _
  try rw [hgd]
  have HGD := Lib.hid hgd
  clear hgd q0 hmb
  generalize w6.alloc (.cells (madeCells #[.bool false] n) 4) = w7 at HR7 HB7 ⊢
  go_wp2
  --S1
  go_loopw [8] (fun i wr => ∃ (j : Nat) (f : Nat → Bool), j ≤ n1 ∧ i = .int .i64 j ∧ Hid (BR wr gd n f) ∧ Hid (∀ x, x < n → (f x = true ↔ x ∈ l.take j)) ∧ Hid (Below w6.heap.size w6 wr)) (fun i _ => n1 - (intOf i).toNat)
  case atStart => exact ⟨0, _, by omega, rfl, HR7.out, fun x _ => ⟨fun h => (by cases h), fun h => (by cases h)⟩, HB7.out⟩
  case round =>
    clear HR7 HB7
    obtain ⟨j, f, hj, rfl, HR, HF, HB⟩ := hrel
    by_cases l3 : j < n1
    · have hjl : j < l.length := by rw [← HN1.out]; exact l3
      obtain ⟨ad5, e1, q⟩ := (HS6.out.below HB.out).get j hjl
      subst e1
      have HTJ := Lib.hid (take_at l 0 j hjl)
      have HPX := Lib.hid (topo_prefix HTP.out j hjl)
      have hnoty : l.getD j 0 ∉ l.take j := by
        have h := HTP.out.nodup
        rw [split_at l 0 j hjl] at h
        exact fun hm => (List.nodup_append.1 h).2.2 _ hm _ (.head _) rfl
      obtain ⟨y, hy⟩ : ∃ y, y = l.getD j 0 := ⟨_, rfl⟩
      rw [← hy] at q HTJ HPX hnoty
      have HYE := Lib.hid hy
      have hyn := HLT.out y HTJ.out.2
      have HYL : Hid (y < m.edges.length) := by rw [← HN.out]; exact hyn
      have hfy : f y = false := by
        cases hf : f y with
        | false => rfl
        | true => exact absurd ((HF.out y hyn).1 hf) hnoty
      have c1 := HR.out.cell hyn
      rw [hfy] at c1
      obtain ⟨ad, vo, vi, vm, vr, e7, p0, p1, p2, p3, p4, p5, hec⟩ := (HER6.out.below HB.out).get y HYL.out
      subst e7
      have HAY := Lib.hid (ahead_at HYL.out)
      obtain ⟨ey, hey⟩ : ∃ ey, ey = m.edges.getD y zedge := ⟨_, rfl⟩
      rw [← hey] at p4 p5 hec HAY
      have hfe := HFM.out.each _ (take_at m.edges zedge y HYL.out).2
      have HSE := Lib.hid (HSG.out.each _ (take_at m.edges zedge y HYL.out).2)
      rw [← hey] at HSE hfe
      have HSZ : Hid (∀ s ∈ needsV ey, s.size ≤ maxLen) := fun s hs => by
        rw [hey] at hs
        exact HSG.out.size _ (take_at m.edges zedge y HYL.out).2 s (.inr hs)
      have HNL : Hid ((needsV ey).length ≤ 30) := by
        have h1 := hfe.ins
        have h2 := hfe.imp
        have h3 := hfe.ord
        unfold needsV
        show _ ≤ _
        rw [List.length_append, List.length_append]
        omega
      have HEI : Hid (EdIs wr (.agg #[vo, vi, vm, vr, .string ey.cmd, .string ey.dep]) ey) := ⟨_, _, _, _, rfl, hec⟩
      have q0 := (show wr.cell? ⟨x, 0, none⟩ = some (.slice (some ad) n ce) from blk_cell ((HB.out.block x (blk_lt X6.out)).trans X6.out) 0)
      have d1 : decide ((y : Int) < 0) = false := decide_eq_false (by omega)
      have d2 : decide ((n : Int) ≤ (y : Int)) = false := decide_eq_false (by omega)
      have Z0 := Lib.hid q0
      have Z1 := Lib.hid q
      have Z2 := Lib.hid p0
      have Z3 := Lib.hid p1
      have Z4 := Lib.hid p2
      have Z5 := Lib.hid p3
      have Z6 := Lib.hid p4
      have Z7 := Lib.hid p5
      have HBD : Hid (Below wr.heap.size wr wr.drew) := Below.drew (Below.refl _ _)
      clear hec hy hjl hnoty hfy hey hfe q0 p0 p1 p2 p3 p4 p5
      go_wp2
      clear c1 d1 d2 q
      refine start_ (n := 10) (S := fun w' => Below wr.heap.size wr w' ∧ w'.cell? ⟨x, 0, none⟩ = some (.slice (some ad) n ce) ∧ w'.cell? (ad5.add j) = some (.int .i64 (y : Int)) ∧ w'.cell? (ad.add (y * 6)) = some vo ∧ w'.cell? ⟨(ad.add (y * 6)).block, (ad.add (y * 6)).off + 1, none⟩ = some (vi) ∧ w'.cell? ⟨(ad.add (y * 6)).block, (ad.add (y * 6)).off + 2, none⟩ = some (vm) ∧ w'.cell? ⟨(ad.add (y * 6)).block, (ad.add (y * 6)).off + 3, none⟩ = some (vr) ∧ w'.cell? ⟨(ad.add (y * 6)).block, (ad.add (y * 6)).off + 4, none⟩ = some (.string ey.cmd) ∧ w'.cell? ⟨(ad.add (y * 6)).block, (ad.add (y * 6)).off + 5, none⟩ = some (.string ey.dep)) (ds := []) #[false, false, false, false, false, false, false, false, false, false] (by kernel_rfl) rfl rfl ⟨HBD.out, Z0.out, Z1.out, Z2.out, Z3.out, Z4.out, Z5.out, Z6.out, Z7.out⟩ (fun hHeld => ?_)
      refine pure_ (i := 0) (N := some 77) (v := ?_) (a' := ?_) #[true, false, false, false, false, false, false, false, false, false] rfl rfl (by kernel_rfl) (fun _ _ _ h => h) (Or.inl ⟨by rfl, ?_⟩) ?_ ?_
      rotate_left
      · intro w'
        go_simp
        with_reducible rfl
      rotate_left
      · simp only [Act.put, List.setIfInBounds_toArray, List.set_cons_zero, List.set_cons_succ, i64_w, i32_w]
        rfl
      refine pure_ (i := 2) (N := some 79) (v := ?_) (a' := ?_) #[true, false, true, false, false, false, false, false, false, false] rfl rfl (by kernel_rfl) (fun _ _ _ h => h) (Or.inl ⟨by rfl, ?_⟩) ?_ ?_
      rotate_left
      · intro w'
        go_simp
        with_reducible rfl
      rotate_left
      · simp only [Act.put, List.setIfInBounds_toArray, List.set_cons_zero, List.set_cons_succ, i64_w, i32_w]
        rfl
      refine pure_ (i := 3) (N := some 80) (v := ?_) (a' := ?_) #[true, false, true, true, false, false, false, false, false, false] rfl rfl (by kernel_rfl) (fun _ _ _ h => h) (Or.inl ⟨by rfl, ?_⟩) ?_ ?_
      rotate_left
      · intro w'
        go_simp
        with_reducible rfl
      rotate_left
      · simp only [Act.put, List.setIfInBounds_toArray, List.set_cons_zero, List.set_cons_succ, i64_w, i32_w]
        rfl
      refine pure_ (i := 4) (N := some 81) (v := ?_) (a' := ?_) #[true, false, true, true, true, false, false, false, false, false] rfl rfl (by kernel_rfl) (fun _ _ _ h => h) (Or.inl ⟨by rfl, ?_⟩) ?_ ?_
      rotate_left
      · intro w'
        go_simp
        with_reducible rfl
      rotate_left
      · simp only [Act.put, List.setIfInBounds_toArray, List.set_cons_zero, List.set_cons_succ, i64_w, i32_w]
        rfl
      refine take_ (i := 1) (N := some 78) (v := ?_) (a' := ?_) #[true, true, true, true, true, false, false, false, false, false] rfl rfl (by kernel_rfl) (fun _ _ _ h => h) (Or.inl ⟨by rfl, ?_⟩) hHeld ?_ ?_
      rotate_left
      · rintro w' ⟨s0, s1, s2, s3, s4, s5, s6, s7, s8⟩
        go_simp
        with_reducible rfl
      rotate_left
      · simp only [Act.put, List.setIfInBounds_toArray, List.set_cons_zero, List.set_cons_succ, i64_w, i32_w]
        rfl
      refine take_ (i := 5) (N := some 82) (v := ?_) (a' := ?_) #[true, true, true, true, true, true, false, false, false, false] rfl rfl (by kernel_rfl) (fun _ _ _ h => h) (Or.inl ⟨by rfl, ?_⟩) hHeld ?_ ?_
      rotate_left
      · rintro w' ⟨s0, s1, s2, s3, s4, s5, s6, s7, s8⟩
        go_simp
        with_reducible rfl
      rotate_left
      · simp only [Act.put, List.setIfInBounds_toArray, List.set_cons_zero, List.set_cons_succ, i64_w, i32_w]
        rfl
      refine pure_ (i := 6) (N := some 83) (v := ?_) (a' := ?_) #[true, true, true, true, true, true, true, false, false, false] rfl rfl (by kernel_rfl) (fun _ _ _ h => h) (Or.inl ⟨by rfl, ?_⟩) ?_ ?_
      rotate_left
      · intro w'
        go_simp
        with_reducible rfl
      rotate_left
      · simp only [Act.put, List.setIfInBounds_toArray, List.set_cons_zero, List.set_cons_succ, i64_w, i32_w]
        rfl
      refine take_ (i := 7) (N := some 84) (v := ?_) (a' := ?_) #[true, true, true, true, true, true, true, true, false, false] rfl rfl (by kernel_rfl) (fun _ _ _ h => h) (Or.inl ⟨by rfl, ?_⟩) hHeld ?_ ?_
      rotate_left
      · rintro w' ⟨s0, s1, s2, s3, s4, s5, s6, s7, s8⟩
        go_simp
        with_reducible rfl
      rotate_left
      · simp only [Act.put, List.setIfInBounds_toArray, List.set_cons_zero, List.set_cons_succ, i64_w, i32_w]
        rfl
      refine one_ (i := 8) (N := some 85) #[true, true, true, true, true, true, true, true, true, false] rfl rfl (by kernel_rfl) (by decide) (fun K hK => ?_)
      refine goes_ Try.func21 (by kernel_rfl) rfl #[.agg #[vo, vi, vm, vr, .string ey.cmd, .string ey.dep]] (by rfl) rfl rfl (by first | (simp only [List.map_toArray, List.map_cons, List.map_nil]; done) | (simp only [List.map_toArray, List.map_cons, List.map_nil]; rfl) | rfl) ?_
      with_reducible refine (rneeds_any _ ey _ (HEI.out.below hHeld.1) HSE.out).mono ?_
      rintro e w7 ⟨v7, rfl, r7, b7⟩
      refine ⟨_, rfl, ?_⟩
      have HR7 := Lib.hid r7
      have h7 := hHeld.1.trans (b7.mono hHeld.1.size)
      have HB7 := Lib.hid h7
      clear r7 b7
      refine hK.out _ _ ⟨h7, pw_cell_below (h7) Z0.out, pw_cell_below (h7) Z1.out, pw_cell_below (h7) Z2.out, pw_cell_below (h7) Z3.out, pw_cell_below (h7) Z4.out, pw_cell_below (h7) Z5.out, pw_cell_below (h7) Z6.out, pw_cell_below (h7) Z7.out⟩ (fun hHeld => ?_)
      clear hK K
      refine norm_ (a' := ?_) ?_ ?_
      rotate_left
      · show Act.put _ (some 85) _ = _
        simp only [Act.put, List.setIfInBounds_toArray, List.set_cons_zero, List.set_cons_succ, i64_w, i32_w]
        rfl
      refine pure_ (i := 9) (N := some 9) (v := ?_) (a' := ?_) #[true, true, true, true, true, true, true, true, true, true] rfl rfl (by kernel_rfl) (fun _ _ _ h => h) (Or.inl ⟨by rfl, ?_⟩) ?_ ?_
      rotate_left
      · intro w'
        go_simp
        with_reducible rfl
      rotate_left
      · simp only [Act.put, List.setIfInBounds_toArray, List.set_cons_zero, List.set_cons_succ, i64_w, i32_w]
        rfl
      refine done_ (by kernel_rfl) ?_
      clear hHeld
      obtain ⟨A7, c7, e7⟩ := Kd.R_slice HR7.out
      obtain ⟨n7, hn7⟩ : ∃ n7, n7 = (needsV ey).length := ⟨_, rfl⟩
      rw [← hn7] at e7
      subst e7
      have hn76 : n7 ≤ 30 := by have := HNL.out; omega
      have HS7 := Lib.hid (r_ss HR7.out)
      have HN7 := Lib.hid hn7
      have HRB := Lib.hid (HR.out.below HB7.out)
      have HB8 := Lib.hid (HB.out.trans (HB7.out.mono HB.out.size))
      have HG7 := Lib.hid (HG6.out.below HB8.out)
      have q := pw_cell_below HB7.out Z1.out
      clear HR7 hn7 Z0 Z1 Z2 Z3 Z4 Z5 Z6 Z7 HBD HEI
      go_wp2
      clear q
      obtain ⟨wo, hwo⟩ : ∃ wo, wo = wr := ⟨_, rfl⟩
      subst hwo
      --S2
      go_loopw [10] (fun i wr => ∃ jj : Nat, jj ≤ n7 ∧ i = .int .i64 jj ∧ wr = w7) (fun i _ => n7 - (intOf i).toNat)
      case atStart => exact ⟨0, by omega, rfl, rfl⟩
      case round =>
        obtain ⟨jj, hjj, rfl, hwr⟩ := hrel
        have hwr := hwr.symm
        subst hwr
        by_cases l4 : jj < n7
        · have hjl : jj < (needsV ey).length := by rw [← HN7.out]; exact l4
          obtain ⟨ads, e8, qs⟩ := ss_get HS7.out jj hjl
          subst e8
          have HMS := Lib.hid (take_at (needsV ey) ByteArray.empty jj hjl).2
          obtain ⟨s, hs⟩ : ∃ s, s = (needsV ey).getD jj ByteArray.empty := ⟨_, rfl⟩
          rw [← hs] at qs HMS
          clear hjl hs
          go_wp2_with fail
          refine (maker_any g m s _ HG7.out (HSZ.out s HMS.out)).mono ?_
          rintro e w9 ⟨rfl, hw9⟩
          have hw9 := hw9.symm
          subst hw9
          obtain ⟨t, ht⟩ : ∃ t, t = makerOf m.edges s := ⟨_, rfl⟩
          rw [← ht]
          have HT := Lib.hid ht
          clear ht qs
          cases t with
          | none =>
            simp only [Option.getD_none, Option.isSome_none]
            go_wp2
            go_roundw
            case rel => exact ⟨jj + 1, by omega, by go_num⟩
            case measure => simp [intOf]; omega
          | some z =>
            simp only [Option.getD_some, Option.isSome_some]
            have hzm : z ∈ l.take j := HPX.out z (by rw [HAY.out]; exact mem_madeF.2 ⟨s, HMS.out, HT.out.symm⟩)
            have hzn : z < n := HLT.out z (List.mem_of_mem_take hzm)
            have c1 := HRB.out.cell hzn
            rw [(HF.out z hzn).2 hzm] at c1
            clear hzm
            go_wp2
            go_roundw
            case rel => exact ⟨jj + 1, by omega, by go_num⟩
            case measure => simp [intOf]; omega
        · have q := (HS6.out.below HB8.out).get j (by rw [← HN1.out]; exact l3)
          obtain ⟨ad9, e9, q⟩ := q
          have e9 := Option.some.inj e9
          subst e9
          rw [← HYE.out] at q
          have c1 := HRB.out.cell hyn
          have c2 := HRB.out.free y
          have HR9 := Lib.hid (HRB.out.set y)
          have HF9 : Hid (∀ x, x < n → ((if x = y then true else f x) = true ↔ x ∈ l.take (j + 1))) := fun x hx => by
            rw [HTJ.out.1, List.mem_append, List.mem_singleton, ← HF.out x hx]
            by_cases hxy : x = y
            · simp [hxy]
            · simp [hxy]
          have HB9 : Hid (Below w6.heap.size w6 (w7.setCell ⟨gd, y, none⟩ (.bool true))) := HB8.out.setCell (by rw [HGD.out]; exact Nat.le_refl _) _
          go_wp2
          go_roundw
          case rel => exact ⟨j + 1, _, by omega, by go_num, HR9.out, HF9.out, HB9.out⟩
          case measure => simp [intOf]; omega
    · have hj2 : j = n1 := by omega
      have HFF : Hid (∀ x, x < n → (f x = true ↔ x ∈ l)) := by
        have h := HF.out
        rw [hj2, HN1.out, List.take_length] at h
        exact h
      obtain ⟨w8, hw8⟩ : ∃ w8, w8 = wr := ⟨_, rfl⟩
      subst hw8
      clear hj2 HF
      go_wp2
      clear l3 hj
      --S3
      go_loopw [13] (fun i wr => ∃ j : Nat, j ≤ n ∧ i = .int .i64 j ∧ Hid (Below w8.heap.size w8 wr)) (fun i _ => n - (intOf i).toNat)
      case atStart => exact ⟨0, by omega, rfl, Below.refl _ _⟩
      case round =>
        obtain ⟨i, hi, rfl, HB9⟩ := hrel
        by_cases l5 : i < n
        · have hil : i < m.edges.length := by rw [← HN.out]; exact l5
          have hbr := (HB.out.trans (HB9.out.mono HB.out.size))
          obtain ⟨ad, vo, vi, vm, vr, e7, p0, p1, p2, p3, p4, p5, hec⟩ := (HER6.out.below hbr).get i hil
          subst e7
          obtain ⟨Ao, co, eo, _, hmo⟩ := ss_len hec.1
          obtain ⟨no, hno⟩ : ∃ no, no = (m.edges.getD i zedge).outs.length := ⟨_, rfl⟩
          rw [← hno] at eo hmo
          subst eo
          have c1 := (HR.out.below HB9.out).cell l5
          have hfi : f i = decide ((0 : Int) < (no : Int)) := by
            rw [Bool.eq_iff_iff, HFF.out i l5, HFU.out i hil, ← hno, decide_eq_true_iff]
            omega
          have q0 := (show wr.cell? ⟨x, 0, none⟩ = some (.slice (some ad) n ce) from blk_cell ((hbr.block x (blk_lt X6.out)).trans X6.out) 0)
          have HB0 := Lib.hid (HB9.out.trans ((pw_below_drewN (Below.refl wr.heap.size wr) 0).mono HB9.out.size))
          obtain ⟨b, hb⟩ : ∃ b, b = decide ((0 : Int) < (no : Int)) := ⟨_, rfl⟩
          rw [hfi, ← hb] at c1
          have d4 : decide (0 < no) = b := by rw [hb, Bool.eq_iff_iff, decide_eq_true_iff, decide_eq_true_iff]; omega
          have d5 : (!b == b) = false := by cases b <;> rfl
          clear hec hno hfi hb hbr hil HB0 p1 p2 p3 p4 p5
          go_wp2
          go_quiet (fail)
          go_wp2
          have hbz : Below wr.heap.size wr (wr.drewN nq) := pw_below_drewN (Below.refl _ _) _
          have HB10 := Lib.hid (HB9.out.trans (hbz.mono HB9.out.size))
          clear hbz d4 d5
          go_roundw
          case rel => exact ⟨i + 1, by omega, by go_num, HB10.out⟩
          case measure => simp [intOf]; omega
        · have HB10 := Lib.hid (HB6.out.trans ((HB.out.trans (HB9.out.mono HB.out.size)).mono HB6.out.size))
          go_wp2_with fail
          refine (awake_any _).mono ?_
          rintro e w13 ⟨rfl, b13⟩
          have HB13 := Lib.hid (HB10.out.trans (b13.mono HB10.out.size))
          clear b13
          go_wp2
          go_ret
          exact ⟨rfl, HB13.out⟩
end Go.Proofs.Ytifbkojapfighaa.Gr
