/- bellowslaw13.GraphAbove (walk). -/
import Derived.Test.YtifbkojapfighaaGrOpen
import Derived.Test.YtifbkojapfighaaGrAsk
import Derived.Test.YtifbkojapfighaaGrPut
namespace Go.Proofs.Ytifbkojapfighaa.Gr
open Go.RowKit Go.Proofs.YtifbkojapfighaaW.PrintWords Go.Proofs.YtifbkojapfighaaW.PrintLast Go.Proofs.Ytifbkojapfighaa.Base Go.Maps
set_option linter.unusedVariables false
set_option linter.unusedSimpArgs false
theorem putAll_take (l : List ByteArray) (a : List ByteArray) (j : Nat) (h : j < a.length) : putAll l (a.take (j + 1)) = putS (putAll l (a.take j)) (a.getD j ByteArray.empty) := by
  rw [(take_at a ByteArray.empty j h).1, putAll_snoc]
set_option maxRecDepth 100000 in
set_option maxHeartbeats 16000000 in
theorem above_law (v : Value) (at_ : Nat) (m : ManV) (w : World) (hm : ManIs w v m) (ha : at_ < 256) :
    Calls Try.prog 5 #[v, .int .u8 at_] w fun e w' => e = .returned (.bool true) ∧ Below w.heap.size w w' := by
  obtain ⟨ve, vd, rfl, hE, hD⟩ := hm
  obtain ⟨Ae, ce, rfl, hce, hme⟩ := hE.len
  obtain ⟨n, hn⟩ : ∃ n, n = m.edges.length := ⟨_, rfl⟩
  rw [← hn] at hce hme hE ⊢
  obtain ⟨Ad, cd, rfl, hcd, hmd⟩ := ss_len hD
  obtain ⟨nd, hnd⟩ : ∃ nd, nd = m.defs.length := ⟨_, rfl⟩
  rw [← hnd] at hcd hmd hD ⊢
  obtain ⟨x, hx⟩ : ∃ x, w.heap.size = x := ⟨_, rfl⟩
  obtain ⟨w1, hw1⟩ : ∃ w1, w1 = w.alloc (.cells #[.slice Ae n ce, .slice Ad nd cd] 25) := ⟨_, rfl⟩
  have hb1 : Below w.heap.size w w1 := by rw [hw1]; exact below_alloc (Below.refl _ _) _
  have hX : w1.heap[x]? = some (.cells #[.slice Ae n ce, .slice Ad nd cd] 25 (0, 0)) := by rw [hw1, ← hx]; exact blk_new w _
  have HX := Lib.hid hX
  have HE1 := Lib.hid (hE.below hb1)
  have HD1 := Lib.hid (hD.below hb1)
  have HB1 := Lib.hid hb1
  have HW := Lib.hid hw1
  have HN := Lib.hid hn
  have q0 := (show w1.cell? ⟨x, 0, none⟩ = some (.slice Ae n ce) from blk_cell hX 0)
  have q1 := (show w1.cell? ⟨x, 1, none⟩ = some (.slice Ad nd cd) from blk_cell hX 1)
  clear hE hD hb1 hX hw1 hn hnd
  go_enter Try.func5, Try.ntmps5
  go_upto_region 1 with (fail)
  rw [← HW.out]
  try rw [hx]
  clear hx
  go_wp2_with fail
  refine (few_any _ m _ _ _ rfl HE1.out HD1.out).mono ?_
  rintro e w2 ⟨hres, b2⟩
  have HB2 := Lib.hid (HB1.out.trans (b2.mono HB1.out.size))
  rcases hres with rfl | ⟨rfl, hfm⟩
  · clear q0 q1
    go_wp2
    go_ret
    exact ⟨rfl, HB2.out⟩
  have HFM := Lib.hid hfm
  clear hfm q0 q1
  have X2 := Lib.hid ((b2.block x (blk_lt HX.out)).trans HX.out)
  have q0 := (show w2.cell? ⟨x, 0, none⟩ = some (.slice Ae n ce) from blk_cell X2.out 0)
  have q1 := (show w2.cell? ⟨x, 1, none⟩ = some (.slice Ad nd cd) from blk_cell X2.out 1)
  have HE2 := Lib.hid (HE1.out.below b2)
  have HD2 := Lib.hid (HD1.out.below b2)
  clear b2
  by_cases n0 : n = 0
  · have c20 : ((n : Int) == 0) = true := by rw [n0]; rfl
    clear n0
    go_wp2
    go_ret
    exact ⟨rfl, HB2.out⟩
  have c20 : ((n : Int) == 0) = false := by rw [beq_eq_false_iff_ne]; omega
  go_wp2_with fail
  refine (of_any _ m _ _ _ rfl HE2.out HD2.out HFM.out).mono ?_
  rintro e w3 ⟨⟨ve3, vd3, rfl, hE3, hD3⟩, b3⟩
  obtain ⟨A3, c3, e3, _, _⟩ := hE3.len
  rw [← HN.out] at e3
  subst e3
  obtain ⟨Ad3, cd3, e3, _, _⟩ := ss_len hD3
  obtain ⟨nd3, hnd3⟩ : ∃ nd3, nd3 = m.defs.length := ⟨_, rfl⟩
  rw [← hnd3] at e3
  subst e3
  have HE3 := Lib.hid hE3
  have HD3 := Lib.hid hD3
  have HB3 := Lib.hid (HB2.out.trans (b3.mono HB2.out.size))
  have X3 := Lib.hid ((b3.block x (blk_lt X2.out)).trans X2.out)
  have HER3 := Lib.hid (HE2.out.below b3)
  have HSG := Lib.hid (few_small HFM.out)
  clear hE3 hD3 hnd3 b3 q0 q1 X2 HE2 HD2
  go_wp2_with fail
  refine (new_any _ m _ _ _ rfl HE3.out HD3.out HSG.out.toSmallM).mono ?_
  rintro e w4 ⟨hres, b4⟩
  have HB4 := Lib.hid (HB3.out.trans (b4.mono HB3.out.size))
  have X4 := Lib.hid ((b4.block x (blk_lt X3.out)).trans X3.out)
  have HER4 := Lib.hid (HER3.out.below b4)
  have q0 := (show w4.cell? ⟨x, 0, none⟩ = some (.slice Ae n ce) from blk_cell X4.out 0)
  have q1 := (show w4.cell? ⟨x, 1, none⟩ = some (.slice Ad nd cd) from blk_cell X4.out 1)
  clear b4 X3 HER3 HE3 HD3
  rcases hres with ⟨rfl, hbad⟩ | ⟨rfl, hnd4, hbad⟩ | ⟨g, rfl, hnd4, hno, hgx⟩
  · have HBAD := Lib.hid hbad
    clear hbad
    go_wp2_with fail
    refine (wrong_any _ m _ _ _ rfl HER4.out HSG.out.toSmallM (by have := HFM.out.edges; omega)).mono ?_
    rintro e w5 ⟨⟨c, rfl, hc⟩, b5⟩
    have HB5 := Lib.hid (HB4.out.trans (b5.mono HB4.out.size))
    have hc0 : c = 11 ∨ c = 12 := by
      rcases hc.any with ⟨h, _⟩ | ⟨h, _⟩ | ⟨_, h1, h2⟩
      · exact .inl h
      · exact .inr h
      · exact absurd h1 HBAD.out
    have c1 : ((c : Int) != 0) = true := by rw [bne_iff_ne]; omega
    have HC0 := Lib.hid hc0
    clear b5 hc hc0 q0 q1
    go_wp2_with fail
    refine (awake_any _).mono ?_
    rintro e w6 ⟨rfl, b6⟩
    have HB6 := Lib.hid (HB5.out.trans (b6.mono HB5.out.size))
    clear b6
    go_wp2
    go_ret
    exact ⟨rfl, HB6.out⟩
  · have HBAD := Lib.hid hbad
    clear hbad hnd4
    go_wp2_with fail
    refine (wrong_any _ m _ _ _ rfl HER4.out HSG.out.toSmallM (by have := HFM.out.edges; omega)).mono ?_
    rintro e w5 ⟨⟨c, rfl, hc⟩, b5⟩
    have HB5 := Lib.hid (HB4.out.trans (b5.mono HB4.out.size))
    have hc0 : c = 11 ∨ c = 12 := by
      rcases hc.any with ⟨h, _⟩ | ⟨h, _⟩ | ⟨_, h1, h2⟩
      · exact .inl h
      · exact .inr h
      · exact absurd HBAD.out h2
    have c1 : ((c : Int) != 0) = true := by rw [bne_iff_ne]; omega
    have HC0 := Lib.hid hc0
    clear b5 hc hc0 q0 q1
    go_wp2_with fail
    refine (awake_any _).mono ?_
    rintro e w6 ⟨rfl, b6⟩
    have HB6 := Lib.hid (HB5.out.trans (b6.mono HB5.out.size))
    clear b6
    go_wp2
    go_ret
    exact ⟨rfl, HB6.out⟩
  have HG : Hid (Gx w4 g m) := hgx
  have HU := Lib.hid hnd4
  have HNO := Lib.hid hno
  clear hnd4 hno hgx
  obtain ⟨k, hk⟩ : ∃ k, k = at_ % n := ⟨_, rfl⟩
  have hq : ((at_ : Int) % (n : Int)) = (k : Int) := by rw [hk]; simp
  have hkn : k < n := by rw [hk]; exact Nat.mod_lt _ (by omega)
  clear c20
  go_upto_region 7 with (fail)
  rw [hq]
  clear hq hk q1
  have hkl : k < m.edges.length := by rw [← HN.out]; exact hkn
  obtain ⟨ad, vo, vi, vm, vr, e1, p0, p1, p2, p3, p4, p5, hec⟩ := HER4.out.get k hkl
  subst e1
  obtain ⟨lo, hlo⟩ : ∃ lo, lo = (m.edges.getD k zedge).outs := ⟨_, rfl⟩
  have hso := hec.1
  rw [← hlo] at hso
  obtain ⟨Ao, co, rfl, hco, hmo⟩ := ss_len hso
  obtain ⟨no, hno⟩ : ∃ no, no = lo.length := ⟨_, rfl⟩
  rw [← hno] at p0 hco hmo hso
  have HSO := Lib.hid hso
  have HLO := Lib.hid hlo
  have HNL := Lib.hid hno
  have HKL := Lib.hid hkl
  clear hec hso hlo hno hkl p1 p2 p3 p4 p5
  by_cases no0 : no = 0
  · have c0 : ((no : Int) == 0) = true := by rw [no0]; rfl
    clear no0
    go_wp2_with fail
    refine (awake_any _).mono ?_
    rintro e w6 ⟨rfl, b6⟩
    have HB6 := Lib.hid (HB4.out.trans (b6.mono HB4.out.size))
    clear b6
    go_wp2
    go_ret
    exact ⟨rfl, HB6.out⟩
  have c0 : ((no : Int) == 0) = false := by rw [beq_eq_false_iff_ne]; omega
  have hco1 : 1 ≤ co := by omega
  have hco2 : (1 : Int) ≤ (co : Int) := by omega
  obtain ⟨o, ho⟩ : ∃ o, o = lo.getD 0 ByteArray.empty := ⟨_, rfl⟩
  have hlo1 : lo.take 1 = [o] := by
    have h := (take_at lo ByteArray.empty 0 (by rw [← HNL.out]; omega)).1
    rw [ho]
    simpa using h
  have hom : o ∈ lo := by rw [ho]; exact (take_at lo ByteArray.empty 0 (by rw [← HNL.out]; omega)).2
  have HMK : Hid (makerOf m.edges o = some k) := maker_uniq HU.out HKL.out (by rw [← HLO.out]; exact hom)
  have HMF : Hid (madeF (makerOf m.edges) [o] = [k]) := by
    show List.foldl _ _ _ = _
    simp [HMK.out]
  have HT4 : Hid (Ss w4 (.slice Ao 1 co) [o]) := by
    show Ss _ _ _
    rw [← hlo1]
    exact Ss.take HSO.out (by rw [← HNL.out]; omega)
  have HZ4 : Hid (∀ s ∈ [o], s.size ≤ maxLen) := fun s hs => by
    rw [List.mem_singleton.1 hs]
    exact HSG.out.size _ (take_at m.edges zedge k HKL.out).2 o (.inl (by rw [← HLO.out]; exact hom))
  clear ho hlo1 hom no0
  go_wp2_with fail
  refine (plan_any g m _ [o] _ HG.out HSG.out HT4.out HZ4.out (by simp)).mono ?_
  rintro e w5 ⟨hres, b5⟩
  have HB5 := Lib.hid (HB4.out.trans (b5.mono HB4.out.size))
  have HG5 := Lib.hid (HG.out.below b5)
  have X5 := Lib.hid ((b5.block x (blk_lt X4.out)).trans X4.out)
  have HER5 := Lib.hid (HER4.out.below b5)
  rcases hres with ⟨rfl, hno⟩ | ⟨v5, l1, rfl, hgood, hl1, r5⟩
  · exact absurd (fun t ht => .inr (by rw [List.mem_singleton.1 ht, HMK.out]; rfl)) hno
  rw [HMF.out] at hl1
  have hall := order_all HNO.out hl1 (fun x hx => by rw [List.mem_singleton.1 hx]; exact HKL.out)
  have hmem : ∀ z, z ∈ orderV (aheadV m.edges) l1 ↔ z = k ∨ TC (Ed (aheadV m.edges)) k z := fun z => by rw [hall z, hl1.mem, reach_one]
  obtain ⟨l', hl', hmem'⟩ := order_last (order_topo (aheadV m.edges) l1) ((hmem k).2 (.inl rfl)) (fun z hz => (hmem z).1 hz)
  rw [hl'] at r5
  have hnd' : l'.Nodup := by
    have h := (order_topo (aheadV m.edges) l1).nodup
    rw [hl'] at h
    exact (List.nodup_append.1 h).1
  have HMEM := Lib.hid hmem'
  have HLT : Hid (∀ z ∈ l', z < n) := fun z hz => by rw [HN.out]; exact tc_lt ((hmem' z).1 hz)
  have HPL : Hid (l'.length ≤ 30) := by
    have h1 := nodup_sub_len hnd' (m := List.range n) fun x hx => List.mem_range.2 (HLT.out x hx)
    rw [List.length_range] at h1
    have := HFM.out.edges
    have := HN.out
    show _ ≤ _
    omega
  have HS5 := Lib.hid (Ir.is r5)
  obtain ⟨A5, c5, e5⟩ := Kd.R_slice r5
  obtain ⟨n1, hn1⟩ : ∃ n1, n1 = (l' ++ [k]).length := ⟨_, rfl⟩
  rw [List.length_map, ← hn1] at e5
  subst e5
  have HN1 : Hid (n1 = l'.length + 1) := by show _ = _; rw [hn1, List.length_append]; rfl
  have hn11 : 1 ≤ n1 := by have := HN1.out; omega
  have hn16 : n1 ≤ 31 := by have := HN1.out; have := HPL.out; omega
  have hlast := HS5.out.get (n1 - 1) (by rw [← hn1]; omega)
  have hgk : (l' ++ [k]).getD (n1 - 1) 0 = k := by
    have e : n1 - 1 = l'.length := by have := HN1.out; omega
    rw [e, List.getD_eq_getElem?_getD, List.getElem?_append_right (Nat.le_refl _)]
    simp
  rw [hgk] at hlast
  obtain ⟨ad5, e6, ql⟩ := hlast
  subst e6
  have cn1 : ((n1 : Int) == 0) = false := by rw [beq_eq_false_iff_ne]; omega
  have ck : ((k : Int) != (k : Int)) = false := bne_self_eq_false _
  clear r5 hn1 hgk hgood hl1 hall hmem hmem' hl' hnd' b5 HG HT4 HER4 X4 q0 p0
  go_wp2
  clear ql cn1 ck c0
  --S1
  go_loopw [10, 11] (fun v i wr => ∃ j : Nat, j + 1 ≤ n1 ∧ i = .int .i64 j ∧ Hid (Ss wr v (putAll [] (outsOf m.edges (l'.take j)))) ∧ Hid (Below w5.heap.size w5 wr)) (fun _ i _ => n1 - (intOf i).toNat)
  case atStart => exact ⟨0, by omega, rfl, ss_nil _, Below.refl _ _⟩
  case round =>
    obtain ⟨j, hj, rfl, HV, HB⟩ := hrel
    obtain ⟨Av, cv, ev, _, _⟩ := ss_len HV.out
    obtain ⟨nv, hnv⟩ : ∃ nv, nv = (putAll [] (outsOf m.edges (l'.take j))).length := ⟨_, rfl⟩
    rw [← hnv] at ev
    subst ev
    clear hnv
    by_cases l1 : j + 1 < n1
    · have hjl : j < l'.length := by have := HN1.out; omega
      have l1' : j < n1 := by omega
      have hjl2 : j < (l' ++ [k]).length := by rw [List.length_append]; omega
      obtain ⟨ad6, e6, q5⟩ := (HS5.out.below HB.out).get j hjl2
      have e6 := Option.some.inj e6
      subst e6
      have hgj : (l' ++ [k]).getD j 0 = l'.getD j 0 := by rw [List.getD_eq_getElem?_getD, List.getD_eq_getElem?_getD, List.getElem?_append_left hjl]
      rw [hgj] at q5
      have HTJ := Lib.hid (take_at l' 0 j hjl)
      obtain ⟨y, hy⟩ : ∃ y, y = l'.getD j 0 := ⟨_, rfl⟩
      rw [← hy] at q5 HTJ
      have hyn := HLT.out y HTJ.out.2
      have HYL : Hid (y < m.edges.length) := by rw [← HN.out]; exact hyn
      obtain ⟨ade, vo, vi, vm, vr, e7, p0, p1, p2, p3, p4, p5, hec⟩ := (HER5.out.below HB.out).get y HYL.out
      have e7 := Option.some.inj e7
      subst e7
      obtain ⟨ly, hly⟩ : ∃ ly, ly = (m.edges.getD y zedge).outs := ⟨_, rfl⟩
      have hsy := hec.1
      rw [← hly] at hsy
      obtain ⟨Ay, cy, rfl, hcy, hmy⟩ := ss_len hsy
      obtain ⟨ny, hny⟩ : ∃ ny, ny = ly.length := ⟨_, rfl⟩
      rw [← hny] at p0 hcy hmy hsy
      have HSY := Lib.hid hsy
      have HLY := Lib.hid hly
      have HNY := Lib.hid hny
      have q0 := (show wr.cell? ⟨x, 0, none⟩ = some (.slice (some ad) n ce) from blk_cell ((HB.out.block x (blk_lt X5.out)).trans X5.out) 0)
      have d1 : decide ((y : Int) < 0) = false := decide_eq_false (by omega)
      have d2 : decide ((n : Int) ≤ (y : Int)) = false := decide_eq_false (by omega)
      have HSN : Hid (outsOf m.edges (l'.take (j + 1)) = outsOf m.edges (l'.take j) ++ ly) := by show _ = _; rw [HTJ.out.1, outsOf_snoc, ← HLY.out]
      have HOLN : Hid ((outsOf m.edges (l'.take j)).length ≤ 10 * j) := by
        have h1 := sum_len (fun k => (m.edges.getD k zedge).outs) 10 (l'.take j) (fun z hz => (HFM.out.each _ (take_at m.edges zedge z (by rw [← HN.out]; exact HLT.out z (List.mem_of_mem_take hz))).2).outs)
        have h2 := List.length_take_le j l'
        unfold outsOf
        show _ ≤ _
        omega
      have hny10 : ny ≤ 10 := by
        rw [hny, hly]
        exact (HFM.out.each _ (take_at m.edges zedge y HYL.out).2).outs
      clear hec hsy hly hny hy hgj hjl hjl2 p1 p2 p3 p4 p5
      go_wp2
      go_quiet (fail)
      go_wp2
      have Z0 := Lib.hid q0
      have Z1 := Lib.hid q5
      have Z2 := Lib.hid p0
      obtain ⟨wq, hwq⟩ : ∃ wq, wq = wr.drewN nq := ⟨_, rfl⟩
      have HBQ : Hid (Below w5.heap.size w5 wq) := by show Below _ _ _; rw [hwq]; exact pw_below_drewN HB.out _
      have HBQ0 : Hid (Below wr.heap.size wr wq) := by show Below _ _ _; rw [hwq]; exact pw_below_drewN (Below.refl _ _) _
      have HVQ := Lib.hid (HV.out.below HBQ0.out)
      rw [← hwq]
      clear hwq q0 q5 p0 d1 d2
      --S2
      go_loopw [10, 12] (fun v i wr2 => ∃ jj : Nat, jj ≤ ny ∧ i = .int .i64 jj ∧ Hid (Ss wr2 v (putAll (putAll [] (outsOf m.edges (l'.take j))) (ly.take jj))) ∧ Hid (Below wq.heap.size wq wr2)) (fun _ i _ => ny - (intOf i).toNat)
      case atStart => exact ⟨0, by omega, rfl, HVQ.out, Below.refl _ _⟩
      case round =>
        clear HVQ HV
        obtain ⟨jj, hjj, rfl, HW, HBW⟩ := hrel
        obtain ⟨Aw, cw, ew, _, _⟩ := ss_len HW.out
        obtain ⟨nw, hnw⟩ : ∃ nw, nw = (putAll (putAll [] (outsOf m.edges (l'.take j))) (ly.take jj)).length := ⟨_, rfl⟩
        rw [← hnw] at ew
        subst ew
        clear hnw
        have q0 := pw_cell_below HBW.out (pw_cell_below HBQ0.out Z0.out)
        have q5 := pw_cell_below HBW.out (pw_cell_below HBQ0.out Z1.out)
        have p0 := pw_cell_below HBW.out (pw_cell_below HBQ0.out Z2.out)
        by_cases l2 : jj < ny
        · have hjyl : jj < ly.length := by rw [← HNY.out]; exact l2
          obtain ⟨ado, e8, qs⟩ := ss_get ((HSY.out.below HBQ0.out).below HBW.out) jj hjyl
          subst e8
          have HPT := Lib.hid (putAll_take (putAll [] (outsOf m.edges (l'.take j))) ly jj hjyl)
          obtain ⟨s, hs⟩ : ∃ s, s = ly.getD jj ByteArray.empty := ⟨_, rfl⟩
          rw [← hs] at qs HPT
          have HUP : Hid (Up (putAll (putAll [] (outsOf m.edges (l'.take j))) (ly.take jj))) := putAll_up _ _ (putAll_up _ _ up_nil)
          have HLW : Hid ((putAll (putAll [] (outsOf m.edges (l'.take j))) (ly.take jj)).length ≤ 1000) := by
            have h1 := putAll_len (ly.take jj) (putAll [] (outsOf m.edges (l'.take j)))
            have h2 := putAll_len (outsOf m.edges (l'.take j)) []
            have h3 := HOLN.out
            have h4 := List.length_take_le jj ly
            have h5 := HNY.out
            simp only [List.length_nil] at h2
            show _ ≤ _
            omega
          have Z3' := Lib.hid qs
          clear hjyl hs qs
          have d3 : decide ((jj : Int) < (ny : Int)) = true := decide_eq_true (by omega)
          go_wp2
          go_quiet (fail)
          go_wp2
          clear d3
          obtain ⟨wz, hwz⟩ : ∃ wz, wz = wr.drewN nq := ⟨_, rfl⟩
          have hbz : Below wr.heap.size wr wz := by rw [hwz]; exact pw_below_drewN (Below.refl _ _) _
          rw [← hwz]
          have Z4 := Lib.hid (pw_cell_below hbz q0)
          have Z5 := Lib.hid (pw_cell_below hbz q5)
          have Z6 := Lib.hid (pw_cell_below hbz p0)
          have Z7 := Lib.hid (pw_cell_below hbz Z3'.out)
          have HWZ := Lib.hid (HW.out.below hbz)
          have HBZ := Lib.hid (HBW.out.trans (hbz.mono HBW.out.size))
          have HBD : Hid (Below wz.heap.size wz wz.drew) := Below.drew (Below.refl _ _)
          clear hbz hwz q0 q5 p0
          refine start_ (n := 15) (S := fun w' => Below wz.heap.size wz w' ∧ w'.cell? ⟨x, 0, none⟩ = some (.slice (some ad) n ce) ∧ w'.cell? (ad5.add j) = some (.int .i64 (y : Int)) ∧ w'.cell? (ad.add (y * 6)) = some (.slice (some ado) ny cy) ∧ w'.cell? (ado.add jj) = some (.string s)) (ds := []) #[false, false, false, false, false, false, false, false, false, false, false, false, false, false, false] (by kernel_rfl) rfl rfl ⟨HBD.out, Z4.out, Z5.out, Z6.out, Z7.out⟩ (fun hHeld => ?_)
          refine pure_ (i := 0) (N := some 120) (v := ?_) (a' := ?_) #[true, false, false, false, false, false, false, false, false, false, false, false, false, false, false] rfl rfl (by kernel_rfl) (fun _ _ _ h => h) (Or.inl ⟨by rfl, ?_⟩) ?_ ?_
          rotate_left
          · intro w'
            go_simp
            with_reducible rfl
          rotate_left
          · simp only [Act.put, List.setIfInBounds_toArray, List.set_cons_zero, List.set_cons_succ, i64_w, i32_w]
            rfl
          refine pure_ (i := 1) (N := some 121) (v := ?_) (a' := ?_) #[true, true, false, false, false, false, false, false, false, false, false, false, false, false, false] rfl rfl (by kernel_rfl) (fun _ _ _ h => h) (Or.inl ⟨by rfl, ?_⟩) ?_ ?_
          rotate_left
          · intro w'
            go_simp
            with_reducible rfl
          rotate_left
          · simp only [Act.put, List.setIfInBounds_toArray, List.set_cons_zero, List.set_cons_succ, i64_w, i32_w]
            rfl
          refine pure_ (i := 3) (N := some 123) (v := ?_) (a' := ?_) #[true, true, false, true, false, false, false, false, false, false, false, false, false, false, false] rfl rfl (by kernel_rfl) (fun _ _ _ h => h) (Or.inl ⟨by rfl, ?_⟩) ?_ ?_
          rotate_left
          · intro w'
            go_simp
            with_reducible rfl
          rotate_left
          · simp only [Act.put, List.setIfInBounds_toArray, List.set_cons_zero, List.set_cons_succ, i64_w, i32_w]
            rfl
          refine pure_ (i := 4) (N := some 124) (v := ?_) (a' := ?_) #[true, true, false, true, true, false, false, false, false, false, false, false, false, false, false] rfl rfl (by kernel_rfl) (fun _ _ _ h => h) (Or.inl ⟨by rfl, ?_⟩) ?_ ?_
          rotate_left
          · intro w'
            go_simp
            with_reducible rfl
          rotate_left
          · simp only [Act.put, List.setIfInBounds_toArray, List.set_cons_zero, List.set_cons_succ, i64_w, i32_w]
            rfl
          refine pure_ (i := 5) (N := some 125) (v := ?_) (a' := ?_) #[true, true, false, true, true, true, false, false, false, false, false, false, false, false, false] rfl rfl (by kernel_rfl) (fun _ _ _ h => h) (Or.inl ⟨by rfl, ?_⟩) ?_ ?_
          rotate_left
          · intro w'
            go_simp
            with_reducible rfl
          rotate_left
          · simp only [Act.put, List.setIfInBounds_toArray, List.set_cons_zero, List.set_cons_succ, i64_w, i32_w]
            rfl
          refine pure_ (i := 10) (N := some 130) (v := ?_) (a' := ?_) #[true, true, false, true, true, true, false, false, false, false, true, false, false, false, false] rfl rfl (by kernel_rfl) (fun _ _ _ h => h) (Or.inl ⟨by rfl, ?_⟩) ?_ ?_
          rotate_left
          · intro w'
            go_simp
            with_reducible rfl
          rotate_left
          · simp only [Act.put, List.setIfInBounds_toArray, List.set_cons_zero, List.set_cons_succ, i64_w, i32_w]
            rfl
          refine take_ (i := 2) (N := some 122) (v := ?_) (a' := ?_) #[true, true, true, true, true, true, false, false, false, false, true, false, false, false, false] rfl rfl (by kernel_rfl) (fun _ _ _ h => h) (Or.inl ⟨by rfl, ?_⟩) hHeld ?_ ?_
          rotate_left
          · rintro w' ⟨s0, s1, s2, s3, s4⟩
            go_simp
            with_reducible rfl
          rotate_left
          · simp only [Act.put, List.setIfInBounds_toArray, List.set_cons_zero, List.set_cons_succ, i64_w, i32_w]
            rfl
          refine take_ (i := 6) (N := some 126) (v := ?_) (a' := ?_) #[true, true, true, true, true, true, true, false, false, false, true, false, false, false, false] rfl rfl (by kernel_rfl) (fun _ _ _ h => h) (Or.inl ⟨by rfl, ?_⟩) hHeld ?_ ?_
          rotate_left
          · rintro w' ⟨s0, s1, s2, s3, s4⟩
            go_simp
            with_reducible rfl
          rotate_left
          · simp only [Act.put, List.setIfInBounds_toArray, List.set_cons_zero, List.set_cons_succ, i64_w, i32_w]
            rfl
          refine pure_ (i := 7) (N := some 127) (v := ?_) (a' := ?_) #[true, true, true, true, true, true, true, true, false, false, true, false, false, false, false] rfl rfl (by kernel_rfl) (fun _ _ _ h => h) (Or.inl ⟨by rfl, ?_⟩) ?_ ?_
          rotate_left
          · intro w'
            go_simp
            with_reducible rfl
          rotate_left
          · simp only [Act.put, List.setIfInBounds_toArray, List.set_cons_zero, List.set_cons_succ, i64_w, i32_w]
            rfl
          refine pure_ (i := 8) (N := some 128) (v := ?_) (a' := ?_) #[true, true, true, true, true, true, true, true, true, false, true, false, false, false, false] rfl rfl (by kernel_rfl) (fun _ _ _ h => h) (Or.inl ⟨by rfl, ?_⟩) ?_ ?_
          rotate_left
          · intro w'
            go_simp
            with_reducible rfl
          rotate_left
          · simp only [Act.put, List.setIfInBounds_toArray, List.set_cons_zero, List.set_cons_succ, i64_w, i32_w]
            rfl
          refine take_ (i := 9) (N := some 129) (v := ?_) (a' := ?_) #[true, true, true, true, true, true, true, true, true, true, true, false, false, false, false] rfl rfl (by kernel_rfl) (fun _ _ _ h => h) (Or.inl ⟨by rfl, ?_⟩) hHeld ?_ ?_
          rotate_left
          · rintro w' ⟨s0, s1, s2, s3, s4⟩
            go_simp
            with_reducible rfl
          rotate_left
          · simp only [Act.put, List.setIfInBounds_toArray, List.set_cons_zero, List.set_cons_succ, i64_w, i32_w]
            rfl
          refine pure_ (i := 11) (N := some 131) (v := ?_) (a' := ?_) #[true, true, true, true, true, true, true, true, true, true, true, true, false, false, false] rfl rfl (by kernel_rfl) (fun _ _ _ h => h) (Or.inl ⟨by rfl, ?_⟩) ?_ ?_
          rotate_left
          · intro w'
            go_simp
            with_reducible rfl
          rotate_left
          · simp only [Act.put, List.setIfInBounds_toArray, List.set_cons_zero, List.set_cons_succ, i64_w, i32_w]
            rfl
          refine take_ (i := 12) (N := some 132) (v := ?_) (a' := ?_) #[true, true, true, true, true, true, true, true, true, true, true, true, true, false, false] rfl rfl (by kernel_rfl) (fun _ _ _ h => h) (Or.inl ⟨by rfl, ?_⟩) hHeld ?_ ?_
          rotate_left
          · rintro w' ⟨s0, s1, s2, s3, s4⟩
            go_simp
            with_reducible rfl
          rotate_left
          · simp only [Act.put, List.setIfInBounds_toArray, List.set_cons_zero, List.set_cons_succ, i64_w, i32_w]
            rfl
          refine one_ (i := 13) (N := some 133) #[true, true, true, true, true, true, true, true, true, true, true, true, true, true, false] rfl rfl (by kernel_rfl) (by decide) (fun K hK => ?_)
          refine goes_ Try.func17 (by kernel_rfl) rfl #[.slice Aw nw cw, .string s] (by rfl) rfl rfl (by first | (simp only [List.map_toArray, List.map_cons, List.map_nil]; done) | (simp only [List.map_toArray, List.map_cons, List.map_nil]; rfl) | rfl) ?_
          with_reducible refine (rput_any _ _ s _ (HWZ.out.below hHeld.1) HUP.out (by have := HLW.out; omega)).mono ?_
          rintro e w7 ⟨v7, rfl, r7, b7⟩
          refine ⟨_, rfl, ?_⟩
          have HR7 := Lib.hid r7
          have h7 := hHeld.1.trans (b7.mono hHeld.1.size)
          have HB7 := Lib.hid h7
          clear r7 b7
          refine hK.out _ _ ⟨h7, pw_cell_below (h7) Z4.out, pw_cell_below (h7) Z5.out, pw_cell_below (h7) Z6.out, pw_cell_below (h7) Z7.out⟩ (fun hHeld => ?_)
          clear hK K
          refine norm_ (a' := ?_) ?_ ?_
          rotate_left
          · show Act.put _ (some 133) _ = _
            simp only [Act.put, List.setIfInBounds_toArray, List.set_cons_zero, List.set_cons_succ, i64_w, i32_w]
            rfl
          refine pure_ (i := 14) (N := some 10) (v := ?_) (a' := ?_) #[true, true, true, true, true, true, true, true, true, true, true, true, true, true, true] rfl rfl (by kernel_rfl) (fun _ _ _ h => h) (Or.inl ⟨by rfl, ?_⟩) ?_ ?_
          rotate_left
          · intro w'
            go_simp
            with_reducible rfl
          rotate_left
          · simp only [Act.put, List.setIfInBounds_toArray, List.set_cons_zero, List.set_cons_succ, i64_w, i32_w]
            rfl
          refine done_ (by kernel_rfl) ?_
          clear hHeld
          have HB8 := Lib.hid (HBZ.out.trans (HB7.out.mono HBZ.out.size))
          have HR8 : Hid (Ss w7 v7 (putAll (putAll [] (outsOf m.edges (l'.take j))) (ly.take (jj + 1)))) := by show Ss _ _ _; rw [HPT.out]; exact HR7.out
          clear HR7
          go_wp2
          go_roundw
          case rel => exact ⟨jj + 1, by omega, by go_num, HR8.out, HB8.out⟩
          case measure => simp [intOf]; omega
        · have hj2 : jj = ny := by omega
          have HWF : Hid (Ss wr (.slice Aw nw cw) (putAll [] (outsOf m.edges (l'.take (j + 1))))) := by
            have h := HW.out
            rw [hj2, HNY.out, List.take_length, ← putAll_append, ← HSN.out] at h
            exact h
          have d3 : decide ((jj : Int) < (ny : Int)) = false := decide_eq_false (by omega)
          clear hj2 HW
          go_wp2
          go_quiet (fail)
          go_wp2
          have hbz : Below wr.heap.size wr (wr.drewN nq) := pw_below_drewN (Below.refl _ _) _
          have HW9 := Lib.hid (HWF.out.below hbz)
          have HB9 := Lib.hid ((HBQ.out.trans (HBW.out.mono HBQ.out.size)).trans (hbz.mono (HBQ.out.trans (HBW.out.mono HBQ.out.size)).size))
          clear hbz d3 q0 q5 p0
          go_roundw
          case rel => exact ⟨j + 1, by omega, by go_num, HW9.out, HB9.out⟩
          case measure => simp [intOf]; omega
    · have hj2 : j = l'.length := by have := HN1.out; omega
      have HVF : Hid (Ss wr (.slice Av nv cv) (putAll [] (outsOf m.edges l'))) := by
        have h := HV.out
        rw [hj2, List.take_length] at h
        exact h
      have HG9 := Lib.hid (HG5.out.below HB.out)
      have HB9 := Lib.hid (HB5.out.trans (HB.out.mono HB5.out.size))
      clear hj2 HV
      go_wp2_with fail
      refine (above_any g m k _ HG9.out HSG.out HU.out HKL.out).mono ?_
      rintro e w7 ⟨v7, lr, rfl, hlr, r7, b7⟩
      have HSM := Lib.hid (above_same HU.out HMEM.out hlr)
      have HR7 := Lib.hid (r_ss r7)
      have HV7 := Lib.hid (HVF.out.below b7)
      have HB7 := Lib.hid (HB9.out.trans (b7.mono HB9.out.size))
      obtain ⟨A7, c7, e7⟩ := Kd.R_slice r7
      obtain ⟨n7, hn7⟩ : ∃ n7, n7 = (sortS (outsOf m.edges lr)).length := ⟨_, rfl⟩
      rw [← hn7] at e7
      subst e7
      clear r7 b7 hlr hn7
      go_wp2_with fail
      refine (rnames_any _ _ _ _ _ HR7.out HV7.out).mono ?_
      rintro e w8 ⟨rfl, b8⟩
      have HB8 := Lib.hid (HB7.out.trans (b8.mono HB7.out.size))
      rw [decide_eq_true HSM.out]
      clear b8
      go_wp2_with fail
      refine (awake_any _).mono ?_
      rintro e w10 ⟨rfl, b10⟩
      have HB10 := Lib.hid (HB8.out.trans (b10.mono HB8.out.size))
      clear b10
      go_wp2
      go_ret
      exact ⟨rfl, HB10.out⟩
theorem above_row (v : Value) (a : Int) (m : ManV) (w : World) (hm : ManIs w v m) (ha : (Lit.int .u8 a).wf = true) :
    Calls Try.prog 5 #[v, .int .u8 a] w fun e w' => e = .returned (.bool true) ∧ Below w.heap.size w w' := by
  obtain ⟨k, rfl, hk⟩ := u8_nat ha
  exact above_law v k m w hm hk
end Go.Proofs.Ytifbkojapfighaa.Gr
