/- bellowslaw13.GraphMore (walk). -/
import Derived.Test.YtifbkojapfighaaGrFilter
import Derived.Test.YtifbkojapfighaaGrOf
namespace Go.Proofs.Ytifbkojapfighaa.Gr
open Go.RowKit Go.Proofs.YtifbkojapfighaaW.PrintWords Go.Proofs.YtifbkojapfighaaW.PrintLast Go.Proofs.Ytifbkojapfighaa.Base Go.Maps
set_option linter.unusedVariables false
set_option linter.unusedSimpArgs false

theorem few_small {m : ManV} (h : FewM m) : SmallG m := by
  refine tiny_small ?_
  unfold tinyB
  simp only [Bool.and_eq_true, decide_eq_true_eq, List.all_eq_true]
  have h1 := h.edges
  have h2 := h.defs
  refine ⟨⟨by omega, by omega⟩, fun e he => ?_⟩
  obtain ⟨a, b, c, d, _, _⟩ := h.each e he
  have hz := fun s hs => h.size e he s hs
  unfold namesE at hz
  simp only [List.mem_append] at hz
  exact ⟨⟨⟨⟨⟨⟨⟨by omega, by omega⟩, by omega⟩, by omega⟩, fun s hs => by have := hz s (.inl (.inl (.inl hs))); omega⟩, fun s hs => by have := hz s (.inl (.inl (.inr hs))); omega⟩, fun s hs => by have := hz s (.inl (.inr hs)); omega⟩, fun s hs => by have := hz s (.inr hs); omega⟩
/-- A document's manifest, as an argument. -/
def ManIs (w : World) (v : Value) (m : ManV) : Prop := ∃ ve vd, v = .agg #[ve, vd] ∧ Ez w ve m.edges ∧ Ss w vd m.defs
set_option maxRecDepth 100000 in
set_option maxHeartbeats 16000000 in
theorem more_any (v v2 : Value) (at_ : Nat) (m : ManV) (ts : List ByteArray) (w : World) (hm : ManIs w v m) (ht : Ss w v2 ts) (hz : ∀ s ∈ ts, s.size ≤ maxLen) (ha : at_ < 256) :
    Calls Try.prog 3 #[v, v2, .int .u8 at_] w fun e w' => e = .returned (.bool true) ∧ Below w.heap.size w w' := by
  have HZ := Lib.hid hz
  clear hz
  obtain ⟨ve, vd, rfl, hE, hD⟩ := hm
  obtain ⟨Ae, ce, rfl, hce, hme⟩ := hE.len
  obtain ⟨n, hn⟩ : ∃ n, n = m.edges.length := ⟨_, rfl⟩
  rw [← hn] at hce hme hE ⊢
  obtain ⟨Ad, cd, rfl, hcd, hmd⟩ := ss_len hD
  obtain ⟨nd, hnd⟩ : ∃ nd, nd = m.defs.length := ⟨_, rfl⟩
  rw [← hnd] at hcd hmd hD ⊢
  obtain ⟨At, ct, rfl, hct, hmt⟩ := ss_len ht
  obtain ⟨nt, hnt⟩ : ∃ nt, nt = ts.length := ⟨_, rfl⟩
  rw [← hnt] at hct hmt ht ⊢
  have HT := Lib.hid ht
  have HNT := Lib.hid hnt
  clear ht hnt
  obtain ⟨x, hx⟩ : ∃ x, w.heap.size = x := ⟨_, rfl⟩
  obtain ⟨w1, hw1⟩ : ∃ w1, w1 = w.alloc (.cells #[.slice Ae n ce, .slice Ad nd cd] 25) := ⟨_, rfl⟩
  have hb1 : Below w.heap.size w w1 := by rw [hw1]; exact below_alloc (Below.refl _ _) _
  have hX : w1.heap[x]? = some (.cells #[.slice Ae n ce, .slice Ad nd cd] 25 (0, 0)) := by rw [hw1, ← hx]; exact blk_new w _
  have HX := Lib.hid hX
  have HE1 := Lib.hid (hE.below hb1)
  have HD1 := Lib.hid (hD.below hb1)
  have HB1 := Lib.hid hb1
  have HW := Lib.hid hw1
  have HN := Lib.hid hn
  have q0 := (show w1.cell? ⟨x, 0, none⟩ = some (.slice Ae n ce) from blk_cell hX 0)
  have q1 := (show w1.cell? ⟨x, 1, none⟩ = some (.slice Ad nd cd) from blk_cell hX 1)
  clear hE hD hb1 hX hw1 hn hnd
  go_enter Try.func3, Try.ntmps3
  go_upto_region 1 with (fail)
  rw [← HW.out]
  try rw [hx]
  clear hx
  go_wp2_with fail
  refine (few_any _ m _ _ _ rfl HE1.out HD1.out).mono ?_
  rintro e w2 ⟨hres, b2⟩
  have HB2 := Lib.hid (HB1.out.trans (b2.mono HB1.out.size))
  rcases hres with rfl | ⟨rfl, hfm⟩
  · clear q0 q1
    go_wp2
    go_ret
    exact ⟨rfl, HB2.out⟩
  have HFM := Lib.hid hfm
  clear hfm q0 q1
  by_cases t20 : nt ≤ 20
  case neg =>
    have c20 : decide ((20 : Int) < (nt : Int)) = true := decide_eq_true (by omega)
    go_wp2
    go_ret
    exact ⟨rfl, HB2.out⟩
  have c20 : decide ((20 : Int) < (nt : Int)) = false := decide_eq_false (by omega)
  have X2 := Lib.hid ((b2.block x (blk_lt HX.out)).trans HX.out)
  have q0 := (show w2.cell? ⟨x, 0, none⟩ = some (.slice Ae n ce) from blk_cell X2.out 0)
  have q1 := (show w2.cell? ⟨x, 1, none⟩ = some (.slice Ad nd cd) from blk_cell X2.out 1)
  have HE2 := Lib.hid (HE1.out.below b2)
  have HD2 := Lib.hid (HD1.out.below b2)
  clear b2
  go_wp2_with fail
  refine (of_any _ m _ _ _ rfl HE2.out HD2.out HFM.out).mono ?_
  rintro e w3 ⟨⟨ve3, vd3, rfl, hE3, hD3⟩, b3⟩
  obtain ⟨A3, c3, e3, _, _⟩ := hE3.len
  rw [← HN.out] at e3
  subst e3
  obtain ⟨Ad3, cd3, e3, _, _⟩ := ss_len hD3
  obtain ⟨nd3, hnd3⟩ : ∃ nd3, nd3 = m.defs.length := ⟨_, rfl⟩
  rw [← hnd3] at e3
  subst e3
  have HE3 := Lib.hid hE3
  have HD3 := Lib.hid hD3
  have HB3 := Lib.hid (HB2.out.trans (b3.mono HB2.out.size))
  have X3 := Lib.hid ((b3.block x (blk_lt X2.out)).trans X2.out)
  have HER3 := Lib.hid (HE2.out.below b3)
  have HSG := Lib.hid (few_small HFM.out)
  clear hE3 hD3 hnd3 b3 q0 q1 X2 HE2 HD2
  go_wp2_with fail
  refine (new_any _ m _ _ _ rfl HE3.out HD3.out HSG.out.toSmallM).mono ?_
  rintro e w4 ⟨hres, b4⟩
  have HB4 := Lib.hid (HB3.out.trans (b4.mono HB3.out.size))
  have X4 := Lib.hid ((b4.block x (blk_lt X3.out)).trans X3.out)
  have HER4 := Lib.hid (HER3.out.below b4)
  have q0 := (show w4.cell? ⟨x, 0, none⟩ = some (.slice Ae n ce) from blk_cell X4.out 0)
  have q1 := (show w4.cell? ⟨x, 1, none⟩ = some (.slice Ad nd cd) from blk_cell X4.out 1)
  clear b4 X3 HER3 HE3 HD3
  rcases hres with ⟨rfl, hbad⟩ | ⟨rfl, hnd4, hbad⟩ | ⟨g, rfl, hnd4, hno, hgx⟩
  · have HBAD := Lib.hid hbad
    clear hbad
    go_wp2_with fail
    refine (wrong_any _ m _ _ _ rfl HER4.out HSG.out.toSmallM (by have := HFM.out.edges; omega)).mono ?_
    rintro e w5 ⟨⟨c, rfl, hc⟩, b5⟩
    have HB5 := Lib.hid (HB4.out.trans (b5.mono HB4.out.size))
    have hc0 : c = 11 ∨ c = 12 := by
      rcases hc.any with ⟨h, _⟩ | ⟨h, _⟩ | ⟨_, h1, h2⟩
      · exact .inl h
      · exact .inr h
      · exact absurd h1 HBAD.out
    have c1 : ((c : Int) != 0) = true := by rw [bne_iff_ne]; omega
    have HC0 := Lib.hid hc0
    clear b5 hc hc0 q0 q1
    go_wp2_with fail
    refine (awake_any _).mono ?_
    rintro e w6 ⟨rfl, b6⟩
    have HB6 := Lib.hid (HB5.out.trans (b6.mono HB5.out.size))
    clear b6
    go_wp2
    go_ret
    exact ⟨rfl, HB6.out⟩
  · have HBAD := Lib.hid hbad
    clear hbad hnd4
    go_wp2_with fail
    refine (wrong_any _ m _ _ _ rfl HER4.out HSG.out.toSmallM (by have := HFM.out.edges; omega)).mono ?_
    rintro e w5 ⟨⟨c, rfl, hc⟩, b5⟩
    have HB5 := Lib.hid (HB4.out.trans (b5.mono HB4.out.size))
    have hc0 : c = 11 ∨ c = 12 := by
      rcases hc.any with ⟨h, _⟩ | ⟨h, _⟩ | ⟨_, h1, h2⟩
      · exact .inl h
      · exact .inr h
      · exact absurd HBAD.out h2
    have c1 : ((c : Int) != 0) = true := by rw [bne_iff_ne]; omega
    have HC0 := Lib.hid hc0
    clear b5 hc hc0 q0 q1
    go_wp2_with fail
    refine (awake_any _).mono ?_
    rintro e w6 ⟨rfl, b6⟩
    have HB6 := Lib.hid (HB5.out.trans (b6.mono HB5.out.size))
    clear b6
    go_wp2
    go_ret
    exact ⟨rfl, HB6.out⟩
  have HG : Hid (Gx w4 g m) := hgx
  have HU := Lib.hid hnd4
  have HNO := Lib.hid hno
  clear hnd4 hno hgx
  have HT4 := Lib.hid (HT.out.below HB4.out)
  clear c20
  obtain ⟨k, hk⟩ : ∃ k, k = at_ % (nt + 1) := ⟨_, rfl⟩
  have hq : ((at_ : Int) % ((nt : Int) + 1)) = (k : Int) := by rw [hk]; simp
  have hkt : k ≤ nt := by rw [hk]; exact Nat.lt_succ_iff.1 (Nat.mod_lt _ (Nat.succ_pos nt))
  go_upto_region 7 with (fail)
  rw [hq]
  clear hq hk q1
  have hcut := cut_str At nt ct k (by omega)
  go_wp2_with fail
  refine (plan_any g m _ ts _ HG.out HSG.out HT4.out HZ.out (by rw [← HNT.out]; omega)).mono ?_
  rintro e w5 ⟨hres, b5⟩
  have HB5 := Lib.hid (HB4.out.trans (b5.mono HB4.out.size))
  have HG5 := Lib.hid (HG.out.below b5)
  have HT5 := Lib.hid (Ss.take (HT.out.below HB5.out) (k := k) (by rw [← HNT.out]; exact hkt))
  have X5 := Lib.hid ((b5.block x (blk_lt X4.out)).trans X4.out)
  have HZ5 : Hid (∀ s ∈ ts.take k, s.size ≤ maxLen) := fun s hs => HZ.out s (List.mem_of_mem_take hs)
  have HL5 : Hid ((ts.take k).length ≤ 100000) := by show _ ≤ _; rw [List.length_take, ← HNT.out]; omega
  clear X4 q0
  rcases hres with ⟨rfl, hno⟩ | ⟨v5, l1, rfl, hgood, hl1, r5⟩
  · have HBAD := Lib.hid hno
    clear hno b5
    go_wp2_with fail
    refine (plan_any g m _ (ts.take k) _ HG5.out HSG.out HT5.out HZ5.out HL5.out).mono ?_
    rintro e w6 ⟨hres, b6⟩
    have HB6 := Lib.hid (HB5.out.trans (b6.mono HB5.out.size))
    clear b6
    rcases hres with ⟨rfl, _⟩ | ⟨v6, l2, rfl, _, _, _⟩
    · go_wp2_with fail
      refine (awake_any _).mono ?_
      rintro e w7 ⟨rfl, b7⟩
      have HB7 := Lib.hid (HB6.out.trans (b7.mono HB6.out.size))
      clear b7
      go_wp2
      go_ret
      exact ⟨rfl, HB7.out⟩
    · go_wp2_with fail
      refine (awake_any _).mono ?_
      rintro e w7 ⟨rfl, b7⟩
      have HB7 := Lib.hid (HB6.out.trans (b7.mono HB6.out.size))
      clear b7
      go_wp2
      go_ret
      exact ⟨rfl, HB7.out⟩
  have HGOOD := Lib.hid hgood
  have HL1 := Lib.hid hl1
  have HAM1 := Lib.hid (order_all HNO.out hl1 (fun x hx => madeF_lt m.edges ts x hx))
  have HS1 := Lib.hid (Ir.is r5)
  have HOL : Hid (∀ x ∈ orderV (aheadV m.edges) l1, x < n) := fun x hx => by
    have h1 := hl1.lt (by rw [ahead_len]; exact madeF_lt m.edges ts) (fun r hr k hk => by rw [ahead_len]; exact ahead_lt m.edges r hr k hk) x (order_sub _ _ x hx)
    rwa [ahead_len, ← HN.out] at h1
  obtain ⟨A5, c5, e5⟩ := Kd.R_slice r5
  obtain ⟨n1, hn1⟩ : ∃ n1, n1 = (orderV (aheadV m.edges) l1).length := ⟨_, rfl⟩
  rw [List.length_map, ← hn1] at e5
  subst e5
  have hn16 : n1 ≤ 30 := by
    have h1 := nodup_sub_len (order_topo (aheadV m.edges) l1).nodup (m := List.range n) fun x hx => List.mem_range.2 (HOL.out x hx)
    rw [List.length_range, ← hn1] at h1
    have := HFM.out.edges
    have := HN.out
    omega
  have HN1 := Lib.hid hn1
  clear hgood hl1 r5 b5 hn1
  go_wp2_with fail
  refine (plan_any g m _ (ts.take k) _ HG5.out HSG.out HT5.out HZ5.out HL5.out).mono ?_
  rintro e w6 ⟨hres, b6⟩
  have HB6 := Lib.hid (HB5.out.trans (b6.mono HB5.out.size))
  have X6 := Lib.hid ((b6.block x (blk_lt X5.out)).trans X5.out)
  rcases hres with ⟨rfl, hno⟩ | ⟨v6, l2, rfl, _, hl2, r6⟩
  · exact absurd (fun t ht => HGOOD.out t (List.mem_of_mem_take ht)) hno
  have HAM2 := Lib.hid (order_all HNO.out hl2 (fun x hx => madeF_lt m.edges (ts.take k) x hx))
  have HSUB : Hid (∀ x ∈ orderV (aheadV m.edges) l2, x ∈ orderV (aheadV m.edges) l1) := fun x hx => (HAM1.out x).2 (hl2.sub HL1.out (madeF_take m.edges ts k) x ((HAM2.out x).1 hx))
  have HLAW : Hid ((orderV (aheadV m.edges) l1).filter (fun x => decide (x ∈ orderV (aheadV m.edges) l2)) = orderV (aheadV m.edges) l2) := by
    have h := order_filter (hl2.part HL1.out (madeF_take m.edges ts k)) hl2.closed
    rw [← h]
    apply List.filter_congr
    intro x hx
    rw [h, Bool.eq_iff_iff, decide_eq_true_iff, decide_eq_true_iff]
    exact HAM2.out x
  have HS2 := Lib.hid (Ir.is r6)
  have HS1b := Lib.hid (HS1.out.below b6)
  generalize orderV (aheadV m.edges) l1 = o1 at HS1b HOL HN1 HSUB HLAW
  generalize orderV (aheadV m.edges) l2 = o2 at HS2 HSUB HLAW r6
  obtain ⟨A6, c6, e6⟩ := Kd.R_slice r6
  obtain ⟨n2, hn2⟩ : ∃ n2, n2 = o2.length := ⟨_, rfl⟩
  rw [List.length_map, ← hn2] at e6
  subst e6
  have hn26 : n2 ≤ 30 := by
    have h1 := congrArg List.length HLAW.out
    have h2 := List.length_filter_le (fun x => decide (x ∈ o2)) o1
    rw [h1, ← hn2, ← HN1.out] at h2
    omega
  have HN2 := Lib.hid hn2
  have hmb := mk_bools n (by have := HFM.out.edges; have := HN.out; omega)
  have q0 := (show w6.cell? ⟨x, 0, none⟩ = some (.slice Ae n ce) from blk_cell X6.out 0)
  clear r6 b6 hn2 hl2 HAM1 HAM2 HS1 X5 HG HG5 HT5 HT4 HL1 HGOOD HZ5 HL5 hcut
  go_upto_region 12 with (fail)
  obtain ⟨g1, hg1⟩ : ∃ g1, w6.heap.size = g1 := ⟨_, rfl⟩
  have HR7 : Hid (BR (w6.alloc (.cells (madeCells #[.bool false] n) 4)) g1 n (fun _ => false)) := by show BR _ _ _ _; rw [← hg1]; exact BR.made w6 n
  have HB7 : Hid (Below w6.heap.size w6 (w6.alloc (.cells (madeCells #[.bool false] n) 4))) := below_alloc (Below.refl _ _) _
  try rw [hg1]
  have HG1 := Lib.hid hg1
  clear hg1 q0
  generalize w6.alloc (.cells (madeCells #[.bool false] n) 4) = w7 at HR7 HB7 ⊢
  go_wp2
  --S1
  go_loopw [15] (fun i wr => ∃ (j : Nat) (f : Nat → Bool), j ≤ n1 ∧ i = .int .i64 j ∧ Hid (BR wr g1 n f) ∧ Hid (∀ x, x < n → (f x = true ↔ x ∈ o1.take j)) ∧ Hid (Below w6.heap.size w6 wr)) (fun i _ => n1 - (intOf i).toNat)
  case atStart => exact ⟨0, _, by omega, rfl, HR7.out, fun x _ => ⟨fun h => (by cases h), fun h => (by cases h)⟩, HB7.out⟩
  case round =>
    clear HR7 HB7
    obtain ⟨j, f, hj, rfl, HR, HF, HB⟩ := hrel
    by_cases l3 : j < n1
    · have hjl : j < o1.length := by rw [← HN1.out]; exact l3
      obtain ⟨ad, e1, q⟩ := (HS1b.out.below HB.out).get j hjl
      subst e1
      have HTJ := Lib.hid (take_at o1 0 j hjl)
      obtain ⟨y, hy⟩ : ∃ y, y = o1.getD j 0 := ⟨_, rfl⟩
      rw [← hy] at q HTJ
      have hyn := HOL.out y HTJ.out.2
      have c1 := HR.out.cell hyn
      have c2 := HR.out.free y
      have HR2 := Lib.hid (HR.out.set y)
      have HF2 : Hid (∀ x, x < n → ((if x = y then true else f x) = true ↔ x ∈ o1.take (j + 1))) := fun x hx => by
        rw [HTJ.out.1, List.mem_append, List.mem_singleton, ← HF.out x hx]
        by_cases hxy : x = y
        · simp [hxy]
        · simp [hxy]
      have HB2 : Hid (Below w6.heap.size w6 (wr.setCell ⟨g1, y, none⟩ (.bool true))) := HB.out.setCell (by rw [HG1.out]; exact Nat.le_refl _) _
      clear hy hjl
      go_wp2
      go_roundw
      case rel => exact ⟨j + 1, _, by omega, by go_num, HR2.out, HF2.out, HB2.out⟩
      case measure => simp [intOf]; omega
    · have hj2 : j = n1 := by omega
      have HFF : Hid (∀ x, x < n → (f x = true ↔ x ∈ o1)) := by
        have h := HF.out
        rw [hj2, HN1.out, List.take_length] at h
        exact h
      obtain ⟨w8, hw8⟩ : ∃ w8, w8 = wr := ⟨_, rfl⟩
      subst hw8
      have X8 := (HB.out.block x (blk_lt X6.out)).trans X6.out
      have q0 := (show w8.cell? ⟨x, 0, none⟩ = some (.slice Ae n ce) from blk_cell X8 0)
      clear hj2 HF X8
      go_upto_region 17 with (fail)
      obtain ⟨g2, hg2⟩ : ∃ g2, w8.heap.size = g2 := ⟨_, rfl⟩
      have HR9 : Hid (BR (w8.alloc (.cells (madeCells #[.bool false] n) 4)) g2 n (fun _ => false)) := by show BR _ _ _ _; rw [← hg2]; exact BR.made w8 n
      have hal := below_alloc (Below.refl w8.heap.size w8) (.cells (madeCells #[.bool false] n) 4)
      have HR8 := Lib.hid (HR.out.below hal)
      have HB9 := Lib.hid (HB.out.trans (hal.mono HB.out.size))
      have HGG : Hid (g1 ≠ g2 ∧ w6.heap.size ≤ g2) := ⟨fun e => by have := blk_lt HR.out; omega, by rw [← hg2]; exact HB.out.size⟩
      try rw [hg2]
      clear hg2 q0 hal l3 hj HR HB
      generalize w8.alloc (.cells (madeCells #[.bool false] n) 4) = w9 at HR8 HR9 HB9 ⊢
      go_wp2
      --S2
      go_loopw [17] (fun i wr => ∃ (j : Nat) (f2 : Nat → Bool), j ≤ n2 ∧ i = .int .i64 j ∧ Hid (BR wr g1 n f) ∧ Hid (BR wr g2 n f2) ∧ Hid (∀ x, x < n → (f2 x = true ↔ x ∈ o2.take j)) ∧ Hid (Below w6.heap.size w6 wr)) (fun i _ => n2 - (intOf i).toNat)
      case atStart => exact ⟨0, _, by omega, rfl, HR8.out, HR9.out, fun x _ => ⟨fun h => (by cases h), fun h => (by cases h)⟩, HB9.out⟩
      case round =>
        clear HR8 HR9 HB9
        obtain ⟨j, f2, hj, rfl, HR1, HR2, HF2, HB⟩ := hrel
        by_cases l3 : j < n2
        · have hjl : j < o2.length := by rw [← HN2.out]; exact l3
          obtain ⟨ad, e1, q⟩ := (HS2.out.below HB.out).get j hjl
          subst e1
          have HTJ := Lib.hid (take_at o2 0 j hjl)
          obtain ⟨y, hy⟩ : ∃ y, y = o2.getD j 0 := ⟨_, rfl⟩
          rw [← hy] at q HTJ
          have hy1 := HSUB.out y HTJ.out.2
          have hyn := HOL.out y hy1
          have c0 := HR1.out.cell hyn
          rw [(HFF.out y hyn).2 hy1] at c0
          have c1 := HR2.out.cell hyn
          have c2 := HR2.out.free y
          have HR1' := Lib.hid (HR1.out.other HGG.out.1 y (.bool true))
          have HR2' := Lib.hid (HR2.out.set y)
          have HF2' : Hid (∀ x, x < n → ((if x = y then true else f2 x) = true ↔ x ∈ o2.take (j + 1))) := fun x hx => by
            rw [HTJ.out.1, List.mem_append, List.mem_singleton, ← HF2.out x hx]
            by_cases hxy : x = y
            · simp [hxy]
            · simp [hxy]
          have HB2 : Hid (Below w6.heap.size w6 (wr.setCell ⟨g2, y, none⟩ (.bool true))) := HB.out.setCell HGG.out.2 _
          clear hy hjl hy1
          go_wp2
          go_roundw
          case rel => exact ⟨j + 1, _, by omega, by go_num, HR1'.out, HR2'.out, HF2'.out, HB2.out⟩
          case measure => simp [intOf]; omega
        · have hj2 : j = n2 := by omega
          have HFF2 : Hid (∀ x, x < n → (f2 x = true ↔ x ∈ o2)) := by
            have h := HF2.out
            rw [hj2, HN2.out, List.take_length] at h
            exact h
          obtain ⟨w10, hw10⟩ : ∃ w10, w10 = wr := ⟨_, rfl⟩
          subst hw10
          have HS1c := Lib.hid (HS1b.out.below HB.out)
          have HS2c := Lib.hid (HS2.out.below HB.out)
          have HBW := Lib.hid (HB6.out.trans (HB.out.mono HB6.out.size))
          clear hj2 HF2 HR1 HB
          go_wp2
          clear l3 hj
          --S3
          go_loopw [18, 19] (fun v i wr => ∃ j : Nat, j ≤ n1 ∧ i = .int .i64 j ∧ Hid (Ir w10.heap.size wr v ((o1.take j).filter fun x => decide (x ∈ o2))) ∧ Hid (Below w10.heap.size w10 wr)) (fun _ i _ => n1 - (intOf i).toNat)
          case atStart => exact ⟨0, by omega, rfl, Kd.R_nil _ _ _ _ _, Below.refl _ _⟩
          case round =>
            obtain ⟨j, hj, rfl, HV, HB⟩ := hrel
            obtain ⟨As, cs, evs⟩ := Kd.R_slice HV.out
            obtain ⟨ns, hns⟩ : ∃ ns, ns = ((o1.take j).filter fun x => decide (x ∈ o2)).length := ⟨_, rfl⟩
            rw [List.length_map, ← hns] at evs
            subst evs
            have hns6 : ns ≤ 30 := by
              have h1 := List.length_filter_le (fun x => decide (x ∈ o2)) (o1.take j)
              have h2 := List.length_take_le j o1
              have := HN1.out
              omega
            have HNS := Lib.hid hns
            clear hns
            by_cases l3 : j < n1
            · have hjl : j < o1.length := by rw [← HN1.out]; exact l3
              obtain ⟨ad, e1, q⟩ := (HS1c.out.below HB.out).get j hjl
              subst e1
              have HTJ := Lib.hid (take_at o1 0 j hjl)
              obtain ⟨y, hy⟩ : ∃ y, y = o1.getD j 0 := ⟨_, rfl⟩
              rw [← hy] at q HTJ
              have hyn := HOL.out y HTJ.out.2
              have c1 := (HR2.out.below HB.out).cell hyn
              obtain ⟨b, hb⟩ : ∃ b, b = f2 y := ⟨_, rfl⟩
              rw [← hb] at c1
              have HBF : Hid (b = true ↔ y ∈ o2) := by show _ ↔ _; rw [hb]; exact HFF2.out y hyn
              clear hy hjl hb
              cases b with
              | true =>
                have HTK : Hid (((o1.take (j + 1)).filter fun x => decide (x ∈ o2)) = ((o1.take j).filter fun x => decide (x ∈ o2)) ++ [y]) := by
                  show _ = _
                  rw [HTJ.out.1, List.filter_append]
                  simp [HBF.out.1 rfl]
                go_wp2_with (at_builtin; refine Held.of ?_)
                refine Held.out (Kd.R_append (Kd.int .i64) (w0 := w10) w10.heap.size rfl (.tmp 126) (.tmp 131) 37 3 (.int .i64 0) 8 rfl Try.underlying37 (by kernel_rfl) rfl (by decide) (by decide) _ (ints ((o1.take j).filter fun x => decide (x ∈ o2))) (y : Int) [.int .i64 (y : Int)] (fun _ => True) (fun _ => False) rfl rfl rfl (fun _ h => h.elim) (fun _ _ => trivial) HV.out HB.out HB.out.size (by rw [List.length_map, ← HNS.out]; omega) ?_)
                intro v9 w11 r9 b9 _ _
                have HR9 : Hid (Ir w10.heap.size w11 v9 ((o1.take (j + 1)).filter fun x => decide (x ∈ o2))) := by
                  show (Kd.int .i64).R _ _ _ _ _ _
                  rw [HTK.out]
                  unfold ints
                  rw [List.map_append]
                  exact r9
                have HB9 := Lib.hid b9
                clear r9 b9 c1 q
                go_wp2
                go_roundw
                case rel => exact ⟨j + 1, by omega, by go_num, HR9.out, HB9.out⟩
                case measure => simp [intOf]; omega
              | false =>
                have HTK : Hid (((o1.take (j + 1)).filter fun x => decide (x ∈ o2)) = ((o1.take j).filter fun x => decide (x ∈ o2))) := by
                  show _ = _
                  rw [HTJ.out.1, List.filter_append]
                  have hno : y ∉ o2 := fun h => by have := HBF.out.2 h; cases this
                  simp [hno]
                have HV2 : Hid (Ir w10.heap.size wr (.slice As ns cs) ((o1.take (j + 1)).filter fun x => decide (x ∈ o2))) := by show (Kd.int .i64).R _ _ _ _ _ _; rw [HTK.out]; exact HV.out
                go_wp2
                go_roundw
                case rel => exact ⟨j + 1, by omega, by go_num, HV2.out, HB.out⟩
                case measure => simp [intOf]; omega
            · have hj2 : j = n1 := by omega
              have HVF : Hid (Is wr (.slice As ns cs) o2) := by
                have h := Ir.is HV.out
                rw [hj2, HN1.out, List.take_length, HLAW.out] at h
                exact h
              have HS2d := Lib.hid (HS2c.out.below HB.out)
              have HBR := Lib.hid (HBW.out.trans (HB.out.mono HBW.out.size))
              clear hj2 HV
              go_wp2_with fail
              refine (numbers_any _ _ o2 o2 _ HVF.out HS2d.out).mono ?_
              rintro e w12 ⟨rfl, b12⟩
              have HB12 := Lib.hid (HBR.out.trans (b12.mono HBR.out.size))
              rw [show decide (o2 = o2) = true from decide_eq_true rfl]
              clear b12
              go_wp2_with fail
              refine (awake_any _).mono ?_
              rintro e w13 ⟨rfl, b13⟩
              have HB13 := Lib.hid (HB12.out.trans (b13.mono HB12.out.size))
              clear b13
              go_wp2
              go_ret
              exact ⟨rfl, HB13.out⟩
end Go.Proofs.Ytifbkojapfighaa.Gr
