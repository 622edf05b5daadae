/- slices.Contains of names; names.(*Book).Records (walks). -/
import Derived.Test.YtinonkakpgiblaaNamLoad
namespace Go.Proofs.Ytinonkakpgiblaa.Nam
open Go.RowKit Go.Proofs.YtinonkakpgiblaaW.PrintWords Go.Proofs.YtinonkakpgiblaaW.PrintLast Go.Proofs.Ytinonkakpgiblaa.Base Go.Proofs.Ytinonkakpgiblaa.Pack Go.Maps
set_option linter.unusedVariables false
set_option linter.unusedSimpArgs false

/-- A row of what was found is read. -/
theorem dr_dz {base : Nat} {w : World} {v : Value} {l : List DepV} (h : Dr base w v l) : Dz w v l := by
  obtain ⟨A, c, rfl, hc, hr⟩ := Kd.R_reads h
  rw [List.length_map] at *
  refine ⟨A, c, rfl, hc, hr.2.1, fun hp => ?_⟩
  obtain ⟨ad, e, hcell⟩ := hr.2.2 hp
  refine ⟨ad, e, fun i hi => ?_⟩
  have hd : (l.map DepV.x)[i]? = some (l.getD i zdep).x := by
    rw [List.getElem?_map, List.getElem?_eq_getElem hi, List.getD_eq_getElem?_getD, List.getElem?_eq_getElem hi]
    rfl
  obtain ⟨cs, _, hk, hcs⟩ := hcell i _ hd
  obtain ⟨c0, c1, rfl, e0, c2, c3, rfl, e2, e3⟩ := hk
  have e0 : c0 = [.string (l.getD i zdep).out] := e0
  have e2 : c2 = [.int .i64 (l.getD i zdep).time] := e2
  obtain ⟨A', c', rfl, hc', hC⟩ := e3
  subst e0 e2
  refine ⟨_, hcs 0 _ rfl, hcs 1 _ rfl, hcs 2 _ rfl, ?_⟩
  have h1 := Kd.reads_of_C (enc := Value.string) (d := ByteArray.empty) hC
  exact ⟨A', c', rfl, hc', h1.2.1, h1.2.2⟩
set_option maxRecDepth 100000 in
set_option maxHeartbeats 1000000 in
theorem index_any (v : Value) (l : List ByteArray) (s : ByteArray) (w : World) (h : Ss w v l) :
    Calls Try.prog 67 #[v, .string s] w fun e w' => (∃ r : Int, e = .returned (.int .i64 r) ∧ (s ∈ l → 0 ≤ r) ∧ (s ∉ l → r = -1)) ∧ w' = w := by
  obtain ⟨A, c, rfl, hc, hm⟩ := ss_len h
  obtain ⟨n, hn⟩ : ∃ n, n = l.length := ⟨_, rfl⟩
  rw [← hn] at hc hm h ⊢
  have HSS := Lib.hid h
  have HN := Lib.hid hn
  clear h hn
  go_enter Try.func67, Try.ntmps67
  go_wp2
  go_loopw [8] (fun i wr => ∃ k : Nat, k ≤ n ∧ i = .int .i64 k ∧ wr = w ∧ Hid (∀ j, j < k → l.getD j ByteArray.empty ≠ s)) (fun i _ => n - (intOf i).toNat)
  case atStart => exact ⟨0, by omega, rfl, rfl, fun j hj => absurd hj (Nat.not_lt_zero _)⟩
  case round =>
    obtain ⟨k, hk, rfl, rfl, HNE⟩ := hrel
    by_cases l1 : k < n
    · have hkl : k < l.length := by rw [← HN.out]; exact l1
      obtain ⟨Ax, cx, ex, _, _, hcel⟩ := HSS.out
      injection ex with ex1 ex2 ex3
      subst ex1
      obtain ⟨ad, ead, hcell⟩ := hcel (by omega)
      subst ead
      have q := hcell k hkl
      have hgd : l.getD k ByteArray.empty ∈ l := by
        rw [List.getD_eq_getElem?_getD, List.getElem?_eq_getElem hkl]
        exact List.getElem_mem hkl
      have HGD := Lib.hid hgd
      obtain ⟨y, hy⟩ : ∃ y, y = l.getD k ByteArray.empty := ⟨_, rfl⟩
      rw [← hy] at q
      have HY := Lib.hid hy
      clear hcel hcell ex2 ex3 hkl hgd hy
      by_cases hs : s = y
      · have hb : (s.toList == y.toList) = true := by rw [str_eqb]; exact decide_eq_true hs
        have HM : Hid (s ∈ l) := by show s ∈ l; rw [hs, HY.out]; exact HGD.out
        clear hs
        go_wp2
        go_ret
        exact ⟨⟨_, rfl, fun _ => Int.natCast_nonneg k, fun h => absurd HM.out h⟩, rfl⟩
      · have hb : (s.toList == y.toList) = false := by rw [str_eqb]; exact decide_eq_false hs
        have HS := Lib.hid hs
        clear hs
        go_wp2
        go_roundw
        case rel => exact ⟨k + 1, by omega, by go_num, trivial, fun j hj => by
          rcases Nat.lt_succ_iff_lt_or_eq.1 hj with h | h
          · exact HNE.out j h
          · rw [h, ← HY.out]; exact fun e => HS.out e.symm⟩
        case measure => simp [intOf]; omega
    · have hk2 : k = n := by omega
      have HM : Hid (s ∉ l) := by
        intro hm
        obtain ⟨j, hj, e⟩ := List.mem_iff_getElem.1 hm
        refine HNE.out j (by rw [hk2, HN.out]; exact hj) ?_
        rw [List.getD_eq_getElem?_getD, List.getElem?_eq_getElem hj]
        exact e
      clear hk2
      go_wp2
      go_ret
      exact ⟨⟨_, rfl, fun h => absurd h HM.out, fun _ => rfl⟩, rfl⟩
set_option maxHeartbeats 1000000 in
theorem contains_any (v : Value) (l : List ByteArray) (s : ByteArray) (w : World) (h : Ss w v l) :
    Calls Try.prog 50 #[v, .string s] w fun e w' => e = .returned (.bool (decide (s ∈ l))) ∧ w' = w := by
  obtain ⟨A, c, rfl, hc, hm⟩ := ss_len h
  obtain ⟨n, hn⟩ : ∃ n, n = l.length := ⟨_, rfl⟩
  rw [← hn] at hc hm h ⊢
  have HSS := Lib.hid h
  clear h hn
  obtain ⟨bb, hbb⟩ : ∃ bb, decide (s ∈ l) = bb := ⟨_, rfl⟩
  rw [hbb]
  have HBB := Lib.hid hbb
  clear hbb
  go_enter Try.func50, Try.ntmps50
  go_wp2_with fail
  refine (index_any _ l s _ HSS.out).mono ?_
  rintro e w' ⟨⟨r, rfl, h1, h2⟩, rfl⟩
  cases bb
  · have h0 := h2 (of_decide_eq_false HBB.out)
    subst h0
    clear h1 h2
    go_wp2
    go_ret
    exact ⟨rfl, rfl⟩
  · have h0 := h1 (of_decide_eq_true HBB.out)
    clear h1 h2
    go_wp2
    go_ret
    exact ⟨rfl, rfl⟩
/-- What is live. -/
def liveL (live : List ByteArray) (l : List DepV) : List DepV := l.filter fun d => decide (d.out ∈ live)
theorem liveL_snoc (live : List ByteArray) (l : List DepV) (d : DepV) : liveL live (l ++ [d]) = if d.out ∈ live then liveL live l ++ [d] else liveL live l := by
  unfold liveL
  rw [List.filter_append]
  by_cases h : d.out ∈ live <;> simp [h]
theorem records_none (v : Value) (live : List ByteArray) (w : World) (hl : Ss w v live) :
    Calls Try.prog 28 #[.pointer none, v] w fun e w' => e = .returned (.slice none 0 0) ∧ Below w.heap.size w w' := by
  go_enter Try.func28, Try.ntmps28
  go_wp2_with fail
  refine (bnew_any _).mono ?_
  rintro e w1 ⟨g, rfl, _, hb⟩
  have HB := Lib.hid hb
  clear hb
  go_wp2_with fail
  refine (ball_none _).mono ?_
  rintro e w2 ⟨rfl, hb⟩
  have HB2 := Lib.hid (HB.out.trans (hb.mono HB.out.size))
  clear hb
  go_wp2
  go_loopw [5, 17] (fun u i wr => u = .slice none 0 0 ∧ i = .int .i64 0 ∧ wr = w2) (fun _ i _ => 0)
  case atStart => exact ⟨rfl, rfl, rfl⟩
  case round =>
    obtain ⟨rfl, rfl, rfl⟩ := hrel
    go_wp2
    go_ret
    exact ⟨rfl, HB2.out⟩
theorem takes_app {b b1 b2 : BookV} {l1 l2 : List (List Int)} (h1 : takesV b l1 = some b1) (h2 : takesV b1 l2 = some b2) : takesV b (l1 ++ l2) = some b2 := by
  unfold takesV at *
  rw [List.foldlM_append, h1]
  exact h2
set_option maxRecDepth 100000 in
set_option maxHeartbeats 4000000 in
theorem records_any (S0 : Nat → Prop) (c g : Nat) (b : BookV) (vl : Value) (live : List ByteArray) (w : World) (hB : Bk S0 c w g b) (hl : Ss w vl live) (hc : c ≤ 2000) (hP : ∀ n f, b.os n = some f → BriefD (depV b n f) ∧ FitD (depV b n f) ∧ planE (depV b n f) = 0) :
    Calls Try.prog 28 #[.pointer (some ⟨g, 0, none⟩), vl] w fun e w' => ∃ v rs l, e = .returned v ∧ AllOf b l ∧ l.length ≤ c ∧ takesV book0 rs = some (tellA (liveL live l)) ∧ (∀ r ∈ rs, Bytes r ∧ r.length ≤ 6000) ∧ rs.length ≤ 52 * c ∧ Rs w' v rs ∧ Below w.heap.size w w' := by
  obtain ⟨Al, cl, rfl, hcl, hml⟩ := ss_len hl
  obtain ⟨nl, hnl⟩ : ∃ nl, nl = live.length := ⟨_, rfl⟩
  rw [← hnl] at hcl hml hl ⊢
  have HSS := Lib.hid hl
  have HB0 := Lib.hid hB
  have HP := Lib.hid hP
  clear hl hB hnl hP hcl hml
  go_enter Try.func28, Try.ntmps28
  go_wp2_with fail
  refine (bnew_any _).mono ?_
  rintro e w1 ⟨gf, rfl, hk, hb⟩
  have HK1 := Lib.hid hk
  have HB1 := Lib.hid hb
  clear hk hb
  go_wp2_with fail
  refine (ball_any S0 c g b _ (HB0.out.below HB1.out) (by omega) (fun n f h => by have h2 := (HP.out n f h).1.few; unfold depV at h2; simp only [List.length_map] at h2; omega)).mono ?_
  rintro e w2 ⟨va, l, rfl, ha, hla, hr, hb⟩
  obtain ⟨A, ca, ev⟩ := hr.slice
  subst ev
  obtain ⟨n, hn⟩ : ∃ n, n = l.length := ⟨_, rfl⟩
  rw [← hn] at hr hla ⊢
  have HN := Lib.hid hn
  have HA := Lib.hid ha
  have HR := Lib.hid hr
  have HB2 := Lib.hid (HB1.out.trans (hb.mono HB1.out.size))
  have HK2 := Lib.hid (HK1.out.below hb)
  have HZ12 : Hid (w1.heap.size ≤ w2.heap.size) := hb.size
  have HPD : Hid (∀ d ∈ l, BriefD d ∧ FitD d ∧ planE d = 0) := fun d hd => by
    obtain ⟨m, f, h1, rfl⟩ := (ha.mem d).1 hd
    exact HP.out m f h1
  clear hn ha hr hb HK1 HP
  go_wp2
  --S1
  go_loopw [5, 17] (fun u i wr => ∃ (k : Nat) (v : Value) (S : Nat → Prop) (rs : List (List Int)), k ≤ n ∧ i = .int .i64 k ∧ u = v ∧ Hid (Bk S (52 * k) wr gf (tellA (liveL live (l.take k)))) ∧ Hid (kr.R 46 wr w2.heap.size (fun q => ¬ S q) v rs) ∧ Hid (takesV book0 rs = some (tellA (liveL live (l.take k)))) ∧ Hid (∀ r ∈ rs, Bytes r ∧ r.length ≤ 6000) ∧ rs.length ≤ 52 * k ∧ Hid (∀ q, S q → w.heap.size ≤ q ∧ (q < w1.heap.size ∨ w2.heap.size ≤ q)) ∧ Hid (∀ q, w1.heap.size ≤ q → q < w2.heap.size → wr.heap[q]? = w2.heap[q]?) ∧ Hid (Below w.heap.size w wr) ∧ Hid (w2.heap.size ≤ wr.heap.size)) (fun _ i _ => n - (intOf i).toNat)
  case atStart => exact ⟨0, .slice none 0 0, _, [], by omega, rfl, rfl, HK2.out, Kd.R_nil _ _ _ _ _, rfl, (fun r hr => by cases hr), by simp, fun q (hq : w.heap.size ≤ q ∧ q < w1.heap.size) => ⟨hq.1, .inl hq.2⟩, fun q _ _ => rfl, HB2.out, Nat.le_refl _⟩
  case round =>
    obtain ⟨k, v, S, rs, hk, rfl, rfl, HK, HO, HT, HRB, hrl, HS, HQ, HB, HZ⟩ := hrel
    obtain ⟨Av, cv, ev⟩ := Kd.R_slice HO.out
    obtain ⟨nv, hnv⟩ : ∃ nv, nv = rs.length := ⟨_, rfl⟩
    rw [← hnv] at ev
    subst ev
    have HNV := Lib.hid hnv
    have hnv2 : nv ≤ 52 * k := by omega
    have HRL := Lib.hid hrl
    clear hnv hrl
    have HSSr := Lib.hid (HSS.out.below HB.out)
    by_cases l1 : k < n
    · have hkl : k < l.length := by rw [← HN.out]; exact l1
      have hrow : Dr w1.heap.size wr (.slice A n ca) l := Kd.R_mono (Kd.R_move (Kd.R_bound HR.out) (fun q hq => HQ.out q hq.2.1 hq.2.2.1)) (fun _ _ => trivial)
      obtain ⟨ad, vd, rfl, q0, q1, q2, hs⟩ := (dr_dz hrow).get k hkl
      obtain ⟨hTK, hmem⟩ := take_at l zdep k hkl
      have HTK := Lib.hid hTK
      have HPd := Lib.hid (HPD.out _ hmem)
      have HSD := Lib.hid hs
      clear hTK hmem hs hkl hrow
      generalize l.getD k zdep = d at q0 q1 q2 HTK HPd HSD
      obtain ⟨Ad, cd, ev, _, _⟩ := ss_len HSD.out
      subst ev
      obtain ⟨nd, hnd⟩ : ∃ nd, nd = d.deps.length := ⟨_, rfl⟩
      rw [← hnd] at HSD q2
      clear hnd
      obtain ⟨x3, hx3⟩ : ∃ x3, wr.heap.size = x3 := ⟨_, rfl⟩
      obtain ⟨w3, hw3⟩ : ∃ w3, w3 = wr.alloc (.cells #[.string d.out, .int .i64 d.time, .slice Ad nd cd] 36) := ⟨_, rfl⟩
      have hb3 : Below wr.heap.size wr w3 := by rw [hw3]; exact below_alloc (Below.refl _ _) _
      have X3 : Hid (w3.heap[x3]? = some (.cells #[.string d.out, .int .i64 d.time, .slice Ad nd cd] 36 (0, 0))) := by show _ = _; rw [hw3, ← hx3]; exact blk_new wr _
      have HB3 := Lib.hid hb3
      have HD3 : Hid (DepIs w3 (.agg #[.string d.out, .int .i64 d.time, .slice Ad nd cd]) d) := ⟨_, rfl, HSD.out.below hb3⟩
      have HW3 := Lib.hid hw3
      have HL3 := Lib.hid (HSSr.out.below hb3)
      clear hb3 hw3
      go_upto_region 6 with (fail)
      rw [← HW3.out]
      try rw [hx3]
      clear hx3 q0 q1 q2
      have p0 : w3.cell? ⟨x3, 0, none⟩ = some (.string d.out) := blk_cell X3.out 0
      go_wp2_with fail
      refine (contains_any _ live d.out _ HL3.out).mono ?_
      rintro e w4 ⟨rfl, he⟩
      subst he
      clear p0
      obtain ⟨bb, hbb⟩ : ∃ bb, decide (d.out ∈ live) = bb := ⟨_, rfl⟩
      rw [hbb]
      have HBB := Lib.hid hbb
      clear hbb
      cases bb
      case false =>
        have hd := of_decide_eq_false HBB.out
        have HL : Hid (liveL live (l.take (k + 1)) = liveL live (l.take k)) := by show _ = _; rw [HTK.out, liveL_snoc, if_neg hd]
        have HKE : Hid (Bk S (52 * (k + 1)) w4 gf (tellA (liveL live (l.take (k + 1))))) := by show Bk _ _ _ _ _; rw [HL.out]; exact (HK.out.below HB3.out).more (by omega)
        have HTE : Hid (takesV book0 rs = some (tellA (liveL live (l.take (k + 1))))) := by show _ = _; rw [HL.out]; exact HT.out
        have HOE := Lib.hid (Kd.R_below HO.out HB3.out)
        have HQE : Hid (∀ q, w1.heap.size ≤ q → q < w2.heap.size → w4.heap[q]? = w2.heap[q]?) := fun q h1 h2 => (HB3.out.block q (Nat.lt_of_lt_of_le h2 HZ.out)).trans (HQ.out q h1 h2)
        have HBE := Lib.hid (HB.out.trans (HB3.out.mono HB.out.size))
        have HZE : Hid (w2.heap.size ≤ w4.heap.size) := Nat.le_trans HZ.out HB3.out.size
        clear hd HBB
        go_wp2
        go_roundw
        case rel => exact ⟨k + 1, _, S, rs, by omega, by go_num, rfl, HKE.out, HOE.out, HTE.out, HRB.out, by have := HRL.out; omega, HS.out, HQE.out, HBE.out, HZE.out⟩
        case measure => simp [intOf]; omega
      case true =>
        have hd := of_decide_eq_true HBB.out
        have HL : Hid (liveL live (l.take (k + 1)) = liveL live (l.take k) ++ [d]) := by show _ = _; rw [HTK.out, liveL_snoc, if_pos hd]
        have HKE : Hid (Bk S (52 * k) w4 gf (tellA (liveL live (l.take k)))) := HK.out.below HB3.out
        have HOE := Lib.hid (Kd.R_below HO.out HB3.out)
        have HQE : Hid (∀ q, w1.heap.size ≤ q → q < w2.heap.size → w4.heap[q]? = w2.heap[q]?) := fun q h1 h2 => (HB3.out.block q (Nat.lt_of_lt_of_le h2 HZ.out)).trans (HQ.out q h1 h2)
        have HBE := Lib.hid (HB.out.trans (HB3.out.mono HB.out.size))
        have HZE : Hid (w2.heap.size ≤ w4.heap.size) := Nat.le_trans HZ.out HB3.out.size
        have HSW : Hid (∀ q, S q → q < w4.heap.size) := HKE.out.lt
        have HPE : Hid (planE d = 0) := HPd.out.2.2
        clear hd HBB HK HO HQ HB HZ HSSr HL3
        obtain ⟨fb, hfb⟩ : ∃ fb, tellA (liveL live (l.take k)) = fb := ⟨_, rfl⟩
        rw [hfb] at HKE HT
        have HFB := Lib.hid hfb
        clear hfb
        --S2
        have p0 : w4.cell? ⟨x3, 0, none⟩ = some (.string d.out) := blk_cell X3.out 0
        have p1 : w4.cell? ⟨x3, 1, none⟩ = some (.int .i64 d.time) := blk_cell X3.out 1
        have p2 : w4.cell? ⟨x3, 2, none⟩ = some (.slice Ad nd cd) := blk_cell X3.out 2
        go_wp2_with fail
        refine (plan_any S _ gf fb _ d _ HKE.out HD3.out HPd.out.2.1 (by omega) (by have := HPd.out.1.few; omega)).mono ?_
        rintro e w5 ⟨vo, rfl, hr5⟩
        clear p0 p1 p2
        rw [HPE.out]
        have HK5 := Lib.hid (HKE.out.below hr5.below)
        have HB45 := Lib.hid hr5.below
        have HR5 := Lib.hid hr5.row
        obtain ⟨Ao, no, co, eo, hno⟩ := hr5.slice
        subst eo
        have HNO := Lib.hid hno
        have hno52 : no ≤ 52 := by rw [hno]; have h1 := planL_few (ns := fb.ns) (d := d); have := HPd.out.1.few; omega
        have HTE : Hid (tellA (liveL live (l.take (k + 1))) = toldV fb d) := by
          show _ = _
          rw [HL.out, tellA_snoc, HFB.out]
          exact if_pos HPE.out
        have HTP : Hid (takesV fb (planL fb.ns d) = some (toldV fb d)) := takes_plan _ d HK5.out.good HPE.out (by have := HK5.out.few; omega)
        have HRB5 : Hid (∀ r ∈ planL fb.ns d, Bytes r ∧ r.length ≤ 6000) := fun r hr => ⟨planL_bytes _ _ r hr, planL_short HPd.out.1 r hr⟩
        have HOL : Hid (∀ q, (Value.slice Av nv cv).ownBlock = some q → w2.heap.size ≤ q ∧ q < w4.heap.size) := fun q hq => ⟨Kd.R_base HOE.out q hq, Kd.R_lt HOE.out q hq⟩
        have HO5 := Lib.hid (Kd.R_below HOE.out HB45.out)
        clear hr5 hno
        obtain ⟨wo, hwo⟩ : ∃ wo, wo = w5 := ⟨_, rfl⟩
        subst hwo
        generalize planL fb.ns d = recs at HTP HRB5 HNO HR5
        generalize toldV fb d = fe at HTE HTP
        clear HKE HFB HPE
        go_wp2
        --S3
        go_loopw [34] (fun i wr => ∃ (j : Nat) (T : Nat → Prop) (bj : BookV), j ≤ no ∧ i = .int .i64 j ∧ Hid (takesV fb (recs.take j) = some bj) ∧ Hid (Bk T (52 * k + j) wr gf bj) ∧ Hid (∀ q, T q → w.heap.size ≤ q ∧ (q < w1.heap.size ∨ w2.heap.size ≤ q)) ∧ Hid (∀ q, T q → q < w4.heap.size ∨ wo.heap.size ≤ q) ∧ Hid (∀ q, w4.heap.size ≤ q → q < wo.heap.size → wr.heap[q]? = wo.heap[q]?) ∧ Hid (∀ q, w1.heap.size ≤ q → q < w2.heap.size → wr.heap[q]? = w2.heap[q]?) ∧ Hid (kr.R 46 wr w2.heap.size (fun q => ¬ T q) (.slice Av nv cv) rs) ∧ Hid (Below w.heap.size w wr) ∧ Hid (wo.heap.size ≤ wr.heap.size)) (fun i _ => no - (intOf i).toNat)
        case atStart => exact ⟨0, S, fb, by omega, rfl, by rw [List.take_zero]; rfl, HK5.out, HS.out, fun q hq => .inl (HSW.out q hq), fun q _ _ => rfl, fun q h1 h2 => (HB45.out.block q (Nat.lt_of_lt_of_le h2 HZE.out)).trans (HQE.out q h1 h2), HO5.out, HBE.out.trans (HB45.out.mono HBE.out.size), Nat.le_refl _⟩
        case round =>
          obtain ⟨j, T, bj, hj, rfl, HJ, HKJ, HTJ, HTJ2, HQJ, HQ2, HOJ, HBJ, HZJ⟩ := hrel
          have hrow : kr.R 46 wr w4.heap.size (fun q => w4.heap.size ≤ q ∧ q < wo.heap.size) (.slice Ao no co) recs := Kd.R_move (Kd.R_mono (Kd.R_bound HR5.out) (fun q hq => ⟨hq.2.1, hq.2.2.1⟩)) (fun q hq => HQJ.out q hq.1 hq.2)
          have HROW := Lib.hid hrow
          by_cases l2 : j < no
          · have hjl : j < recs.length := by rw [← HNO.out]; exact l2
            obtain ⟨ar, ur, er, q0, hbs⟩ := rs_get (rs_row hrow) j hjl
            subst er
            obtain ⟨hTJ, hmj⟩ := take_at recs [] j hjl
            have hsp := split_at recs [] j hjl
            have htp := HTP.out
            rw [hsp] at htp
            obtain ⟨b1, b2, t1, t2, _⟩ := takes_split htp
            obtain rfl : bj = b1 := by rw [HJ.out] at t1; injection t1
            have hrb := HRB5.out _ hmj
            have t3 := takes_snoc HJ.out t2
            rw [← hTJ] at t3
            have HT3 := Lib.hid t3
            have HRBJ := Lib.hid hrb.1
            have hrl := hrb.2
            have HBS := Lib.hid hbs
            have HT2 := Lib.hid t2
            clear hrow hTJ hmj hsp htp t1 t2 t3 hrb hbs hjl HROW
            generalize recs.getD j [] = rec_ at HT2 HT3 HRBJ hrl HBS
            obtain ⟨Ar, cr, ev, _, _⟩ := HBS.out.len
            subst ev
            obtain ⟨nr, hnr⟩ : ∃ nr, nr = rec_.length := ⟨_, rfl⟩
            rw [← hnr] at HBS q0
            clear hnr
            go_wp2_with fail
            refine (take_any T _ gf bj _ rec_ _ HKJ.out HBS.out HRBJ.out (by omega) (by omega)).mono ?_
            rintro e w6 ⟨rfl, hk6, hf6⟩
            have hE : takeE (takeV bj rec_) = 0 := by rw [HT2.out]; rfl
            have hG : (takeV bj rec_).getD bj = b2 := by rw [HT2.out]; rfl
            rw [hG] at hk6
            rw [hE]
            have HK6 := Lib.hid hk6
            have HF6 := Lib.hid hf6
            clear hk6 hf6 hE hG q0
            go_wp2
            --S4
            go_roundw
            case rel =>
              refine ⟨j + 1, _, b2, by omega, by go_num, HT3.out, HK6.out, ?_, ?_, ?_, ?_, ?_, HBJ.out.trans (HF6.out.below (fun q hq => (HTJ.out q hq).1) HBJ.out.size), Nat.le_trans HZJ.out HF6.out.size⟩
              · rintro q (hq | hq)
                · exact HTJ.out q hq
                · have h1 := HBJ.out.size
                  have h2 := HZJ.out
                  have h3 := HB45.out.size
                  have h4 := HZE.out
                  exact ⟨by omega, .inr (by omega)⟩
              · rintro q (hq | hq)
                · exact HTJ2.out q hq
                · exact .inr (Nat.le_trans HZJ.out hq.1)
              · intro q h1 h2
                have h3 := HQJ.out q h1 h2
                rw [HF6.out.block q (Nat.lt_of_lt_of_le h2 HZJ.out) (fun hT => by rcases HTJ2.out q hT with h | h <;> omega)]
                exact h3
              · intro q h1 h2
                have h3 := HQ2.out q h1 h2
                have h4 := HZJ.out
                have h5 := HB45.out.size
                have h6 := HZE.out
                rw [HF6.out.block q (by omega) (fun hT => by rcases (HTJ.out q hT).2 with h | h <;> omega)]
                exact h3
              · refine Kd.R_step (Kd.R_mono (Kd.R_bound HOJ.out) (fun q hq => ?_)) (fun q hq hl => HF6.out.block q hl (fun hs => hq (.inl hs)))
                rintro (h1 | h1)
                · exact hq.1 h1
                · have := hq.2.2.1; omega
            case measure => simp [intOf]; omega
          · have hj2 : j = no := by omega
            have hJ := HJ.out
            rw [hj2, HNO.out, List.take_length, HTP.out] at hJ
            injection hJ with hJ
            subst hJ
            have HKE : Hid (Bk T (52 * (k + 1)) wr gf fe) := HKJ.out.more (by omega)
            clear hj2 HJ hrow
            go_wp2_with (at_builtin; refine Held.of ?_)
            --S5
            obtain ⟨A', c', e', _, hrd⟩ := HROW.out.2.reads
            have hlen : recs.length = no := HNO.out.symm
            injection e' with e2 e3 e4
            subst e2
            rw [hlen] at hrd
            refine Held.out (Kd.R_append_rows kr (w0 := wr) w2.heap.size rfl (.tmp 42) (.tmp 43) 31 46 (.slice none 0 0) 24 rfl Try.underlying31 (by kernel_rfl) rfl (by decide) (by decide) (.slice Av nv cv) rs recs _ no co (fun q => ¬ T q) (fun q => w4.heap.size ≤ q ∧ q < wo.heap.size) rfl rfl HOJ.out hrd ?_ ?_ ?_ (Below.refl _ _) ?_ ?_ ?_)
            · intro x cs hM
              exact kr.M_mono (fun q hq => hq.1) (kr.M_lower HZE.out hM)
            · intro q hq
              refine ⟨fun hT => ?_, fun he => ?_⟩
              · rcases HTJ2.out q hT with h | h <;> omega
              · have := (HOL.out q he.symm).2; omega
            · intro q hq hT
              have := HKE.out.lt q hT
              omega
            · have h2 := HZJ.out
              have h3 := HB45.out.size
              have h4 := HZE.out
              omega
            · have := HNV.out; omega
            intro v6 w6 r6 b6 g6 _
            have HKF : Hid (Bk T (52 * (k + 1)) w6 gf fe) := HKE.out.move fun q hq => g6.block q (HKE.out.lt q hq) (fun he => HOJ.out.1 q he.symm hq)
            have HOF := Lib.hid r6
            have HQF : Hid (∀ q, w1.heap.size ≤ q → q < w2.heap.size → w6.heap[q]? = w2.heap[q]?) := fun q h1 h2 => (b6.block q h2).trans (HQ2.out q h1 h2)
            have HBF : Hid (Below w.heap.size w w6) := HBJ.out.trans (b6.mono (Nat.le_trans HB2.out.size (Nat.le_refl _)))
            have HZF : Hid (w2.heap.size ≤ w6.heap.size) := by
              have h1 := b6.size
              have h2 := HZJ.out
              have h3 := HB45.out.size
              have h4 := HZE.out
              show _ ≤ _
              omega
            have HTF : Hid (takesV book0 (rs ++ recs) = some fe) := takes_app HT.out HTP.out
            have HRF : Hid (∀ r ∈ rs ++ recs, Bytes r ∧ r.length ≤ 6000) := fun r hr => (List.mem_append.1 hr).elim (HRB.out r) (HRB5.out r)
            have hlf : (rs ++ recs).length ≤ 52 * (k + 1) := by rw [List.length_append, hlen]; have := HRL.out; omega
            have HLF := Lib.hid hlf
            clear r6 b6 g6 hlf hlen hrd e3 e4
            go_wp2
            go_roundw
            case rel => exact ⟨k + 1, _, T, rs ++ recs, by omega, by go_num, rfl, by rw [HTE.out]; exact HKF.out, HOF.out, by rw [HTE.out]; exact HTF.out, HRF.out, HLF.out, HTJ.out, HQF.out, HBF.out, HZF.out⟩
            case measure => simp [intOf]; omega
    · have hk2 : k = n := by omega
      have hke := HT.out
      rw [hk2, HN.out, List.take_length] at hke
      have HTE := Lib.hid hke
      have HRS := Lib.hid (rs_row HO.out)
      clear hk2 hke
      go_wp2
      go_ret
      exact ⟨_, rs, l, rfl, HA.out, by rw [← HN.out]; exact hla, HTE.out, HRB.out, by have := HRL.out; omega, HRS.out, HB.out⟩
end Go.Proofs.Ytinonkakpgiblaa.Nam
