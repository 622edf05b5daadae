/- graph.(*Graph).Sources, .Plan (walks). -/
import Derived.Test.YtifbkojapfighaaGrUsed
import Derived.Test.YtifbkojapfighaaGrDelete
namespace Go.Proofs.Ytifbkojapfighaa.Gr
open Go.RowKit Go.Proofs.YtifbkojapfighaaW.PrintWords Go.Proofs.YtifbkojapfighaaW.PrintLast Go.Proofs.Ytifbkojapfighaa.Base Go.Maps
set_option linter.unusedVariables false
set_option linter.unusedSimpArgs false

structure SmallG (m : ManV) : Prop extends SmallM m where
  needs : (allNeeds m.edges).length ≤ 1000000
/-- The graph at block g. -/
def Gx (w : World) (g : Nat) (m : ManV) : Prop := ∃ ve vd va mk nk, w.heap[g]? = some (.cells #[ve, vd, .map (some mk), va] 70 (0, 0)) ∧ Ez w ve m.edges ∧ Ss w vd m.defs ∧ MMap w mk nk (makerOf m.edges) ∧ Iss w va (aheadV m.edges)
theorem Gx.below {w w1 : World} {g : Nat} {m : ManV} (h : Gx w g m) (hb : Below w.heap.size w w1) : Gx w1 g m := by
  obtain ⟨ve, vd, va, mk, nk, h1, h2, h3, h4, h5⟩ := h
  exact ⟨ve, vd, va, mk, nk, (hb.block _ (blk_lt h1)).trans h1, h2.below hb, h3.below hb, VMap.below h4 hb, h5.below hb⟩
/-- Is this file made? (the closure of Sources) -/
theorem is_made (y g mk nk : Nat) (mf : ByteArray → Option Nat) (s : ByteArray) (w : World) (hs : s.size ≤ maxLen) (hy : w.cell? ⟨y, 0, none⟩ = some (.pointer (some ⟨g, 0, none⟩))) (hg : w.cell? ⟨g, 2, none⟩ = some (.map (some mk))) (hM : MMap w mk nk mf) :
    Calls Try.prog 49 #[.string s, .pointer (some ⟨y, 0, none⟩)] w fun e w' => e = .returned (.bool (mf s).isSome) ∧ w' = w := by
  have hlk := (VMap.look hM keyed_s Try.underlying67 (zero_int _) (s := s) (keyOf_s hs)).1
  obtain ⟨t, ht⟩ : ∃ t, t = mf s := ⟨_, rfl⟩
  rw [← ht] at hlk ⊢
  clear ht hM hs
  cases t with
  | none =>
    simp only [Option.map_none, Option.getD_none, Option.isSome_none] at hlk
    go_enter Try.func49, Try.ntmps49
    go_wp2
    go_ret
    exact ⟨rfl, rfl⟩
  | some k =>
    simp only [Option.map_some, Option.getD_some, Option.isSome_some] at hlk
    go_enter Try.func49, Try.ntmps49
    go_wp2
    go_ret
    exact ⟨rfl, rfl⟩
/-- Sources. -/
def sourcesV (es : List EdgeV) : List ByteArray := (usedV es).filter fun s => !(makerOf es s).isSome
theorem used_spec (es : List EdgeV) : Up (usedV es) ∧ (∀ s, s ∈ usedV es ↔ s ∈ allNeeds es) ∧ (usedV es).length ≤ (allNeeds es).length := by
  obtain ⟨h1, h2, h3⟩ := compS_spec (sortS_sorted (allNeeds es))
  have hp := sortS_perm (allNeeds es)
  exact ⟨h1, fun s => (h2 s).trans hp.mem_iff, by rw [← hp.length_eq]; exact h3⟩
theorem sources_up (es : List EdgeV) : Up (sourcesV es) := (used_spec es).1.filter _
theorem mem_sources {es : List EdgeV} {s : ByteArray} : s ∈ sourcesV es ↔ s ∈ allNeeds es ∧ makerOf es s = none := by
  unfold sourcesV
  rw [List.mem_filter, (used_spec es).2.1]
  cases makerOf es s <;> simp
theorem need_size {m : ManV} (hs : SmallM m) {s : ByteArray} (h : s ∈ allNeeds m.edges) : s.size ≤ maxLen := by
  unfold allNeeds at h
  obtain ⟨l, h1, h2⟩ := List.mem_flatten.1 h
  obtain ⟨e, h3, rfl⟩ := List.mem_map.1 h1
  exact hs.size e h3 s (.inr h2)
set_option maxHeartbeats 1600000 in
theorem sources_any (g : Nat) (m : ManV) (w : World) (h : Gx w g m) (hs : SmallG m) :
    Calls Try.prog 24 #[.pointer (some ⟨g, 0, none⟩)] w fun e w' => ∃ v', e = .returned v' ∧ Kd.string.R 9 w' w.heap.size (fun _ => True) v' (sourcesV m.edges) ∧ Below w.heap.size w w' := by
  obtain ⟨x, hx⟩ : ∃ x, w.heap.size = x := ⟨_, rfl⟩
  obtain ⟨w1, hw1⟩ : ∃ w1, w1 = w.alloc (.cells #[.pointer (some ⟨g, 0, none⟩)] 27) := ⟨_, rfl⟩
  have hb1 : Below w.heap.size w w1 := by rw [hw1]; exact below_alloc (Below.refl _ _) _
  have hX : w1.heap[x]? = some (.cells #[.pointer (some ⟨g, 0, none⟩)] 27 (0, 0)) := by rw [hw1, ← hx]; exact blk_new w _
  have HG1 := Lib.hid (h.below hb1)
  have HX := Lib.hid hX
  have HB1 := Lib.hid hb1
  have HW := Lib.hid hw1
  have HS := Lib.hid hs
  have q0 := blk_cell hX 0
  clear h hb1 hX hw1 hs
  go_enter Try.func24, Try.ntmps24
  go_upto_region 1 with (fail)
  rw [← HW.out]
  try rw [hx]
  clear hx
  go_wp2_with fail
  obtain ⟨ve, vd, va, mk, nk, hg, hE, hD, hM, hA⟩ := HG1.out
  have HBG := Lib.hid hg
  have HMM := Lib.hid hM
  refine (used_any g ve m.edges w1 (blk_cell hg 0) hE HS.out.each HS.out.needs).mono ?_
  rintro e w2 ⟨v2, rfl, r2, b2⟩
  have HR2 := Lib.hid r2
  have HB2 := Lib.hid b2
  clear hg hE hD hM hA r2 b2 q0
  go_wp2_with fail
  refine (delete_strs w1.heap.size v2 (usedV m.edges) w2 49 #[.pointer (some ⟨x, 0, none⟩)] (fun s => (makerOf m.edges s).isSome) HR2.out (fun s hs => need_size HS.out.toSmallM (((used_spec m.edges).2.1 s).1 hs)) (by have h1 := (used_spec m.edges).2.2; have h2 := HS.out.needs; omega) (enters_of Try.func49 (by kernel_rfl) rfl) ?_).mono ?_
  · intro W s hsz hgr
    have hb : ∀ q, v2.ownBlock = some q → w1.heap.size ≤ q := fun q hq => Kd.R_base HR2.out q hq
    have hbW : Below w1.heap.size w1 W := HB2.out.grown hgr HB2.out.size hb
    exact is_made x g mk nk _ s W hsz (blk_cell ((hbW.block _ (blk_lt HX.out)).trans HX.out) 0) (blk_cell ((hbW.block _ (blk_lt HBG.out)).trans HBG.out) 2) (VMap.below HMM.out hbW)
  rintro e w3 ⟨v3, rfl, r3, g3⟩
  have hb3 := HB2.out.grown g3 HB2.out.size (fun q hq => Kd.R_base HR2.out q hq)
  have HR3 := Lib.hid (Kd.R_lower r3 HB1.out.size)
  have HB3 := Lib.hid (HB1.out.trans (hb3.mono HB1.out.size))
  clear r3 g3 hb3
  go_wp2
  go_ret
  exact ⟨_, rfl, HR3.out, HB3.out⟩
theorem reach_lt {ah : List (List Nat)} {fr : List Nat} {n : Nat} (hfr : ∀ n ∈ fr, n < ah.length) (hk : ∀ r ∈ ah, ∀ k ∈ r, k < ah.length) (h : Reach ah fr n) : n < ah.length := by
  induction h with
  | base n hn => exact hfr n hn
  | step n k _ hk2 ih => exact hk _ (take_at ah [] n ih).2 k hk2
theorem IsReach.lt {ah : List (List Nat)} {fr l : List Nat} (h : IsReach ah fr l) (hfr : ∀ n ∈ fr, n < ah.length) (hk : ∀ r ∈ ah, ∀ k ∈ r, k < ah.length) : ∀ n ∈ l, n < ah.length := fun n hn => reach_lt hfr hk ((h.mem n).1 hn)
theorem IsReach.len {ah : List (List Nat)} {fr l : List Nat} (h : IsReach ah fr l) (hfr : ∀ n ∈ fr, n < ah.length) (hk : ∀ r ∈ ah, ∀ k ∈ r, k < ah.length) : l.length ≤ ah.length := by
  have h1 : l.Nodup := h.up.imp fun {a b} h => Nat.ne_of_lt h
  have h2 := nodup_sub_len h1 (m := List.range ah.length) fun x hx => List.mem_range.2 (h.lt hfr hk x hx)
  rwa [List.length_range] at h2
theorem ahead_len (es : List EdgeV) : (aheadV es).length = es.length := by unfold aheadV; rw [List.length_map]
/-- May this file be a target? -/
def goodT (es : List EdgeV) (t : ByteArray) : Prop := t ∈ sourcesV es ∨ (makerOf es t).isSome = true
set_option maxHeartbeats 3200000 in
theorem plan_any (g : Nat) (m : ManV) (v : Value) (ts : List ByteArray) (w : World) (h : Gx w g m) (hs : SmallG m) (hv : Ss w v ts) (hz : ∀ s ∈ ts, s.size ≤ maxLen) (hl : ts.length ≤ 100000) :
    Calls Try.prog 15 #[.pointer (some ⟨g, 0, none⟩), v] w fun e w' => ((e = .returned (.tuple #[.slice none 0 0, .int .i64 6]) ∧ ¬ ∀ t ∈ ts, goodT m.edges t) ∨ (∃ v' l, e = .returned (.tuple #[v', .int .i64 0]) ∧ (∀ t ∈ ts, goodT m.edges t) ∧ IsReach (aheadV m.edges) (madeF (makerOf m.edges) ts) l ∧ Ir w.heap.size w' v' (orderV (aheadV m.edges) l))) ∧ Below w.heap.size w w' := by
  obtain ⟨A, c, rfl, hc, hm⟩ := ss_len hv
  obtain ⟨n, hn⟩ : ∃ n, n = ts.length := ⟨_, rfl⟩
  rw [← hn] at hc hm hv ⊢
  have HG := Lib.hid h
  have HS := Lib.hid hs
  have HV := Lib.hid hv
  have HZ := Lib.hid hz
  have HN := Lib.hid hn
  have HL : Hid (ts.length ≤ 100000) := hl
  clear h hs hv hz hn hl
  go_enter Try.func15, Try.ntmps15
  go_wp2_with fail
  refine (sources_any g m w HG.out HS.out).mono ?_
  rintro e w2 ⟨v2, rfl, r2, b2⟩
  have HR2 := Lib.hid (r_ss r2)
  have HB2 := Lib.hid b2
  have HG2 := Lib.hid (HG.out.below b2)
  have HV2 := Lib.hid (HV.out.below b2)
  obtain ⟨A2, c2, e2⟩ := Kd.R_slice r2
  obtain ⟨n2, hn2⟩ : ∃ n2, n2 = (sourcesV m.edges).length := ⟨_, rfl⟩
  rw [← hn2] at e2
  subst e2
  have HN2 := Lib.hid hn2
  obtain ⟨ve, vd, va, mk, nk, hg, hE, hD, hM, hA⟩ := HG2.out
  have HBG := Lib.hid hg
  have HMM := Lib.hid hM
  have HE2 := Lib.hid hE
  have HA2 := Lib.hid hA
  have g2 := blk_cell hg 2
  clear r2 b2 hn2 hg hE hD hM hA
  go_wp2
  go_loopw [19] (fun i wr => ∃ k : Nat, k ≤ n ∧ i = .int .i64 k ∧ wr = w2 ∧ Hid (∀ j, j < k → goodT m.edges (ts.getD j ByteArray.empty))) (fun i _ => n - (intOf i).toNat)
  case atStart => exact ⟨0, by omega, rfl, rfl, fun j hj => absurd hj (Nat.not_lt_zero _)⟩
  case round =>
    obtain ⟨k, hk, rfl, hwr, HK⟩ := hrel
    have hwr := hwr.symm
    subst hwr
    by_cases l1 : k < n
    · have hkl : k < ts.length := by rw [← HN.out]; exact l1
      obtain ⟨Ax, cx, ex, _, _, hcel⟩ := HV2.out
      injection ex with ex1 ex2 ex3
      subst ex1
      obtain ⟨ad, ead, hcell⟩ := hcel (by omega)
      subst ead
      have q := hcell k hkl
      obtain ⟨_, hmem⟩ := take_at ts ByteArray.empty k hkl
      have hsz := HZ.out _ hmem
      obtain ⟨s, hs⟩ : ∃ s, s = ts.getD k ByteArray.empty := ⟨_, rfl⟩
      rw [← hs] at q hsz hmem
      have HSK := Lib.hid hs
      have HME := Lib.hid hmem
      clear hcel hcell ex2 ex3 hkl hmem hs
      have hlk := (VMap.look HMM.out keyed_s Try.underlying67 (zero_int _) (s := s) (keyOf_s hsz)).1
      obtain ⟨t, ht⟩ : ∃ t, t = makerOf m.edges s := ⟨_, rfl⟩
      rw [← ht] at hlk
      have HT := Lib.hid ht
      clear hsz ht
      obtain ⟨b, hb⟩ : ∃ b, b = decide (s ∈ sourcesV m.edges) := ⟨_, rfl⟩
      have HBD := Lib.hid hb
      clear hb
      have HSR := Lib.hid (search_any _ (sourcesV m.edges) s w2 HR2.out (sources_up _) (by have h1 := (used_spec m.edges).2.2; have h2 := HS.out.needs; have h3 := List.length_filter_le (fun s => !(makerOf m.edges s).isSome) (usedV m.edges); show (List.filter _ _).length ≤ _; omega))
      cases t with
      | none =>
        simp only [Option.map_none, Option.getD_none, Option.isSome_none] at hlk
        go_wp2_with fail
        refine HSR.out.mono ?_
        rintro e w3 ⟨⟨ix, rfl⟩, hw3⟩
        have hw3 := hw3.symm
        subst hw3
        rw [← HBD.out]
        cases b with
        | true =>
          have HK2 : Hid (∀ j, j < k + 1 → goodT m.edges (ts.getD j ByteArray.empty)) := fun j hj => by
            rcases Nat.lt_succ_iff_lt_or_eq.1 hj with h | h
            · exact HK.out j h
            · rw [h, ← HSK.out]; exact .inl (of_decide_eq_true HBD.out.symm)
          go_wp2
          go_roundw
          case rel => exact ⟨k + 1, by omega, by go_num, trivial, HK2.out⟩
          case measure => simp [intOf]; omega
        | false =>
          go_wp2
          go_ret2
          refine ⟨.inl ⟨rfl, fun h => ?_⟩, HB2.out⟩
          rcases h s HME.out with h | h
          · exact of_decide_eq_false HBD.out.symm h
          · rw [← HT.out] at h; cases h
      | some y =>
        simp only [Option.map_some, Option.getD_some, Option.isSome_some] at hlk
        have HK2 : Hid (∀ j, j < k + 1 → goodT m.edges (ts.getD j ByteArray.empty)) := fun j hj => by
          rcases Nat.lt_succ_iff_lt_or_eq.1 hj with h | h
          · exact HK.out j h
          · rw [h, ← HSK.out]; refine .inr ?_; rw [← HT.out]; rfl
        go_wp2_with fail
        refine HSR.out.mono ?_
        rintro e w3 ⟨⟨ix, rfl⟩, hw3⟩
        have hw3 := hw3.symm
        subst hw3
        rw [← HBD.out]
        cases b with
        | true =>
          go_wp2
          go_roundw
          case rel => exact ⟨k + 1, by omega, by go_num, trivial, HK2.out⟩
          case measure => simp [intOf]; omega
        | false =>
          go_wp2
          go_roundw
          case rel => exact ⟨k + 1, by omega, by go_num, trivial, HK2.out⟩
          case measure => simp [intOf]; omega
    · have hk2 : k = n := by omega
      have HGD : Hid (∀ t ∈ ts, goodT m.edges t) := fun t ht => by
        obtain ⟨j, hj, e⟩ := List.mem_iff_getElem.1 ht
        have h := HK.out j (by rw [hk2, HN.out]; exact hj)
        rw [List.getD_eq_getElem?_getD, List.getElem?_eq_getElem hj] at h
        rw [← e]
        exact h
      clear hk2 HK
      have HFR : Hid (∀ k ∈ madeF (makerOf m.edges) ts, k < (aheadV m.edges).length) := fun k hk => by rw [ahead_len]; exact madeF_lt m.edges ts k hk
      have HKL : Hid (∀ r ∈ aheadV m.edges, ∀ k ∈ r, k < (aheadV m.edges).length) := fun r hr k hk => by rw [ahead_len]; exact ahead_lt m.edges r hr k hk
      have HAL : Hid ((aheadV m.edges).length ≤ 10000) := by show _ ≤ _; rw [ahead_len]; exact HS.out.edges
      go_wp2_with fail
      refine (made_any g mk nk (makerOf m.edges) _ ts _ (blk_cell HBG.out 2) HMM.out HV2.out (by have := HL.out; omega) HZ.out).mono ?_
      rintro e w3 ⟨v3, rfl, r3, b3⟩
      have HR3 := Lib.hid (Ir.is r3)
      obtain ⟨A3, c3, e3⟩ := Kd.R_slice r3
      obtain ⟨n3, hn3⟩ : ∃ n3, n3 = (ints (madeF (makerOf m.edges) ts)).length := ⟨_, rfl⟩
      rw [← hn3] at e3
      subst e3
      have HB3 := Lib.hid (HB2.out.trans (b3.mono HB2.out.size))
      have HBG3 := Lib.hid ((b3.block _ (blk_lt HBG.out)).trans HBG.out)
      have HA3 := Lib.hid (HA2.out.below b3)
      have HE3 := Lib.hid (HE2.out.below b3)
      clear r3 b3 hn3 g2
      obtain ⟨Ae, ce, ee, _, _⟩ := HE3.out.len
      obtain ⟨ne, hne⟩ : ∃ ne, ne = m.edges.length := ⟨_, rfl⟩
      rw [← hne] at ee
      subst ee
      have HNE : Hid ((aheadV m.edges).length = ne) := by show _ = _; rw [ahead_len]; exact hne.symm
      clear hne
      go_wp2_with fail
      refine (reached_any g ne ce Ae va (aheadV m.edges) _ (madeF (makerOf m.edges) ts) _ (blk_cell HBG3.out 0) (blk_cell HBG3.out 3) HA3.out HNE.out HR3.out (by rw [← HNE.out]; exact HFR.out) (by rw [← HNE.out]; exact HKL.out) (by rw [← HNE.out]; have := HAL.out; omega)).mono ?_
      rintro e w4 ⟨v4, l, rfl, hl, r4, b4⟩
      have HIL := Lib.hid hl
      have HR4 := Lib.hid (Ir.is r4)
      obtain ⟨A4, c4, e4⟩ := Kd.R_slice r4
      obtain ⟨n4, hn4⟩ : ∃ n4, n4 = (ints l).length := ⟨_, rfl⟩
      rw [← hn4] at e4
      subst e4
      have HB4 := Lib.hid (HB3.out.trans (b4.mono HB3.out.size))
      have HBG4 := Lib.hid ((b4.block _ (blk_lt HBG3.out)).trans HBG3.out)
      have HA4 := Lib.hid (HA3.out.below b4)
      clear r4 b4 hn4 hl
      go_wp2_with fail
      refine (order_any g va (aheadV m.edges) _ l _ (blk_cell HBG4.out 3) HA4.out HR4.out (by have h1 := HIL.out.len HFR.out HKL.out; have h2 := HAL.out; omega) (HIL.out.lt HFR.out HKL.out) (fun r hr k hk => by have h1 := HKL.out r hr k hk; have h2 := HAL.out; omega) (by have h2 := HAL.out; omega)).mono ?_
      rintro e w5 ⟨v5, rfl, r5, b5⟩
      have HR5 := Lib.hid (Kd.R_lower r5 HB4.out.size)
      have HB5 := Lib.hid (HB4.out.trans (b5.mono HB4.out.size))
      obtain ⟨A5, c5, e5⟩ := Kd.R_slice r5
      obtain ⟨n5, hn5⟩ : ∃ n5, n5 = (ints (orderV (aheadV m.edges) l)).length := ⟨_, rfl⟩
      rw [← hn5] at e5
      subst e5
      clear r5 b5 hn5
      go_wp2
      go_ret2
      exact ⟨.inr ⟨_, l, rfl, HGD.out, HIL.out, HR5.out⟩, HB5.out⟩
end Go.Proofs.Ytifbkojapfighaa.Gr
