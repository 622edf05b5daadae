/- bellowsref13.Above, .Targets (walks). -/
import Derived.Test.YtifbkojapfighaaGrRefA
namespace Go.Proofs.Ytifbkojapfighaa.Gr
open Go.RowKit Go.Proofs.YtifbkojapfighaaW.PrintWords Go.Proofs.YtifbkojapfighaaW.PrintLast Go.Proofs.Ytifbkojapfighaa.Base Go.Maps
set_option linter.unusedVariables false
set_option linter.unusedSimpArgs false
/-- The outputs of the edges that are told, in order. -/
theorem above_told {es : List EdgeV} (hnd : (allOuts es).Nodup) {k : Nat} {f : Nat → Bool} {lr : List Nat} (hf : ∀ b, b < es.length → (f b = true ↔ TC (Ed (aheadV es)) k b)) (hr : IsReach (aheadV es) ((aheadV es).getD k []) lr) : sortS (outsOf es lr) = putAll [] (outsOf es ((List.range es.length).filter f)) :=
  above_same hnd (fun n => by
    rw [List.mem_filter, List.mem_range]
    constructor
    · rintro ⟨h1, h2⟩
      exact (hf n h1).1 h2
    · intro h
      exact ⟨tc_lt h, (hf n (tc_lt h)).2 h⟩) hr
theorem range_filter_snoc (f : Nat → Bool) (k : Nat) : (List.range (k + 1)).filter f = if f k = true then (List.range k).filter f ++ [k] else (List.range k).filter f := by
  rw [List.range_succ, List.filter_append]
  cases h : f k <;> simp [h]
theorem outs_of_len {es : List EdgeV} {f : Nat → Bool} {k j : Nat} (hk : k < es.length) : (outsOf es ((List.range k).filter f)).length + ((es.getD k zedge).outs.take j).length ≤ (allOuts es).length := by
  obtain ⟨r, hr⟩ := allOuts_take_sub es k j hk
  have h2 := congrArg List.length hr
  rw [List.length_append, List.length_append] at h2
  have h3 : (outsOf es ((List.range k).filter f)).length ≤ (allOuts (es.take k)).length := by
    clear r hr h2
    induction k with
    | zero => exact Nat.zero_le _
    | succ k ih =>
      have h1 := ih (by omega)
      rw [range_filter_snoc, (take_at es zedge k (by omega)).1, allOuts_snoc, List.length_append]
      split
      · rw [outsOf_snoc, List.length_append]; omega
      · omega
  omega
set_option maxRecDepth 100000 in
set_option maxHeartbeats 4000000 in
theorem rabove_any (v : Value) (m : ManV) (i0 : Nat) (w : World) (ve vd : Value) (hv : v = .agg #[ve, vd]) (hE : Ez w ve m.edges) (hn30 : m.edges.length ≤ 1000) (hs : ∀ e ∈ m.edges, SmallE e) (hl : (allOuts m.edges).length ≤ 1000000) (hi0 : i0 < m.edges.length) :
    Calls Try.prog 34 #[v, .int .i64 i0] w fun e w' => (∃ v' f, e = .returned v' ∧ (∀ b, b < m.edges.length → (f b = true ↔ TC (Ed (aheadV m.edges)) i0 b)) ∧ Ss w' v' (putAll [] (outsOf m.edges ((List.range m.edges.length).filter f)))) ∧ Below w.heap.size w w' := by
  have HL : Hid ((allOuts m.edges).length ≤ 1000000) := hl
  have HS := Lib.hid hs
  have HI0 : Hid (i0 < m.edges.length) := hi0
  have H30 : Hid (m.edges.length ≤ 1000) := hn30
  clear hl hs hi0 hn30
  subst hv
  obtain ⟨Ae, ce, rfl, hce, hme⟩ := hE.len
  obtain ⟨n, hn⟩ : ∃ n, n = m.edges.length := ⟨_, rfl⟩
  rw [← hn] at hce hme hE ⊢
  obtain ⟨x, hx⟩ : ∃ x, w.heap.size = x := ⟨_, rfl⟩
  obtain ⟨w1, hw1⟩ : ∃ w1, w1 = w.alloc (.cells #[.slice Ae n ce, vd] 25) := ⟨_, rfl⟩
  have hb1 : Below w.heap.size w w1 := by rw [hw1]; exact below_alloc (Below.refl _ _) _
  have hX : w1.heap[x]? = some (.cells #[.slice Ae n ce, vd] 25 (0, 0)) := by rw [hw1, ← hx]; exact blk_new w _
  have HX := Lib.hid hX
  have HE1 := Lib.hid (hE.below hb1)
  have HB1 := Lib.hid hb1
  have HW := Lib.hid hw1
  have HN := Lib.hid hn
  have q0 := (show w1.cell? ⟨x, 0, none⟩ = some (.slice Ae n ce) from blk_cell hX 0)
  have q1 := (show w1.cell? ⟨x, 1, none⟩ = some vd from blk_cell hX 1)
  clear hE hb1 hX hw1 hn
  go_enter Try.func34, Try.ntmps34
  go_upto_region 1 with (fail)
  rw [← HW.out]
  try rw [hx]
  clear hx
  go_wp2_with fail
  refine (below_any _ m _ _ _ rfl HE1.out H30.out HS.out).mono ?_
  rintro e w2 ⟨gb, r, M, rfl, hgr, hM⟩
  rw [← HN.out] at hgr hM ⊢
  have HGR := Lib.hid hgr
  have HMM : Hid (∀ b, b < n → (M i0 b = true ↔ TC (Ed (aheadV m.edges)) i0 b)) := fun b hb => hM i0 b (by have := HI0.out; rwa [← HN.out] at this) hb
  have hb2 := hgr.below
  have HB2 := Lib.hid (HB1.out.trans (hb2.mono HB1.out.size))
  have HX2 := Lib.hid ((hb2.block x (blk_lt HX.out)).trans HX.out)
  have HE2 := Lib.hid (HE1.out.below hb2)
  have hi0n : i0 < n := by have := HI0.out; rwa [← HN.out] at this
  have HGC := Lib.hid (hgr.cell hi0n)
  have HGB : Hid (∀ j, j < n → w2.cell? ⟨r i0, j, none⟩ = some (.bool (M i0 j))) := fun j hj => hgr.bit hi0n hj
  obtain ⟨rk, hrk⟩ : ∃ rk, rk = r i0 := ⟨_, rfl⟩
  rw [← hrk] at HGC HGB
  clear hgr hM hb2 hrk q0 q1
  go_wp2
  --S1
  go_loopw [6, 7] (fun v i wr => ∃ k : Nat, k ≤ n ∧ i = .int .i64 k ∧ Hid (Ss wr v (putAll [] (outsOf m.edges ((List.range k).filter (M i0))))) ∧ Hid (Below w2.heap.size w2 wr)) (fun _ i _ => n - (intOf i).toNat)
  case atStart => exact ⟨0, by omega, rfl, ss_nil _, Below.refl _ _⟩
  case round =>
    obtain ⟨k, hk, rfl, HV, HB⟩ := hrel
    obtain ⟨Av, cv, ev, _, _⟩ := ss_len HV.out
    obtain ⟨nv, hnv⟩ : ∃ nv, nv = (putAll [] (outsOf m.edges ((List.range k).filter (M i0)))).length := ⟨_, rfl⟩
    rw [← hnv] at ev
    subst ev
    clear hnv
    have q0 := (show wr.cell? ⟨x, 0, none⟩ = some (.slice Ae n ce) from blk_cell ((HB.out.block x (blk_lt HX2.out)).trans HX2.out) 0)
    by_cases l1 : k < n
    · have hkl : k < m.edges.length := by rw [← HN.out]; exact l1
      obtain ⟨ad, vo, vi, vm, vr, e7, p0, p1, p2, p3, p4, p5, hec⟩ := (HE2.out.below HB.out).get k hkl
      subst e7
      have HOL : Hid (∀ j, (outsOf m.edges ((List.range k).filter (M i0))).length + ((m.edges.getD k zedge).outs.take j).length ≤ (allOuts m.edges).length) := fun j => outs_of_len hkl
      have HSN : Hid (outsOf m.edges ((List.range (k + 1)).filter (M i0)) = if M i0 k = true then outsOf m.edges ((List.range k).filter (M i0)) ++ (m.edges.getD k zedge).outs else outsOf m.edges ((List.range k).filter (M i0))) := by
        show _ = _
        rw [range_filter_snoc]
        split
        · rw [outsOf_snoc]
        · rfl
      obtain ⟨lo, hlo⟩ : ∃ lo, lo = (m.edges.getD k zedge).outs := ⟨_, rfl⟩
      have hso := hec.1
      rw [← hlo] at hso HOL HSN
      obtain ⟨Ao, co, rfl, hco, hmo⟩ := ss_len hso
      obtain ⟨no, hno⟩ : ∃ no, no = lo.length := ⟨_, rfl⟩
      rw [← hno] at p0 hco hmo hso
      have HSO := Lib.hid hso
      have HNO := Lib.hid hno
      have Z0 := Lib.hid q0
      have Z1 := Lib.hid p0
      have Z2 := Lib.hid (pw_cell_below HB.out HGC.out)
      have Z3 := Lib.hid (pw_cell_below HB.out (HGB.out k l1))
      obtain ⟨b, hb⟩ : ∃ b, b = M i0 k := ⟨_, rfl⟩
      rw [← hb] at Z3 HSN
      clear hec hso hlo hno hkl p1 p2 p3 p4 p5 hb
      go_wp2
      clear q0 p0
      obtain ⟨wo, hwo⟩ : ∃ wo, wo = wr := ⟨_, rfl⟩
      subst hwo
      --S2
      go_loopw [6, 8] (fun v i wr => ∃ j : Nat, j ≤ no ∧ (b = false → j = 0) ∧ i = .int .i64 j ∧ Hid (Ss wr v (putAll [] (outsOf m.edges ((List.range k).filter (M i0)) ++ lo.take j))) ∧ Hid (Below wo.heap.size wo wr)) (fun _ i _ => no - (intOf i).toNat)
      case atStart => exact ⟨0, by omega, fun _ => rfl, rfl, by rw [List.take_zero, List.append_nil]; exact HV.out, Below.refl _ _⟩
      case round =>
        clear HV
        obtain ⟨j, hj, hjb, rfl, HV, HBJ⟩ := hrel
        obtain ⟨Av, cv, ev, _, _⟩ := ss_len HV.out
        obtain ⟨nv, hnv⟩ : ∃ nv, nv = (putAll [] (outsOf m.edges ((List.range k).filter (M i0)) ++ lo.take j)).length := ⟨_, rfl⟩
        rw [← hnv] at ev
        subst ev
        have HJB := Lib.hid hjb
        clear hnv hjb
        have q0 := pw_cell_below HBJ.out Z0.out
        have p0 := pw_cell_below HBJ.out Z1.out
        have q2 := pw_cell_below HBJ.out Z2.out
        have q3 := pw_cell_below HBJ.out Z3.out
        have HFIN : Hid ((b = false ∨ j = no) → putAll [] (outsOf m.edges ((List.range k).filter (M i0)) ++ lo.take j) = putAll [] (outsOf m.edges ((List.range (k + 1)).filter (M i0)))) := fun h => by
          rw [HSN.out]
          cases hb : b with
          | false => rw [if_neg (by simp), HJB.out hb, List.take_zero, List.append_nil]
          | true =>
            rw [hb] at h
            rcases h with h | h
            · cases h
            · rw [if_pos rfl, h, HNO.out, List.take_length]
        have HBF := Lib.hid (HB.out.trans (HBJ.out.mono HB.out.size))
        by_cases l2 : j < no
        · cases b with
          | true =>
            have hjl : j < lo.length := by rw [← HNO.out]; exact l2
            obtain ⟨ado, e8, qs⟩ := ss_get (HSO.out.below HBJ.out) j hjl
            subst e8
            have HPT : Hid (putAll [] (outsOf m.edges ((List.range k).filter (M i0)) ++ lo.take (j + 1)) = putS (putAll [] (outsOf m.edges ((List.range k).filter (M i0)) ++ lo.take j)) (lo.getD j ByteArray.empty)) := by
              show _ = _
              rw [putAll_append, putAll_append, putAll_take' _ _ _ hjl]
            obtain ⟨s, hs⟩ : ∃ s, s = lo.getD j ByteArray.empty := ⟨_, rfl⟩
            rw [← hs] at qs HPT
            have HLW : Hid ((putAll [] (outsOf m.edges ((List.range k).filter (M i0)) ++ lo.take j)).length ≤ 1000000) := by
              have h1 := putAll_len (outsOf m.edges ((List.range k).filter (M i0)) ++ lo.take j) []
              have h2 := HOL.out j
              have h3 := HL.out
              rw [List.length_append] at h1
              simp only [List.length_nil] at h1
              show _ ≤ _
              omega
            clear hjl hs
            go_wp2_with fail
            refine (rput_any _ _ s _ HV.out (putAll_up _ _ up_nil) HLW.out).mono ?_
            rintro e w7 ⟨v7, rfl, r7, b7⟩
            have HR7 : Hid (Ss w7 v7 (putAll [] (outsOf m.edges ((List.range k).filter (M i0)) ++ lo.take (j + 1)))) := by show Ss _ _ _; rw [HPT.out]; exact r7
            have HB7 := Lib.hid (HBJ.out.trans (b7.mono HBJ.out.size))
            clear r7 b7 qs q0 p0 q2 q3
            go_wp2
            go_roundw
            case rel => exact ⟨j + 1, by omega, fun h => (by cases h), by go_num, HR7.out, HB7.out⟩
            case measure => simp [intOf]; omega
          | false =>
            have HVF : Hid (Ss wr (.slice Av nv cv) (putAll [] (outsOf m.edges ((List.range (k + 1)).filter (M i0))))) := by show Ss _ _ _; rw [← HFIN.out (.inl rfl)]; exact HV.out
            clear HV
            go_wp2
            clear q0 p0 q2 q3
            go_roundw
            case rel => exact ⟨k + 1, by omega, by go_num, HVF.out, HBF.out⟩
            case measure => simp [intOf]; omega
        · have hj2 : j = no := by omega
          have HVF : Hid (Ss wr (.slice Av nv cv) (putAll [] (outsOf m.edges ((List.range (k + 1)).filter (M i0))))) := by show Ss _ _ _; rw [← HFIN.out (.inr hj2)]; exact HV.out
          clear hj2 HV
          go_wp2
          clear q0 p0 q2 q3
          go_roundw
          case rel => exact ⟨k + 1, by omega, by go_num, HVF.out, HBF.out⟩
          case measure => simp [intOf]; omega
    · have hk2 : k = n := by omega
      have HVF : Hid (Ss wr (.slice Av nv cv) (putAll [] (outsOf m.edges ((List.range n).filter (M i0))))) := by
        have h := HV.out
        rw [hk2] at h
        exact h
      have HBF := Lib.hid (HB2.out.trans (HB.out.mono HB2.out.size))
      clear hk2 HV
      go_wp2
      go_ret
      exact ⟨⟨_, M i0, rfl, HMM.out, HVF.out⟩, HBF.out⟩
/-- What is made, if nothing is told. -/
def targF (es : List EdgeV) (l : List ByteArray) : List ByteArray := l.filter fun s => decide (s ∉ allNeeds es)
theorem targF_snoc (es : List EdgeV) (l : List ByteArray) (s : ByteArray) : targF es (l ++ [s]) = if s ∈ allNeeds es then targF es l else targF es l ++ [s] := by
  unfold targF
  rw [List.filter_append]
  by_cases h : s ∈ allNeeds es <;> simp [h]
def targetsV (m : ManV) : List ByteArray := if m.defs.length = 0 then targF m.edges (allOuts m.edges) else m.defs
set_option maxRecDepth 100000 in
set_option maxHeartbeats 8000000 in
theorem rtargets_any (v : Value) (m : ManV) (w : World) (ve vd : Value) (hv : v = .agg #[ve, vd]) (hE : Ez w ve m.edges) (hD : Ss w vd m.defs) (hs : ∀ e ∈ m.edges, SmallE e) (hl : (allOuts m.edges).length ≤ 1000000) :
    Calls Try.prog 30 #[v] w fun e w' => (∃ v', e = .returned v' ∧ Ss w' v' (targetsV m)) ∧ Below w.heap.size w w' := by
  have HL : Hid ((allOuts m.edges).length ≤ 1000000) := hl
  have HS := Lib.hid hs
  have HD := Lib.hid hD
  obtain ⟨Ad, cd, rfl, hcd, hmd⟩ := ss_len hD
  obtain ⟨nd, hnd⟩ : ∃ nd, nd = m.defs.length := ⟨_, rfl⟩
  rw [← hnd] at hcd hmd hv HD
  have HND := Lib.hid hnd
  clear hl hs hD hnd
  subst hv
  obtain ⟨Ae, ce, rfl, hce, hme⟩ := hE.len
  obtain ⟨n, hn⟩ : ∃ n, n = m.edges.length := ⟨_, rfl⟩
  rw [← hn] at hce hme hE ⊢
  obtain ⟨x, hx⟩ : ∃ x, w.heap.size = x := ⟨_, rfl⟩
  obtain ⟨w1, hw1⟩ : ∃ w1, w1 = w.alloc (.cells #[.slice Ae n ce, .slice Ad nd cd] 25) := ⟨_, rfl⟩
  have hb1 : Below w.heap.size w w1 := by rw [hw1]; exact below_alloc (Below.refl _ _) _
  have hX : w1.heap[x]? = some (.cells #[.slice Ae n ce, .slice Ad nd cd] 25 (0, 0)) := by rw [hw1, ← hx]; exact blk_new w _
  have HX := Lib.hid hX
  have HE1 := Lib.hid (hE.below hb1)
  have HB1 := Lib.hid hb1
  have HW := Lib.hid hw1
  have HN := Lib.hid hn
  have q0 := (show w1.cell? ⟨x, 0, none⟩ = some (.slice Ae n ce) from blk_cell hX 0)
  have q1 := (show w1.cell? ⟨x, 1, none⟩ = some (.slice Ad nd cd) from blk_cell hX 1)
  clear hE hb1 hX hw1 hn
  go_enter Try.func30, Try.ntmps30
  go_upto_region 1 with (fail)
  rw [← HW.out]
  try rw [hx]
  clear hx
  by_cases nd0 : nd = 0
  case neg =>
    have c1 : decide (0 < nd) = true := decide_eq_true (by omega)
    have HT : Hid (targetsV m = m.defs) := if_neg (by rw [← HND.out]; exact nd0)
    have HD1 := Lib.hid (HD.out.below HB1.out)
    go_wp2
    go_ret
    exact ⟨⟨_, rfl, by rw [HT.out]; exact HD1.out⟩, HB1.out⟩
  have c1 : decide (0 < nd) = false := decide_eq_false (by omega)
  have HT : Hid (targetsV m = targF m.edges (allOuts m.edges)) := if_pos (by rw [← HND.out]; exact nd0)
  clear nd0
  go_wp2
  clear c1 q0 q1
  --S3
  go_loopw [3, 4] (fun v i wr => ∃ k : Nat, k ≤ n ∧ i = .int .i64 k ∧ Hid (Kd.string.R 9 wr w1.heap.size (fun _ => True) v (targF m.edges (allOuts (m.edges.take k)))) ∧ Hid (Below w1.heap.size w1 wr)) (fun _ i _ => n - (intOf i).toNat)
  case atStart => exact ⟨0, by omega, rfl, Kd.R_nil _ _ _ _ _, Below.refl _ _⟩
  case round =>
    obtain ⟨k, hk, rfl, HV, HB⟩ := hrel
    obtain ⟨Av, cv, ev⟩ := Kd.R_slice HV.out
    obtain ⟨nv, hnv⟩ : ∃ nv, nv = (targF m.edges (allOuts (m.edges.take k))).length := ⟨_, rfl⟩
    rw [← hnv] at ev
    subst ev
    clear hnv
    have q0 := (show wr.cell? ⟨x, 0, none⟩ = some (.slice Ae n ce) from blk_cell ((HB.out.block x (blk_lt HX.out)).trans HX.out) 0)
    by_cases l1 : k < n
    · have hkl : k < m.edges.length := by rw [← HN.out]; exact l1
      obtain ⟨ad, vo, vi, vm, vr, e7, p0, p1, p2, p3, p4, p5, hec⟩ := HE1.out.get k hkl
      subst e7
      have HSUB : Hid (∀ j, ∃ r, allOuts m.edges = (allOuts (m.edges.take k) ++ (m.edges.getD k zedge).outs.take j) ++ r) := fun j => allOuts_take_sub m.edges k j hkl
      have HSN : Hid (allOuts (m.edges.take (k + 1)) = allOuts (m.edges.take k) ++ (m.edges.getD k zedge).outs) := by show _ = _; rw [(take_at m.edges zedge k hkl).1, allOuts_snoc]
      obtain ⟨lo, hlo⟩ : ∃ lo, lo = (m.edges.getD k zedge).outs := ⟨_, rfl⟩
      have hso := hec.1
      rw [← hlo] at hso HSUB HSN
      obtain ⟨Ao, co, rfl, hco, hmo⟩ := ss_len hso
      obtain ⟨no, hno⟩ : ∃ no, no = lo.length := ⟨_, rfl⟩
      rw [← hno] at p0 hco hmo hso
      have HSO := Lib.hid hso
      have HNO := Lib.hid hno
      have Z1 := Lib.hid p0
      clear hec hso hlo hno hkl p0 p1 p2 p3 p4 p5
      go_wp2
      clear q0
      --S4
      go_loopw [3, 5] (fun v i wr => ∃ j : Nat, j ≤ no ∧ i = .int .i64 j ∧ Hid (Kd.string.R 9 wr w1.heap.size (fun _ => True) v (targF m.edges (allOuts (m.edges.take k) ++ lo.take j))) ∧ Hid (Below w1.heap.size w1 wr)) (fun _ i _ => no - (intOf i).toNat)
      case atStart => exact ⟨0, by omega, rfl, by rw [List.take_zero, List.append_nil]; exact HV.out, HB.out⟩
      case round =>
        clear HV
        obtain ⟨j, hj, rfl, HV, HBJ⟩ := hrel
        obtain ⟨Av, cv, ev⟩ := Kd.R_slice HV.out
        obtain ⟨nv, hnv⟩ : ∃ nv, nv = (targF m.edges (allOuts (m.edges.take k) ++ lo.take j)).length := ⟨_, rfl⟩
        rw [← hnv] at ev
        subst ev
        have hnv6 : nv ≤ 1000000 := by
          obtain ⟨r, hr⟩ := HSUB.out j
          have h1 : (targF m.edges (allOuts (m.edges.take k) ++ lo.take j)).length ≤ (allOuts (m.edges.take k) ++ lo.take j).length := List.length_filter_le _ _
          have h2 := congrArg List.length hr
          rw [List.length_append] at h2
          have h3 := HL.out
          omega
        have HNV := Lib.hid hnv
        have q0 := (show wr.cell? ⟨x, 0, none⟩ = some (.slice (some ad) n ce) from blk_cell ((HBJ.out.block x (blk_lt HX.out)).trans HX.out) 0)
        have p0 := pw_cell_below HBJ.out Z1.out
        clear hnv
        by_cases l2 : j < no
        · have hjl : j < lo.length := by rw [← HNO.out]; exact l2
          obtain ⟨ado, e8, qs⟩ := ss_get (HSO.out.below HBJ.out) j hjl
          subst e8
          have HTJ := Lib.hid (take_at lo ByteArray.empty j hjl)
          obtain ⟨s, hs⟩ : ∃ s, s = lo.getD j ByteArray.empty := ⟨_, rfl⟩
          rw [← hs] at qs HTJ
          obtain ⟨w5, hw5⟩ : ∃ w5, w5 = wr := ⟨_, rfl⟩
          subst hw5
          have HW5 : Hid (Below w5.heap.size w5 w5) := Below.refl _ _
          clear hjl hs
          go_wp2
          clear qs q0 p0
          --S5
          go_loopw [7, 8] (fun u i wr => ∃ y : Nat, y ≤ n ∧ i = .int .i64 y ∧ u = .bool (decide (s ∈ allNeeds (m.edges.take y))) ∧ Hid (Below w5.heap.size w5 wr)) (fun _ i _ => n - (intOf i).toNat)
          case atStart => exact ⟨0, by omega, rfl, by simp [allNeeds], Below.refl _ _⟩
          case round =>
            obtain ⟨y, hy, rfl, rfl, HBY⟩ := hrel
            have HB5 := Lib.hid (HBJ.out.trans (HBY.out.mono HBJ.out.size))
            have q0 := (show wr.cell? ⟨x, 0, none⟩ = some (.slice (some ad) n ce) from blk_cell ((HB5.out.block x (blk_lt HX.out)).trans HX.out) 0)
            obtain ⟨b, hb⟩ : ∃ b, b = decide (s ∈ allNeeds (m.edges.take y)) := ⟨_, rfl⟩
            rw [← hb]
            have HBB := Lib.hid hb
            clear hb
            by_cases l3 : y < n
            · have hyl : y < m.edges.length := by rw [← HN.out]; exact l3
              have HSY := Lib.hid (allNeeds_snoc m.edges y hyl)
              have HSE := Lib.hid (HS.out _ (take_at m.edges zedge y hyl).2)
              obtain ⟨ad', vo, vi, vm, vr, e7, p0, p1, p2, p3, p4, p5, hec⟩ := (HE1.out.below HB5.out).get y hyl
              have e7 := Option.some.inj e7
              subst e7
              generalize m.edges.getD y zedge = ey at p4 p5 hec HSY HSE
              have HEI : Hid (EdIs wr (.agg #[vo, vi, vm, vr, .string ey.cmd, .string ey.dep]) ey) := ⟨_, _, _, _, rfl, hec⟩
              clear hec hyl
              cases b with
              | true =>
                have HD2 : Hid (decide (s ∈ allNeeds (m.edges.take (y + 1))) = true) := decide_eq_true (by rw [HSY.out]; exact List.mem_append_left _ (of_decide_eq_true HBB.out.symm))
                go_wp2
                clear q0 p0 p1 p2 p3 p4 p5
                go_roundw
                case rel => exact ⟨y + 1, by omega, by go_num, by rw [HD2.out], HBY.out⟩
                case measure => simp [intOf]; omega
              | false =>
                go_wp2_with fail
                refine (rneeds_any _ ey _ HEI.out HSE.out).mono ?_
                rintro e w7 ⟨v7, rfl, r7, b7⟩
                have HS7 := Lib.hid (r_ss r7)
                have HB7 := Lib.hid (HBY.out.trans (b7.mono HBY.out.size))
                obtain ⟨A7, c7, e7⟩ := Kd.R_slice r7
                obtain ⟨n7, hn7⟩ : ∃ n7, n7 = (needsV ey).length := ⟨_, rfl⟩
                rw [← hn7] at e7
                subst e7
                clear r7 b7 hn7 q0 p0 p1 p2 p3 p4 p5
                go_wp2_with fail
                refine (in_any _ _ s _ HS7.out).mono ?_
                rintro e w8 ⟨rfl, hw8⟩
                have hw8 := hw8.symm
                subst hw8
                have HD2 : Hid (decide (s ∈ allNeeds (m.edges.take (y + 1))) = decide (s ∈ needsV ey)) := by
                  show _ = _
                  have h := of_decide_eq_false HBB.out.symm
                  rw [HSY.out, Bool.eq_iff_iff, decide_eq_true_iff, decide_eq_true_iff, List.mem_append]
                  exact ⟨fun h2 => h2.resolve_left h, .inr⟩
                obtain ⟨b2, hb2⟩ : ∃ b2, b2 = decide (s ∈ needsV ey) := ⟨_, rfl⟩
                rw [← hb2] at HD2 ⊢
                clear hb2
                go_wp2
                go_roundw
                case rel => exact ⟨y + 1, by omega, by go_num, by rw [HD2.out], HB7.out⟩
                case measure => simp [intOf]; omega
            · have hy2 : y = n := by omega
              have HBF : Hid (b = decide (s ∈ allNeeds m.edges)) := by
                have h := HBB.out
                rw [hy2, HN.out, List.take_length] at h
                exact h
              have HVY := Lib.hid (Kd.R_below HV.out HBY.out)
              have HST : Hid (targF m.edges (allOuts (m.edges.take k) ++ lo.take (j + 1)) = if b = true then targF m.edges (allOuts (m.edges.take k) ++ lo.take j) else targF m.edges (allOuts (m.edges.take k) ++ lo.take j) ++ [s]) := by
                show _ = _
                rw [HTJ.out.1, ← List.append_assoc, targF_snoc, HBF.out]
                by_cases h : s ∈ allNeeds m.edges <;> simp [h]
              clear hy2 HBB
              cases b with
              | true =>
                have HV9 : Hid (Kd.string.R 9 wr w1.heap.size (fun _ => True) (.slice Av nv cv) (targF m.edges (allOuts (m.edges.take k) ++ lo.take (j + 1)))) := by show Kd.string.R _ _ _ _ _ _; rw [HST.out]; exact HVY.out
                clear HVY
                go_wp2
                clear q0
                go_roundw
                case rel => exact ⟨j + 1, by omega, by go_num, HV9.out, HB5.out⟩
                case measure => simp [intOf]; omega
              | false =>
                go_wp2_with (at_builtin; refine Held.of ?_)
                refine Held.out (Kd.R_append Kd.string (w0 := w1) w1.heap.size rfl (.tmp 62) (.tmp 64) 23 9 (.string ⟨#[]⟩) 16 rfl Try.underlying23 (by kernel_rfl) rfl (by decide) (by decide) _ (targF m.edges (allOuts (m.edges.take k) ++ lo.take j)) s [.string s] (fun _ => True) (fun _ => False) rfl rfl rfl (fun _ h => h.elim) (fun _ _ => trivial) HVY.out HB5.out HB5.out.size (by have h := HNV.out; omega) ?_)
                intro v9 w9 r9 b9 _ _
                have HV9 : Hid (Kd.string.R 9 w9 w1.heap.size (fun _ => True) v9 (targF m.edges (allOuts (m.edges.take k) ++ lo.take (j + 1)))) := by show Kd.string.R _ _ _ _ _ _; rw [HST.out]; exact r9
                have HB9 := Lib.hid b9
                clear r9 b9 HVY q0
                go_wp2
                go_roundw
                case rel => exact ⟨j + 1, by omega, by go_num, HV9.out, HB9.out⟩
                case measure => simp [intOf]; omega
        · have hj2 : j = no := by omega
          have HVF : Hid (Kd.string.R 9 wr w1.heap.size (fun _ => True) (.slice Av nv cv) (targF m.edges (allOuts (m.edges.take (k + 1))))) := by
            have h := HV.out
            rw [hj2, HNO.out, List.take_length, ← HSN.out] at h
            exact h
          clear hj2 HV
          go_wp2
          clear q0 p0
          go_roundw
          case rel => exact ⟨k + 1, by omega, by go_num, HVF.out, HBJ.out⟩
          case measure => simp [intOf]; omega
    · have hk2 : k = n := by omega
      have HVF : Hid (Ss wr (.slice Av nv cv) (targetsV m)) := by
        have h := r_ss HV.out
        rw [hk2, HN.out, List.take_length, ← HT.out] at h
        exact h
      have HBF := Lib.hid (HB1.out.trans (HB.out.mono HB1.out.size))
      clear hk2 HV
      go_wp2
      go_ret
      exact ⟨⟨_, rfl, HVF.out⟩, HBF.out⟩
end Go.Proofs.Ytifbkojapfighaa.Gr
