/- bellowsref13.Wrong (walk). -/
import Derived.Test.YtifbkojapfighaaGrBelow
import Derived.Test.YtifbkojapfighaaGrMans
namespace Go.Proofs.Ytifbkojapfighaa.Gr
open Go.RowKit Go.Proofs.YtifbkojapfighaaW.PrintWords Go.Proofs.YtifbkojapfighaaW.PrintLast Go.Proofs.Ytifbkojapfighaa.Base Go.Maps
set_option linter.unusedVariables false
set_option linter.unusedSimpArgs false

/-- What is wrong of a manifest. -/
structure WrongC (es : List EdgeV) (c : Nat) : Prop where
  any : (c = 11 ∧ ¬ (allOuts es).Nodup) ∨ (c = 12 ∧ (allOuts es).Nodup ∧ (orderV (aheadV es) (List.range es.length)).length < es.length) ∨ (c = 0 ∧ (allOuts es).Nodup ∧ ¬ (orderV (aheadV es) (List.range es.length)).length < es.length)
theorem allOuts_take_sub (es : List EdgeV) (k j : Nat) (hk : k < es.length) : ∃ r, allOuts es = (allOuts (es.take k) ++ (es.getD k zedge).outs.take j) ++ r := by
  have h1 : allOuts es = allOuts (es.take (k + 1)) ++ allOuts (es.drop (k + 1)) := by
    unfold allOuts
    rw [← List.flatten_append, ← List.map_append, List.take_append_drop]
  rw [(take_at es zedge k hk).1, allOuts_snoc] at h1
  refine ⟨(es.getD k zedge).outs.drop j ++ allOuts (es.drop (k + 1)), ?_⟩
  rw [h1]
  conv => lhs; rw [← List.take_append_drop j (es.getD k zedge).outs]
  simp only [List.append_assoc]
set_option maxRecDepth 100000 in
set_option maxHeartbeats 8000000 in
theorem wrong_any (v : Value) (m : ManV) (w : World) (ve vd : Value) (hv : v = .agg #[ve, vd]) (hE : Ez w ve m.edges) (hs : SmallM m) (hn30 : m.edges.length ≤ 1000) :
    Calls Try.prog 13 #[v] w fun e w' => (∃ c : Nat, e = .returned (.int .i64 c) ∧ WrongC m.edges c) ∧ Below w.heap.size w w' := by
  subst hv
  obtain ⟨Ae, ce, rfl, hce, hme⟩ := hE.len
  obtain ⟨n, hn⟩ : ∃ n, n = m.edges.length := ⟨_, rfl⟩
  rw [← hn] at hce hme hE hn30 ⊢
  obtain ⟨x, hx⟩ : ∃ x, w.heap.size = x := ⟨_, rfl⟩
  obtain ⟨w1, hw1⟩ : ∃ w1, w1 = w.alloc (.cells #[.slice Ae n ce, vd] 25) := ⟨_, rfl⟩
  have hb1 : Below w.heap.size w w1 := by rw [hw1]; exact below_alloc (Below.refl _ _) _
  have hX : w1.heap[x]? = some (.cells #[.slice Ae n ce, vd] 25 (0, 0)) := by rw [hw1, ← hx]; exact blk_new w _
  have HX := Lib.hid hX
  have HE1 := Lib.hid (hE.below hb1)
  have HB1 := Lib.hid hb1
  have HW := Lib.hid hw1
  have HN := Lib.hid hn
  have HS := Lib.hid hs
  clear hE hb1 hX hw1 hn hs
  go_enter Try.func13, Try.ntmps13
  go_upto_region 1 with (fail)
  rw [← HW.out]
  try rw [hx]
  clear hx
  go_wp2
  go_loopw [3, 4] (fun l i wr => ∃ k : Nat, k ≤ n ∧ i = .int .i64 k ∧ Hid (Kd.string.R 9 wr w1.heap.size (fun _ => True) l (allOuts (m.edges.take k))) ∧ Hid (Below w1.heap.size w1 wr) ∧ Hid ((allOuts (m.edges.take k)).Nodup)) (fun _ i _ => n - (intOf i).toNat)
  case atStart => exact ⟨0, by omega, rfl, Kd.R_nil _ _ _ _ _, Below.refl _ _, List.nodup_nil⟩
  case round =>
    obtain ⟨k, hk, rfl, HK, HB, HU⟩ := hrel
    have q0 := (show wr.cell? ⟨x, 0, none⟩ = some (.slice Ae n ce) from blk_cell ((HB.out.block x (blk_lt HX.out)).trans HX.out) 0)
    by_cases l1 : k < n
    · have hkl : k < m.edges.length := by rw [← HN.out]; exact l1
      obtain ⟨ad, vo, vi, vm, vr, e1, p0, p1, p2, p3, p4, p5, hec⟩ := HE1.out.get k hkl
      subst e1
      have P0 := Lib.hid p0
      have HTE := Lib.hid (take_at m.edges zedge k hkl)
      have HSE := Lib.hid (HS.out.each _ HTE.out.2)
      have HSUB := Lib.hid (fun j => allOuts_take_sub m.edges k j hkl)
      clear p0 p1 p2 p3 p4 p5 hkl
      generalize m.edges.getD k zedge = e at hec HTE HSE HSUB
      have so := hec.1
      obtain ⟨Ao, co, rfl, _, hmo⟩ := ss_len so
      obtain ⟨no, hno⟩ : ∃ no, no = e.outs.length := ⟨_, rfl⟩
      rw [← hno] at P0 so hmo
      have SO := Lib.hid so
      have HNO := Lib.hid hno
      have ho6 : no ≤ 100000 := by rw [hno]; exact HSE.out.outs
      clear hec so hno
      go_wp2
      clear q0
      go_loopw [3, 5] (fun l i wr => ∃ j : Nat, j ≤ no ∧ i = .int .i64 j ∧ Hid (Kd.string.R 9 wr w1.heap.size (fun _ => True) l (allOuts (m.edges.take k) ++ e.outs.take j)) ∧ Hid (Below w1.heap.size w1 wr) ∧ Hid ((allOuts (m.edges.take k) ++ e.outs.take j).Nodup)) (fun _ i _ => no - (intOf i).toNat)
      case atStart => exact ⟨0, by omega, rfl, by rw [List.take_zero, List.append_nil]; exact HK.out, HB.out, by rw [List.take_zero, List.append_nil]; exact HU.out⟩
      case round =>
        clear HK HB HU
        obtain ⟨j, hj, rfl, HK, HB, HU⟩ := hrel
        have q0 := (show wr.cell? ⟨x, 0, none⟩ = some (.slice (some ad) n ce) from blk_cell ((HB.out.block x (blk_lt HX.out)).trans HX.out) 0)
        have p0 := pw_cell_below HB.out P0.out
        obtain ⟨As, cs, evs⟩ := Kd.R_slice HK.out
        obtain ⟨ns, hns⟩ : ∃ ns, ns = (allOuts (m.edges.take k) ++ e.outs.take j).length := ⟨_, rfl⟩
        rw [← hns] at evs
        subst evs
        have hns6 : ns ≤ 1000000 := by
          obtain ⟨r, hr⟩ := HSUB.out j
          have h1 := HS.out.all
          rw [hr, List.length_append] at h1
          omega
        have HNS := Lib.hid hns
        clear hns
        by_cases l2 : j < no
        · have hjl : j < e.outs.length := by rw [← HNO.out]; exact l2
          obtain ⟨ao, e2, qs⟩ := ss_get (SO.out.below HB.out) j hjl
          subst e2
          have HTJ := Lib.hid (take_at e.outs ByteArray.empty j hjl)
          obtain ⟨s, hs⟩ : ∃ s, s = e.outs.getD j ByteArray.empty := ⟨_, rfl⟩
          rw [← hs] at qs HTJ
          have HSSR := Lib.hid (r_ss HK.out)
          obtain ⟨b, hb⟩ : ∃ b, b = decide (s ∈ allOuts (m.edges.take k) ++ e.outs.take j) := ⟨_, rfl⟩
          have HBD := Lib.hid hb
          clear hjl hs hb
          go_wp2_with fail
          refine (in_any _ _ s _ HSSR.out).mono ?_
          rintro r w3 ⟨rfl, hw3⟩
          have hw3 := hw3.symm
          subst hw3
          rw [← HBD.out]
          cases b with
          | true =>
            have HNU : Hid (¬ (allOuts m.edges).Nodup) := by
              intro h
              obtain ⟨r, hr⟩ := HSUB.out (j + 1)
              rw [hr, HTJ.out.1, ← List.append_assoc, List.nodup_append] at h
              have h2 := (List.nodup_append.1 h.1).2.2 s (of_decide_eq_true HBD.out.symm) s (by simp)
              exact h2 rfl
            go_wp2
            go_ret
            exact ⟨⟨11, rfl, ⟨.inl ⟨rfl, HNU.out⟩⟩⟩, HB1.out.trans (HB.out.mono HB1.out.size)⟩
          | false =>
            have HU2 : Hid ((allOuts (m.edges.take k) ++ e.outs.take (j + 1)).Nodup) := by
              show List.Nodup _
              rw [HTJ.out.1, ← List.append_assoc, List.nodup_append]
              exact ⟨HU.out, by simp, fun a ha b hb e => by rw [List.mem_singleton.1 hb] at e; exact of_decide_eq_false HBD.out.symm (e ▸ ha)⟩
            go_wp2_with (at_builtin; refine Held.of ?_)
            refine Held.out (Kd.R_append Kd.string (w0 := w1) w1.heap.size rfl (.tmp 37) (.tmp 47) 23 9 (.string ⟨#[]⟩) 16 rfl Try.underlying23 (by kernel_rfl) rfl (by decide) (by decide) _ (allOuts (m.edges.take k) ++ e.outs.take j) s [.string s] (fun _ => True) (fun _ => False) rfl rfl rfl (fun _ h => h.elim) (fun _ _ => trivial) HK.out HB.out HB.out.size (by have h := HNS.out; omega) ?_)
            intro v9 w9 r9 b9 _ _
            have HR9 : Hid (Kd.string.R 9 w9 w1.heap.size (fun _ => True) v9 (allOuts (m.edges.take k) ++ e.outs.take (j + 1))) := by
              show Kd.string.R _ _ _ _ _ _
              rw [HTJ.out.1, ← List.append_assoc]
              exact r9
            have HB9 := Lib.hid b9
            clear r9 b9 q0 qs p0
            go_wp2
            go_roundw
            case rel => exact ⟨j + 1, by omega, by go_num, HR9.out, HB9.out, HU2.out⟩
            case measure => simp [intOf]; omega
        · have hj2 : j = no := by omega
          have hte : allOuts (m.edges.take (k + 1)) = allOuts (m.edges.take k) ++ e.outs := by rw [HTE.out.1, allOuts_snoc]
          have HK2 : Hid (Kd.string.R 9 wr w1.heap.size (fun _ => True) (.slice As ns cs) (allOuts (m.edges.take (k + 1)))) := by
            have h := HK.out
            rw [hj2, HNO.out, List.take_length] at h
            show Kd.string.R _ _ _ _ _ _
            rw [hte]
            exact h
          have HU2 : Hid ((allOuts (m.edges.take (k + 1))).Nodup) := by
            have h := HU.out
            rw [hj2, HNO.out, List.take_length] at h
            show List.Nodup _
            rw [hte]
            exact h
          clear hj2 hte
          go_wp2
          go_roundw
          case rel => exact ⟨k + 1, by omega, by go_num, HK2.out, HB.out, HU2.out⟩
          case measure => simp [intOf]; omega
    · have hk2 : k = n := by omega
      have HUF : Hid ((allOuts m.edges).Nodup) := by
        have h := HU.out
        rw [hk2, HN.out, List.take_length] at h
        exact h
      have HEr := Lib.hid (HE1.out.below HB.out)
      have q1 := (show wr.cell? ⟨x, 1, none⟩ = some vd from blk_cell ((HB.out.block x (blk_lt HX.out)).trans HX.out) 1)
      have HBW := Lib.hid (HB1.out.trans (HB.out.mono HB1.out.size))
      clear hk2 HK HU HB
      go_wp2_with fail
      refine (below_any _ m _ _ vd rfl HEr.out (by rw [← HN.out]; exact hn30) HS.out.each).mono ?_
      rintro e w4 ⟨gb, r, M, rfl, hg, hM⟩
      rw [← HN.out] at hg hM ⊢
      have HG := Lib.hid hg
      have HRI : Hid ((orderV (aheadV m.edges) (List.range n)).length < n ↔ ∃ i, i < n ∧ M i i = true) := by
        have hal : (aheadV m.edges).length = n := by unfold aheadV; rw [List.length_map, ← HN.out]
        have h := ring_iff (ah := aheadV m.edges) (fun r hr k hk => by rw [hal, HN.out]; exact ahead_lt m.edges r hr k hk)
        rw [hal] at h
        refine h.trans ⟨fun ⟨i, hi, ht⟩ => ⟨i, hi, (hM i i hi hi).2 ht⟩, fun ⟨i, hi, ht⟩ => ⟨i, hi, (hM i i hi hi).1 ht⟩⟩
      have HB4 := Lib.hid (HBW.out.trans (hg.below.mono HBW.out.size))
      clear hg hM q0 q1 l1 hk
      go_wp2
      go_loopw [7] (fun i wr => ∃ k : Nat, k ≤ n ∧ i = .int .i64 k ∧ wr = w4 ∧ Hid (∀ j, j < k → M j j = false)) (fun i _ => n - (intOf i).toNat)
      case atStart => exact ⟨0, by omega, rfl, rfl, fun j hj => absurd hj (Nat.not_lt_zero _)⟩
      case round =>
        obtain ⟨k, hk, rfl, hwr, HK⟩ := hrel
        have hwr := hwr.symm
        subst hwr
        by_cases l1 : k < n
        · have c1 := HG.out.cell l1
          have c2 := HG.out.bit l1 l1
          obtain ⟨b1, hb1⟩ : ∃ b1, b1 = M k k := ⟨_, rfl⟩
          rw [← hb1] at c2
          have H1 := Lib.hid hb1
          clear hb1
          cases b1 with
          | true =>
            have HSH : Hid ((orderV (aheadV m.edges) (List.range n)).length < n) := HRI.out.2 ⟨k, l1, H1.out.symm⟩
            go_wp2
            go_ret
            exact ⟨⟨12, rfl, ⟨.inr (.inl ⟨rfl, HUF.out, by rw [← HN.out]; exact HSH.out⟩)⟩⟩, HB4.out⟩
          | false =>
            have HK2 : Hid (∀ j, j < k + 1 → M j j = false) := fun j hj => by
              rcases Nat.lt_succ_iff_lt_or_eq.1 hj with h | h
              · exact HK.out j h
              · rw [h]; exact H1.out.symm
            go_wp2
            go_roundw
            case rel => exact ⟨k + 1, by omega, by go_num, trivial, HK2.out⟩
            case measure => simp [intOf]; omega
        · have hk2 : k = n := by omega
          have HSH : Hid (¬ (orderV (aheadV m.edges) (List.range n)).length < n) := by
            intro h
            obtain ⟨i, hi, ht⟩ := HRI.out.1 h
            rw [HK.out i (by omega)] at ht
            cases ht
          clear hk2
          go_wp2
          go_ret
          exact ⟨⟨0, rfl, ⟨.inr (.inr ⟨rfl, HUF.out, by rw [← HN.out]; exact HSH.out⟩)⟩⟩, HB4.out⟩
end Go.Proofs.Ytifbkojapfighaa.Gr
