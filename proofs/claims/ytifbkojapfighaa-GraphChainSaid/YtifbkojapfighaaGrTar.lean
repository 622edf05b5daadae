/- graph.(*Graph).Targets (walk). -/
import Derived.Test.YtifbkojapfighaaGrRefB
namespace Go.Proofs.Ytifbkojapfighaa.Gr
open Go.RowKit Go.Proofs.YtifbkojapfighaaW.PrintWords Go.Proofs.YtifbkojapfighaaW.PrintLast Go.Proofs.Ytifbkojapfighaa.Base Go.Maps
set_option linter.unusedVariables false
set_option linter.unusedSimpArgs false
theorem is_used (y : Nat) (v : Value) (l : List ByteArray) (s : ByteArray) (w : World) (hy : w.cell? ⟨y, 0, none⟩ = some v) (h : Ss w v l) (hu : Up l) (hl : l.length ≤ 4000000000) :
    Calls Try.prog 50 #[.string s, .pointer (some ⟨y, 0, none⟩)] w fun e w' => e = .returned (.bool (decide (s ∈ l))) ∧ w' = w := by
  obtain ⟨A, c, rfl, _, _⟩ := ss_len h
  obtain ⟨n, hn⟩ : ∃ n, n = l.length := ⟨_, rfl⟩
  rw [← hn] at hy h
  have HS := Lib.hid (search_any _ l s w h hu hl)
  clear h hu hl hn
  obtain ⟨b, hb⟩ : ∃ b, b = decide (s ∈ l) := ⟨_, rfl⟩
  rw [← hb] at HS ⊢
  clear hb
  go_enter Try.func50, Try.ntmps50
  go_wp2_with fail
  refine HS.out.mono ?_
  rintro e w3 ⟨⟨ix, rfl⟩, hw3⟩
  have hw3 := hw3.symm
  subst hw3
  clear hy
  go_wp2
  go_ret
  exact ⟨rfl, rfl⟩
theorem targ_eq (es : List EdgeV) : ((allOuts es).filter fun s => !(decide (s ∈ usedV es))) = targF es (allOuts es) := by
  unfold targF
  apply List.filter_congr
  intro s _
  have h := (used_spec es).2.1 s
  by_cases h2 : s ∈ allNeeds es
  · rw [decide_eq_true (h.2 h2)]; simp [h2]
  · rw [decide_eq_false (fun h3 => h2 (h.1 h3))]; simp [h2]
set_option maxRecDepth 100000 in
set_option maxHeartbeats 4000000 in
theorem targets_any (g : Nat) (m : ManV) (w : World) (h : Gx w g m) (hs : SmallG m) :
    Calls Try.prog 25 #[.pointer (some ⟨g, 0, none⟩)] w fun e w' => (∃ v', e = .returned v' ∧ Ss w' v' (targetsV m)) ∧ Below w.heap.size w w' := by
  have HS := Lib.hid hs
  obtain ⟨ve, vd, va, mk, nk, hg, hE, hD, hM, hA⟩ := h
  obtain ⟨Ae, ce, rfl, _, _⟩ := hE.len
  obtain ⟨n, hn⟩ : ∃ n, n = m.edges.length := ⟨_, rfl⟩
  rw [← hn] at hg hE
  obtain ⟨Ad, cd, rfl, _, hmd⟩ := ss_len hD
  obtain ⟨nd, hnd⟩ : ∃ nd, nd = m.defs.length := ⟨_, rfl⟩
  rw [← hnd] at hg hD hmd
  have HBG := Lib.hid hg
  have HE := Lib.hid hE
  have HD := Lib.hid hD
  have HN := Lib.hid hn
  have HND := Lib.hid hnd
  have hn4 : n ≤ 10000 := by rw [hn]; exact hs.edges
  have g0 := (show w.cell? ⟨g, 0, none⟩ = some (.slice Ae n ce) from blk_cell hg 0)
  have g1 := (show w.cell? ⟨g, 1, none⟩ = some (.slice Ad nd cd) from blk_cell hg 1)
  clear hg hE hD hM hA hn hnd hs
  by_cases nd0 : nd = 0
  case neg =>
    have c1 : decide (0 < nd) = true := decide_eq_true (by omega)
    have HT : Hid (targetsV m = m.defs) := if_neg (by rw [← HND.out]; exact nd0)
    go_enter Try.func25, Try.ntmps25
    go_wp2_with fail
    refine (clone_strs _ m.defs _ HD.out (by have := HS.out.defs; omega)).mono ?_
    rintro e w2 ⟨v2, rfl, r2, b2⟩
    have HR2 := Lib.hid (r_ss r2)
    have HB2 := Lib.hid b2
    clear r2 b2 g0 g1 c1
    go_wp2
    go_ret
    exact ⟨⟨_, rfl, by rw [HT.out]; exact HR2.out⟩, HB2.out⟩
  have c1 : decide (0 < nd) = false := decide_eq_false (by omega)
  have HT : Hid (targetsV m = targF m.edges (allOuts m.edges)) := if_pos (by rw [← HND.out]; exact nd0)
  clear nd0
  go_enter Try.func25, Try.ntmps25
  go_wp2_with fail
  refine (used_any g _ m.edges w (blk_cell HBG.out 0) HE.out HS.out.each HS.out.needs).mono ?_
  rintro e w2 ⟨v2, rfl, r2, b2⟩
  obtain ⟨A2, c2, e2⟩ := Kd.R_slice r2
  obtain ⟨n2, hn2⟩ : ∃ n2, n2 = (usedV m.edges).length := ⟨_, rfl⟩
  rw [← hn2] at e2
  subst e2
  obtain ⟨y, hy⟩ : ∃ y, w2.heap.size = y := ⟨_, rfl⟩
  obtain ⟨w3, hw3⟩ : ∃ w3, w3 = w2.alloc (.cells #[.slice A2 n2 c2] 23) := ⟨_, rfl⟩
  have hb3 : Below w2.heap.size w2 w3 := by rw [hw3]; exact below_alloc (Below.refl _ _) _
  have HY3 : Hid (w3.heap[y]? = some (.cells #[.slice A2 n2 c2] 23 (0, 0))) := by show _ = _; rw [hw3, ← hy]; exact blk_new w2 _
  have HS3 := Lib.hid ((r_ss r2).below hb3)
  have HB3 := Lib.hid (b2.trans (hb3.mono b2.size))
  have HBG3 := Lib.hid (((b2.trans (hb3.mono b2.size)).block _ (blk_lt HBG.out)).trans HBG.out)
  have HE3 := Lib.hid (HE.out.below (b2.trans (hb3.mono b2.size)))
  have HW3 := Lib.hid hw3
  have g3 := (show w3.cell? ⟨g, 0, none⟩ = some (.slice Ae n ce) from blk_cell HBG3.out 0)
  clear r2 b2 hn2 hb3 hw3 g0 g1 c1
  go_upto_region 6 with (fail)
  rw [← HW3.out]
  try rw [hy]
  clear hy
  go_wp2
  clear g3
  --S1
  go_loopw [4, 30] (fun s i wr => ∃ k : Nat, k ≤ n ∧ i = .int .i64 k ∧ Hid (Kd.string.R 9 wr w3.heap.size (fun _ => True) s (allOuts (m.edges.take k))) ∧ Hid (Below w3.heap.size w3 wr)) (fun _ i _ => n - (intOf i).toNat)
  case atStart => exact ⟨0, by omega, rfl, Kd.R_nil _ _ _ _ _, Below.refl _ _⟩
  case round =>
    obtain ⟨k, hk, rfl, HK, HB⟩ := hrel
    obtain ⟨As, cs, evs⟩ := Kd.R_slice HK.out
    obtain ⟨ns, hns⟩ : ∃ ns, ns = (allOuts (m.edges.take k)).length := ⟨_, rfl⟩
    rw [← hns] at evs
    subst evs
    have HNS := Lib.hid hns
    clear hns
    by_cases l1 : k < n
    · have hkl : k < m.edges.length := by rw [← HN.out]; exact l1
      obtain ⟨ad, vo, vi, vm, vr, e1, p0, p1, p2, p3, p4, p5, hec⟩ := (HE3.out.below HB.out).get k hkl
      subst e1
      have HSN : Hid (allOuts (m.edges.take (k + 1)) = allOuts (m.edges.take k) ++ (m.edges.getD k zedge).outs) := by show _ = _; rw [(take_at m.edges zedge k hkl).1, allOuts_snoc]
      have HSUB : Hid ((allOuts (m.edges.take (k + 1))).length ≤ (allOuts m.edges).length) := by
        obtain ⟨r, hr⟩ := allOuts_take_sub m.edges k (m.edges.getD k zedge).outs.length hkl
        have h := congrArg List.length hr
        rw [List.take_length, ← HSN.out, List.length_append] at h
        show _ ≤ _
        omega
      clear hkl
      generalize m.edges.getD k zedge = e at p4 p5 hec HSN
      obtain ⟨z, hz⟩ : ∃ z, wr.heap.size = z := ⟨_, rfl⟩
      obtain ⟨w4, hw4⟩ : ∃ w4, w4 = wr.alloc (.cells #[vo, vi, vm, vr, .string e.cmd, .string e.dep] 44) := ⟨_, rfl⟩
      have hb4 : Below wr.heap.size wr w4 := by rw [hw4]; exact below_alloc (Below.refl _ _) _
      have XE : Hid (w4.heap[z]? = some (.cells #[vo, vi, vm, vr, .string e.cmd, .string e.dep] 44 (0, 0))) := by show _ = _; rw [hw4, ← hz]; exact blk_new wr _
      have HSO := Lib.hid (hec.1.below hb4)
      have HK4 := Lib.hid (Kd.R_below HK.out hb4)
      have HB4 := Lib.hid (HB.out.trans (hb4.mono HB.out.size))
      obtain ⟨Ao, co, rfl, _, hmo⟩ := ss_len hec.1
      obtain ⟨Ai, ci, rfl, _, _⟩ := ss_len hec.2.1
      obtain ⟨Am, cm, rfl, _, _⟩ := ss_len hec.2.2.1
      obtain ⟨Ar, cr, rfl, _, _⟩ := ss_len hec.2.2.2
      obtain ⟨no, hno⟩ : ∃ no, no = e.outs.length := ⟨_, rfl⟩
      rw [← hno] at hmo HSO p0 XE hw4
      have HNO := Lib.hid hno
      have HW4 := Lib.hid hw4
      clear hec hb4 hw4 hno
      go_upto_region 10 with (fail)
      rw [← HW4.out]
      try rw [hz]
      clear hz p0 p1 p2 p3 p4 p5
      have E0 := (show w4.cell? ⟨z, 0, none⟩ = some (.slice Ao no co) from blk_cell XE.out 0)
      go_wp2_with (at_builtin; refine Held.of ?_)
      refine Held.out (Kd.R_append_row Value.string ByteArray.empty (h1 := fun _ => rfl) (w0 := w3) w3.heap.size rfl (.tmp 34) (.tmp 36) 23 9 (.string ⟨#[]⟩) 16 rfl Try.underlying23 (by kernel_rfl) rfl (by decide) _ (allOuts (m.edges.take k)) e.outs Ao no co (fun _ => True) rfl rfl (fun _ _ => trivial) HK4.out (ss_C HSO.out) HB4.out HB4.out.size (by have h1 := HSUB.out; have h2 := HS.out.all; have h3 := HNO.out; rw [HSN.out, List.length_append] at h1; omega) ?_)
      intro v5 w5 r5 b5 _ _
      rw [← HSN.out] at r5
      have HR5 := Lib.hid r5
      have HB5 := Lib.hid b5
      clear r5 b5 E0
      go_wp2
      go_roundw
      case rel => exact ⟨k + 1, by omega, by go_num, HR5.out, HB5.out⟩
      case measure => simp [intOf]; omega
    · have hk2 : k = n := by omega
      have HKF : Hid (Kd.string.R 9 wr w3.heap.size (fun _ => True) (.slice As ns cs) (allOuts m.edges)) := by
        have h := HK.out
        rw [hk2, HN.out, List.take_length] at h
        exact h
      have HOZ : Hid (∀ s ∈ allOuts m.edges, s.size ≤ maxLen) := fun s hs => by
        obtain ⟨l, h1, h2⟩ := List.mem_flatten.1 hs
        obtain ⟨e, h3, rfl⟩ := List.mem_map.1 h1
        exact HS.out.size e h3 s (.inl h2)
      have HYR := Lib.hid ((HB.out.block _ (blk_lt HY3.out)).trans HY3.out)
      have HSR := Lib.hid (HS3.out.below HB.out)
      clear hk2 HK
      go_wp2_with fail
      refine (delete_strs w3.heap.size _ (allOuts m.edges) wr 50 #[.pointer (some ⟨y, 0, none⟩)] (fun s => decide (s ∈ usedV m.edges)) HKF.out HOZ.out (by have h2 := HS.out.all; omega) (enters_of Try.func50 (by kernel_rfl) rfl) ?_).mono ?_
      · intro W s hsz hgr
        have hbW : Below w3.heap.size w3 W := HB.out.grown hgr HB.out.size (fun q hq => Kd.R_base HKF.out q hq)
        exact is_used y _ (usedV m.edges) s W (blk_cell ((hbW.block _ (blk_lt HY3.out)).trans HY3.out) 0) (HS3.out.below hbW) (used_spec m.edges).1 (by have h1 := (used_spec m.edges).2.2; have h2 := HS.out.needs; omega)
      rintro e w5 ⟨v5, rfl, r5, g5⟩
      rw [targ_eq] at r5
      have hb5 := HB.out.grown g5 HB.out.size (fun q hq => Kd.R_base HKF.out q hq)
      have HR5 := Lib.hid (r_ss r5)
      have HB5 := Lib.hid (HB3.out.trans (hb5.mono HB3.out.size))
      clear r5 g5 hb5
      go_wp2
      go_ret
      exact ⟨⟨_, rfl, by rw [HT.out]; exact HR5.out⟩, HB5.out⟩
end Go.Proofs.Ytifbkojapfighaa.Gr
