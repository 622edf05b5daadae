/- graph.(*Graph).used (walk). -/
import Derived.Test.YtifbkojapfighaaGrSort
import Derived.Test.YtifbkojapfighaaGrNewKit
import Derived.Test.YtifbkojapfighaaGrReached
namespace Go.Proofs.Ytifbkojapfighaa.Gr
open Go.RowKit Go.Proofs.YtifbkojapfighaaW.PrintWords Go.Proofs.YtifbkojapfighaaW.PrintLast Go.Proofs.Ytifbkojapfighaa.Base Go.Maps
set_option linter.unusedVariables false
set_option linter.unusedSimpArgs false

/-- All needs of all edges. -/
def allNeeds (es : List EdgeV) : List ByteArray := (es.map needsV).flatten
theorem allNeeds_snoc (es : List EdgeV) (k : Nat) (h : k < es.length) : allNeeds (es.take (k + 1)) = allNeeds (es.take k) ++ needsV (es.getD k zedge) := by
  unfold allNeeds
  rw [(take_at es zedge k h).1, List.map_append, List.flatten_append]
  simp
theorem allNeeds_len (es : List EdgeV) (k : Nat) : (allNeeds (es.take k)).length ≤ (allNeeds es).length := by
  unfold allNeeds
  conv => rhs; rw [← List.take_append_drop k es, List.map_append, List.flatten_append, List.length_append]
  omega
/-- The needs, rising, each once. -/
def usedV (es : List EdgeV) : List ByteArray := compS (sortS (allNeeds es))
set_option maxHeartbeats 1600000 in
theorem used_any (g : Nat) (ve : Value) (es : List EdgeV) (w : World) (h0 : w.cell? ⟨g, 0, none⟩ = some ve) (hE : Ez w ve es) (hs : ∀ e ∈ es, SmallE e) (hl : (allNeeds es).length ≤ 1000000) :
    Calls Try.prog 48 #[.pointer (some ⟨g, 0, none⟩)] w fun r w' => ∃ v', r = .returned v' ∧ Kd.string.R 9 w' w.heap.size (fun _ => True) v' (usedV es) ∧ Below w.heap.size w w' := by
  obtain ⟨Ae, ce, rfl, hce, hme⟩ := hE.len
  obtain ⟨n, hn⟩ : ∃ n, n = es.length := ⟨_, rfl⟩
  rw [← hn] at hce hme hE h0
  have HE := Lib.hid hE
  have H0 := Lib.hid h0
  have HN := Lib.hid hn
  have HS := Lib.hid hs
  have HL : Hid ((allNeeds es).length ≤ 1000000) := hl
  clear hE hn hs hl
  go_enter Try.func48, Try.ntmps48
  go_wp2
  go_loopw [3, 12] (fun s i wr => ∃ k : Nat, k ≤ n ∧ i = .int .i64 k ∧ Hid (Kd.string.R 9 wr w.heap.size (fun _ => True) s (allNeeds (es.take k))) ∧ Hid (Below w.heap.size w wr)) (fun _ i _ => n - (intOf i).toNat)
  case atStart => exact ⟨0, by omega, rfl, Kd.R_nil _ _ _ _ _, Below.refl _ _⟩
  case round =>
    obtain ⟨k, hk, rfl, HK, HB⟩ := hrel
    have HLE := Lib.hid (allNeeds_len es k)
    obtain ⟨As, cs, evs⟩ := Kd.R_slice HK.out
    obtain ⟨ns, hns⟩ : ∃ ns, ns = (allNeeds (es.take k)).length := ⟨_, rfl⟩
    rw [← hns] at evs
    subst evs
    have HNS := Lib.hid hns
    clear hns
    by_cases l1 : k < n
    · have hkl : k < es.length := by rw [← HN.out]; exact l1
      obtain ⟨ad, vo, vi, vm, vr, e1, p0, p1, p2, p3, p4, p5, hec⟩ := (HE.out.below HB.out).get k hkl
      subst e1
      have HSN := Lib.hid (allNeeds_snoc es k hkl)
      have HSE := Lib.hid (HS.out _ (take_at es zedge k hkl).2)
      clear hkl
      generalize es.getD k zedge = e at p4 p5 hec HSN HSE
      obtain ⟨y, hy⟩ : ∃ y, wr.heap.size = y := ⟨_, rfl⟩
      obtain ⟨w4, hw4⟩ : ∃ w4, w4 = wr.alloc (.cells #[vo, vi, vm, vr, .string e.cmd, .string e.dep] 44) := ⟨_, rfl⟩
      have hb4 : Below wr.heap.size wr w4 := by rw [hw4]; exact below_alloc (Below.refl _ _) _
      have XE : Hid (w4.heap[y]? = some (.cells #[vo, vi, vm, vr, .string e.cmd, .string e.dep] 44 (0, 0))) := by show _ = _; rw [hw4, ← hy]; exact blk_new wr _
      have HEI : Hid (EdIs w4 (.agg #[vo, vi, vm, vr, .string e.cmd, .string e.dep]) e) := ⟨_, _, _, _, rfl, hec.below hb4⟩
      have HK4 := Lib.hid (Kd.R_below HK.out hb4)
      have HB4 := Lib.hid (HB.out.trans (hb4.mono HB.out.size))
      obtain ⟨Ao, co, rfl, _, hmo⟩ := ss_len hec.1
      obtain ⟨Ai, ci, rfl, _, hmi⟩ := ss_len hec.2.1
      obtain ⟨Am, cm, rfl, _, hmm⟩ := ss_len hec.2.2.1
      obtain ⟨Ar, cr, rfl, _, hmr⟩ := ss_len hec.2.2.2
      have HW4 := Lib.hid hw4
      clear hec hb4 hw4
      go_upto_region 5 with (fail)
      rw [← HW4.out]
      try rw [hy]
      clear hy p0 p1 p2 p3 p4 p5
      have E0 := (show w4.cell? ⟨y, 0, none⟩ = some (.slice Ao e.outs.length co) from blk_cell XE.out 0)
      have E1 := (show w4.cell? ⟨y, 1, none⟩ = some (.slice Ai e.ins.length ci) from blk_cell XE.out 1)
      have E2 := (show w4.cell? ⟨y, 2, none⟩ = some (.slice Am e.imp.length cm) from blk_cell XE.out 2)
      have E3 := (show w4.cell? ⟨y, 3, none⟩ = some (.slice Ar e.ord.length cr) from blk_cell XE.out 3)
      have E4 := (show w4.cell? ⟨y, 4, none⟩ = some (.string e.cmd) from blk_cell XE.out 4)
      have E5 := (show w4.cell? ⟨y, 5, none⟩ = some (.string e.dep) from blk_cell XE.out 5)
      go_wp2_with fail
      refine (needs_any _ e _ HEI.out HSE.out).mono ?_
      rintro r w5 ⟨v5, rfl, r5, b5⟩
      have HK5 := Lib.hid (Kd.R_below HK4.out b5)
      have HB5 := Lib.hid (HB4.out.trans (b5.mono HB4.out.size))
      have HS5 := Lib.hid (r_ss r5)
      obtain ⟨A5, c5, e5⟩ := Kd.R_slice r5
      obtain ⟨n5, hn5⟩ : ∃ n5, n5 = (needsV e).length := ⟨_, rfl⟩
      rw [← hn5] at e5
      subst e5
      have HN5 := Lib.hid hn5
      have HLN := Lib.hid (allNeeds_len es (k + 1))
      clear r5 b5 hn5 E0 E1 E2 E3 E4 E5
      go_wp2_with (at_builtin; refine Held.of ?_)
      refine Held.out (Kd.R_append_row Value.string ByteArray.empty (h1 := fun _ => rfl) (w0 := w) w.heap.size rfl (.tmp 16) (.tmp 18) 23 9 (.string ⟨#[]⟩) 16 rfl Try.underlying23 (by kernel_rfl) rfl (by decide) _ (allNeeds (es.take k)) (needsV e) A5 n5 c5 (fun _ => True) rfl rfl (fun _ _ => trivial) HK5.out (ss_C HS5.out) HB5.out HB5.out.size (by have h1 := HLN.out; have h2 := HL.out; have h3 := HN5.out; rw [HSN.out, List.length_append] at h1; omega) ?_)
      intro va w6 r6 b6 _ _
      rw [← HSN.out] at r6
      obtain ⟨Aa, ca, ea⟩ := Kd.R_slice r6
      obtain ⟨na, hna⟩ : ∃ na, na = (allNeeds (es.take (k + 1))).length := ⟨_, rfl⟩
      rw [← hna] at ea
      subst ea
      have HR6 := Lib.hid r6
      have HB6 := Lib.hid b6
      clear r6 b6 hna
      go_wp2
      go_roundw
      case rel => exact ⟨k + 1, by omega, by go_num, HR6.out, HB6.out⟩
      case measure => simp [intOf]; omega
    · have hk2 : k = n := by omega
      have HKF : Hid (Kd.string.R 9 wr w.heap.size (fun _ => True) (.slice As ns cs) (allNeeds es)) := by
        have h := HK.out
        rw [hk2, HN.out, List.take_length] at h
        exact h
      have hns6 : ns ≤ 10000000 := by have h1 := HLE.out; have h2 := HNS.out; have h3 := HL.out; omega
      have HNF : Hid (ns = (allNeeds es).length) := by
        have h := HNS.out
        rw [hk2, HN.out, List.take_length] at h
        exact h
      clear hk2 HK HNS HLE
      go_wp2_with fail
      refine (sort_strs w.heap.size _ (allNeeds es) _ HKF.out (by rw [← HNF.out]; exact hns6)).mono ?_
      rintro r w5 ⟨rfl, r5, g5⟩
      have hb5 := HB.out.grown g5 HB.out.size (fun q hq => Kd.R_base HKF.out q hq)
      have HR5 := Lib.hid r5
      have HB5 := Lib.hid hb5
      have HCS := Lib.hid (compS_spec (sortS_sorted (allNeeds es)))
      have HSL : Hid ((sortS (allNeeds es)).length = ns) := by show _ = _; rw [HNF.out]; exact (sortS_perm _).length_eq
      clear r5 g5 hb5
      go_wp2_with fail
      refine (compact_strs w.heap.size _ (sortS (allNeeds es)) _ HR5.out (by rw [HSL.out]; exact hns6) HCS.out.2.2).mono ?_
      rintro r w6 ⟨v6, rfl, r6, g6⟩
      have hb6 := HB5.out.grown g6 HB5.out.size (fun q hq => Kd.R_base HR5.out q hq)
      have HR6 := Lib.hid r6
      have HB6 := Lib.hid hb6
      clear r6 g6 hb6
      go_wp2
      go_ret
      exact ⟨_, rfl, HR6.out, HB6.out⟩
end Go.Proofs.Ytifbkojapfighaa.Gr
