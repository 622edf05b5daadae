/- graph.(*Graph).Maker, .Outs, .Above (walks). -/
import Derived.Test.YtifbkojapfighaaGrAbP
import Derived.Sort.KeysCollected
namespace Go.Proofs.Ytifbkojapfighaa.Gr
open Go.RowKit Go.Proofs.YtifbkojapfighaaW.PrintWords Go.Proofs.YtifbkojapfighaaW.PrintLast Go.Proofs.Ytifbkojapfighaa.Base Go.Maps
set_option linter.unusedVariables false
set_option linter.unusedSimpArgs false

theorem maker_any (g : Nat) (m : ManV) (s : ByteArray) (w : World) (h : Gx w g m) (hs : s.size ≤ maxLen) :
    Calls Try.prog 22 #[.pointer (some ⟨g, 0, none⟩), .string s] w fun e w' => e = .returned (.tuple #[.int .i64 (((makerOf m.edges s).getD 0 : Nat) : Int), .bool (makerOf m.edges s).isSome]) ∧ w' = w := by
  obtain ⟨ve, vd, va, mk, nk, hg, hE, hD, hM, hA⟩ := h
  have g2 := blk_cell hg 2
  have hlk := (VMap.look hM keyed_s Try.underlying67 (zero_int _) (s := s) (keyOf_s hs)).1
  obtain ⟨t, ht⟩ : ∃ t, t = makerOf m.edges s := ⟨_, rfl⟩
  rw [← ht] at hlk ⊢
  clear ht hM hE hD hA hg hs
  cases t with
  | none =>
    simp only [Option.map_none, Option.getD_none, Option.isSome_none] at hlk
    go_enter Try.func22, Try.ntmps22
    go_wp2
    go_ret2
    exact ⟨rfl, rfl⟩
  | some k =>
    simp only [Option.map_some, Option.getD_some, Option.isSome_some] at hlk
    go_enter Try.func22, Try.ntmps22
    go_wp2
    go_ret2
    exact ⟨rfl, rfl⟩
/-- A map's keys, sorted. -/
theorem vmap_keys {w : World} {b n : Nat} {f : ByteArray → Option Value} (h : VMap 9 skey w b n f) {out : List ByteArray} (hnd : out.Nodup) (hiff : ∀ s, s ∈ out ↔ (f s).isSome = true) : ∃ D : DataW Value, w.ownsMap Try.prog 9 VH b n D ∧ Maps.size D = n ∧ n = out.length ∧ ∀ ss : List (List UInt8), ss.Perm (strKeys D) → ss.Perm (out.map toB) := by
  obtain ⟨D, h1, h2, h3, h4, h5⟩ := h
  have hc : Collected D (fun _ => false) (out.map toB) := by
    refine ⟨?_, fun x => ?_⟩
    · refine List.pairwise_map.2 (hnd.imp fun {a b} hne e => hne ?_)
      rw [← of_to a, ← of_to b, e]
    · constructor
      · intro hx
        obtain ⟨s, hs, rfl⟩ := List.mem_map.1 hx
        have h6 := h3 s
        rw [(hiff s).1 hs] at h6
        exact ⟨h6, rfl⟩
      · rintro ⟨hx, _⟩
        obtain ⟨s, hs⟩ := h5 _ hx
        have hs2 : toB s = x := by
          unfold skey at hs
          injection hs
        subst hs2
        have h6 := h3 s
        have hx : Maps.has D (skey s) = true := hx
        rw [hx] at h6
        exact List.mem_map_of_mem ((hiff s).2 h6.symm)
  have hp := hc.perm h1 keyed_s Try.underlying9 (fun _ => rfl)
  refine ⟨D, h1, h2, ?_, fun ss hss => hss.trans hp.symm⟩
  have hl := hp.length_eq
  rw [List.length_map] at hl
  rw [hl, ← h2]
  obtain ⟨es, clock, _, _, _, rfl⟩ := h1
  simp [strKeys, Maps.size]
set_option maxHeartbeats 1600000 in
theorem outs_any (g : Nat) (m : ManV) (w : World) (h : Gx w g m) (hs : SmallG m) (hnd : (allOuts m.edges).Nodup) :
    Calls Try.prog 20 #[.pointer (some ⟨g, 0, none⟩)] w fun e w' => ∃ v', e = .returned v' ∧ Kd.string.R 9 w' w.heap.size (fun _ => True) v' (sortS (allOuts m.edges)) ∧ Below w.heap.size w w' := by
  obtain ⟨ve, vd, va, mk, nk, hg, hE, hD, hM, hA⟩ := h
  obtain ⟨D, hown, hsz, hnk, hper⟩ := vmap_keys hM hnd (fun s => by
    have h1 := maker_some (es := m.edges) (s := s)
    cases hm : makerOf m.edges s with
    | none => rw [hm] at h1; simp at h1; simp [h1]
    | some k => rw [hm] at h1; simp at h1; simp [h1])
  have hszN : Maps.size D ≤ 1000000 := by rw [hsz, hnk]; exact hs.all
  have HOWN := Lib.hid hown
  have HPER := Lib.hid hper
  have HSZ := Lib.hid hszN
  have g1 := blk_cell hg 2
  clear hE hD hM hA hg hs hown hsz hnk hper hszN
  go_enter Try.func20, Try.ntmps20
  go_wp2_with fail
  refine (callsIn_wide.1 (Try.maps_Keys_46 (some mk) _)).mono ?_
  rintro e w3 ⟨rfl, rfl⟩
  clear g1
  go_wp2_with fail
  refine (callsIn_wide.1 (Try.slices_Sorted_keys_45_46 mk _ D VH w HOWN.out (by have := HSZ.out; simp only [maxLen]; omega) (by have := HSZ.out; omega))).mono ?_
  rintro e w4 ⟨v4, ss, rfl, hss, hrow, _, hb⟩
  have hal2 := below_alloc (Below.refl w.heap.size w) (.cells #[.map (some mk)] 67)
  have HB5 : Hid (Below w.heap.size w w4) := hal2.trans (hb.mono hal2.size)
  have HRW : Hid (Kd.string.R 9 w4 w.heap.size (fun _ => True) v4 (sortS (allOuts m.edges))) := by
    have hm : ss.mergeSort leB = ((allOuts m.edges).map toB).mergeSort leB := mergeSort_of_perm (HPER.out ss hss)
    have hrow : w4.ownsRow _ 9 1 v4 ss.length ((ss.mergeSort leB).map encStr) := hrow
    rw [hm, enc_ofB] at hrow
    have hln : ss.length = (sortS (allOuts m.edges)).length := by
      have h1 := (HPER.out ss hss).length_eq
      rw [h1, List.length_map, (sortS_perm _).length_eq]
    rw [hln] at hrow
    exact Kd.R_lower (Kd.R_of_own (enc := Value.string) (h1 := fun _ => rfl) hrow (fun _ _ => trivial)) hal2.size
  clear hss hrow hb hal2
  go_wp2
  go_ret
  exact ⟨_, rfl, HRW.out, HB5.out⟩
theorem nodup_sub_len' {α : Type} [DecidableEq α] {l m : List α} (h : l.Nodup) (hs : ∀ x ∈ l, x ∈ m) : l.length ≤ m.length := by
  induction l generalizing m with
  | nil => exact Nat.zero_le _
  | cons a l ih =>
    obtain ⟨h1, h2⟩ := List.nodup_cons.1 h
    have h3 := hs a (by simp)
    have h4 : ∀ x ∈ l, x ∈ m.erase a := fun x hx => by
      have hne : x ≠ a := fun e => h1 (e ▸ hx)
      exact (List.mem_erase_of_ne hne).2 (hs x (List.mem_cons_of_mem _ hx))
    have h5 := ih h2 h4
    rw [List.length_erase_of_mem h3] at h5
    have h6 : 0 < m.length := List.length_pos_of_mem h3
    rw [List.length_cons]
    omega
set_option maxHeartbeats 3200000 in
theorem above_any (g : Nat) (m : ManV) (k : Nat) (w : World) (h : Gx w g m) (hs : SmallG m) (hnd : (allOuts m.edges).Nodup) (hk : k < m.edges.length) :
    Calls Try.prog 19 #[.pointer (some ⟨g, 0, none⟩), .int .i64 k] w fun e w' => ∃ v' lr, e = .returned v' ∧ IsReach (aheadV m.edges) ((aheadV m.edges).getD k []) lr ∧ Kd.string.R 9 w' w.heap.size (fun _ => True) v' (sortS (outsOf m.edges lr)) ∧ Below w.heap.size w w' := by
  have HG := Lib.hid h
  have HS := Lib.hid hs
  have HND := Lib.hid hnd
  obtain ⟨ve, vd, va, mk, nk, hg, hE, hD, hM, hA⟩ := h
  obtain ⟨n, hn⟩ : ∃ n, n = m.edges.length := ⟨_, rfl⟩
  rw [← hn] at hk
  obtain ⟨Ae, ce, rfl, _, hmn⟩ := hE.len
  rw [← hn] at hg hE hmn
  obtain ⟨Aa, ca, ea, _, _⟩ := hA.len
  have hna : (aheadV m.edges).length = n := by rw [ahead_len, hn]
  rw [hna] at ea
  subst ea
  have hkl : k < (aheadV m.edges).length := by rw [hna]; exact hk
  obtain ⟨ad, u, e1, p1, hu⟩ := hA.get k hkl
  subst e1
  have hn4 : n ≤ 10000 := by rw [hn]; exact hs.edges
  have HBG := Lib.hid hg
  have HE := Lib.hid hE
  have HA := Lib.hid hA
  have HN := Lib.hid hn
  have HNA := Lib.hid hna
  have HU := Lib.hid hu
  have HFR : Hid (∀ x ∈ (aheadV m.edges).getD k [], x < n) := fun x hx => by rw [hn]; exact ahead_lt m.edges _ (take_at (aheadV m.edges) [] k hkl).2 x hx
  have HKL : Hid (∀ r ∈ aheadV m.edges, ∀ k ∈ r, k < n) := fun r hr k hk => by rw [hn]; exact ahead_lt m.edges r hr k hk
  have g0 := blk_cell hg 0
  have g3 := blk_cell hg 3
  clear hg hE hD hM hA hn hna hu hkl hs hnd
  go_enter Try.func19, Try.ntmps19
  go_wp2_with fail
  refine (reached_any g n ce Ae _ (aheadV m.edges) _ ((aheadV m.edges).getD k []) _ (blk_cell HBG.out 0) (blk_cell HBG.out 3) HA.out HNA.out HU.out HFR.out HKL.out (by omega)).mono ?_
  rintro e w2 ⟨v2, lr, rfl, hlr, r2, b2⟩
  have HLR := Lib.hid hlr
  have HR2 := Lib.hid (Ir.is r2)
  have HB2 := Lib.hid b2
  have hlt : ∀ x ∈ lr, x < n := fun x hx => by
    have := hlr.lt (by rw [HNA.out]; exact HFR.out) (by rw [HNA.out]; exact HKL.out) x hx
    rwa [HNA.out] at this
  have HLT := Lib.hid hlt
  have HLN : Hid (outsOf m.edges lr).Nodup := outsOf_nodup HND.out (hlr.up.imp fun h => Nat.ne_of_lt h) (by rw [← HN.out]; exact hlt)
  have HLA : Hid ((outsOf m.edges lr).length ≤ 1000000) := by
    have h1 := nodup_sub_len' HLN.out (m := allOuts m.edges) (fun s hs2 => by
      obtain ⟨j, hj, h2⟩ := mem_outsOf.1 hs2
      exact List.mem_flatten.2 ⟨_, List.mem_map.2 ⟨_, (take_at m.edges zedge j (by rw [← HN.out]; exact hlt j hj)).2, rfl⟩, h2⟩)
    exact Nat.le_trans h1 HS.out.all
  obtain ⟨A2, c2, e2⟩ := Kd.R_slice r2
  obtain ⟨n2, hn2⟩ : ∃ n2, n2 = lr.length := ⟨_, rfl⟩
  rw [List.length_map, ← hn2] at e2
  subst e2
  have HN2 := Lib.hid hn2
  have hn24 : n2 ≤ 10000 := by
    have h1 := nodup_sub_len (hlr.up.imp fun {a b} h => Nat.ne_of_lt h) (m := List.range n) fun x hx => List.mem_range.2 (hlt x hx)
    rw [List.length_range, ← hn2] at h1
    omega
  have HBG2 := Lib.hid ((b2.block _ (blk_lt HBG.out)).trans HBG.out)
  have HE2 := Lib.hid (HE.out.below b2)
  clear r2 b2 hn2 hlr hlt g0 g3 p1
  go_wp2
  go_loopw [5, 34] (fun v i wr => ∃ j : Nat, j ≤ n2 ∧ i = .int .i64 j ∧ Hid (Kd.string.R 9 wr w2.heap.size (fun _ => True) v (outsOf m.edges (lr.take j))) ∧ Hid (Below w2.heap.size w2 wr)) (fun _ i _ => n2 - (intOf i).toNat)
  case atStart => exact ⟨0, by omega, rfl, Kd.R_nil _ _ _ _ _, Below.refl _ _⟩
  case round =>
    obtain ⟨j, hj, rfl, HV, HB⟩ := hrel
    obtain ⟨As, cs, evs⟩ := Kd.R_slice HV.out
    obtain ⟨ns, hns⟩ : ∃ ns, ns = (outsOf m.edges (lr.take j)).length := ⟨_, rfl⟩
    rw [← hns] at evs
    subst evs
    have HNS := Lib.hid hns
    have HPL : Hid ((outsOf m.edges (lr.take j)).length ≤ (outsOf m.edges lr).length) := by
      show _ ≤ _
      conv => rhs; rw [← List.take_append_drop j lr]
      unfold outsOf
      rw [List.map_append, List.flatten_append, List.length_append]
      omega
    clear hns
    by_cases l1 : j < n2
    · have hjl : j < lr.length := by rw [← HN2.out]; exact l1
      obtain ⟨ad2, e1, q⟩ := (HR2.out.below HB.out).get j hjl
      subst e1
      have HTJ := Lib.hid (take_at lr 0 j hjl)
      obtain ⟨y, hy⟩ : ∃ y, y = lr.getD j 0 := ⟨_, rfl⟩
      rw [← hy] at q HTJ
      have hyn : y < n := HLT.out y HTJ.out.2
      have hb := (HB.out.block _ (blk_lt HBG2.out)).trans HBG2.out
      have g0 := (show wr.cell? ⟨g, 0, none⟩ = some (.slice Ae n ce) from blk_cell hb 0)
      obtain ⟨ad3, vo, vi, vm, vr, e3, q0, q1, q2, q3, q4, q5, hec⟩ := (HE2.out.below HB.out).get y (by rw [← HN.out]; exact hyn)
      subst e3
      have HSO := Lib.hid hec.1
      obtain ⟨Ao, co, eo, _, hmo⟩ := ss_len hec.1
      obtain ⟨no, hno⟩ : ∃ no, no = (m.edges.getD y zedge).outs.length := ⟨_, rfl⟩
      rw [← hno] at eo
      subst eo
      have HNO := Lib.hid hno
      have HSN : Hid (outsOf m.edges (lr.take (j + 1)) = outsOf m.edges (lr.take j) ++ (m.edges.getD y zedge).outs) := by
        show _ = _
        rw [HTJ.out.1, outsOf_snoc]
      have HPL2 : Hid ((outsOf m.edges (lr.take (j + 1))).length ≤ (outsOf m.edges lr).length) := by
        show _ ≤ _
        conv => rhs; rw [← List.take_append_drop (j + 1) lr]
        unfold outsOf
        rw [List.map_append, List.flatten_append, List.length_append]
        omega
      clear hb hjl hy hec hno hmo q1 q2 q3 q4 q5
      go_wp2_with (at_builtin; refine Held.of ?_)
      refine Held.out (Kd.R_append_row Value.string ByteArray.empty (h1 := fun _ => rfl) (w0 := w2) w2.heap.size rfl (.tmp 38) (.tmp 47) 23 9 (.string ⟨#[]⟩) 16 rfl Try.underlying23 (by kernel_rfl) rfl (by decide) _ (outsOf m.edges (lr.take j)) (m.edges.getD y zedge).outs Ao no co (fun _ => True) rfl rfl (fun _ _ => trivial) HV.out (ss_C HSO.out) HB.out HB.out.size (by have h1 := HPL2.out; have h2 := HLA.out; have h3 := HNO.out; rw [HSN.out, List.length_append] at h1; omega) ?_)
      intro v5 w5 r5 b5 g5 _
      rw [← HSN.out] at r5
      have HR5 := Lib.hid r5
      have HB5 := Lib.hid b5
      clear r5 b5 g5
      go_wp2
      go_roundw
      case rel => exact ⟨j + 1, by omega, by go_num, HR5.out, HB5.out⟩
      case measure => simp [intOf]; omega
    · have hj2 : j = n2 := by omega
      have HVF : Hid (Kd.string.R 9 wr w2.heap.size (fun _ => True) (.slice As ns cs) (outsOf m.edges lr)) := by
        have h := HV.out
        rw [hj2, HN2.out, List.take_length] at h
        exact h
      have HBF := Lib.hid (HB2.out.trans (HB.out.mono HB2.out.size))
      clear hj2 HV HB HPL HNS
      go_wp2_with fail
      refine (sort_strs w2.heap.size _ (outsOf m.edges lr) _ HVF.out (by have := HLA.out; omega)).mono ?_
      rintro e w5 ⟨rfl, r5, g5⟩
      have HB5 := Lib.hid (HBF.out.grown g5 HBF.out.size (fun q hq => Nat.le_trans HB2.out.size (Kd.R_base HVF.out q hq)))
      have HR5 := Lib.hid (Kd.R_lower r5 HB2.out.size)
      clear r5 g5
      go_wp2
      go_ret
      exact ⟨_, lr, rfl, HLR.out, HR5.out, HB5.out⟩
end Go.Proofs.Ytifbkojapfighaa.Gr
