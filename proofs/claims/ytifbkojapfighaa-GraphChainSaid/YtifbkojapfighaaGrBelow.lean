/- bellowsref13.Needs, .Below (walks). -/
import Derived.Test.YtifbkojapfighaaGrGrid
import Derived.Test.YtifbkojapfighaaGrOf
namespace Go.Proofs.Ytifbkojapfighaa.Gr
open Go.RowKit Go.Proofs.YtifbkojapfighaaW.PrintWords Go.Proofs.YtifbkojapfighaaW.PrintLast Go.Proofs.Ytifbkojapfighaa.Base Go.Maps
set_option linter.unusedVariables false
set_option linter.unusedSimpArgs false

theorem mem_madeF {mf : ByteArray → Option Nat} {l : List ByteArray} {x : Nat} : x ∈ madeF mf l ↔ ∃ s ∈ l, mf s = some x := by
  refine snoc_ind (P := fun l => x ∈ madeF mf l ↔ ∃ s ∈ l, mf s = some x) ?_ ?_ l
  · constructor
    · intro h; cases h
    · rintro ⟨s, hs, _⟩; cases hs
  · intro l s ih
    rw [madeF_snoc]
    cases hm : mf s with
    | none =>
      show x ∈ madeF mf l ↔ _
      rw [ih]
      constructor
      · rintro ⟨t, ht, e⟩; exact ⟨t, List.mem_append_left _ ht, e⟩
      · rintro ⟨t, ht, e⟩
        rcases List.mem_append.1 ht with ht | ht
        · exact ⟨t, ht, e⟩
        · rw [List.mem_singleton.1 ht, hm] at e; cases e
    | some n =>
      show (x ∈ if n ∈ madeF mf l then madeF mf l else madeF mf l ++ [n]) ↔ _
      have h1 : (x ∈ if n ∈ madeF mf l then madeF mf l else madeF mf l ++ [n]) ↔ x ∈ madeF mf l ∨ x = n := by
        split
        · rename_i hn
          exact ⟨.inl, fun h => by rcases h with h | rfl; exact h; exact hn⟩
        · rw [List.mem_append, List.mem_singleton]
      rw [h1, ih]
      constructor
      · rintro (⟨t, ht, e⟩ | rfl)
        · exact ⟨t, List.mem_append_left _ ht, e⟩
        · exact ⟨s, List.mem_append_right _ (by simp), hm⟩
      · rintro ⟨t, ht, e⟩
        rcases List.mem_append.1 ht with ht | ht
        · exact .inl ⟨t, ht, e⟩
        · rw [List.mem_singleton.1 ht, hm] at e; exact .inr (Option.some.inj e).symm
def mkO : Option Nat → Int
  | some z => (z : Int)
  | none => -1
theorem ahead_at {es : List EdgeV} {k : Nat} (hk : k < es.length) : (aheadV es).getD k [] = madeF (makerOf es) (needsV (es.getD k zedge)) := by
  unfold aheadV
  rw [List.getD_eq_getElem?_getD, List.getD_eq_getElem?_getD, List.getElem?_map, List.getElem?_eq_getElem hk]
  rfl
--BEGIN NEEDS
set_option maxRecDepth 100000 in
set_option maxHeartbeats 4000000 in
theorem rneeds_any (v : Value) (e : EdgeV) (w : World) (h : EdIs w v e) (hs : SmallE e) :
    Calls Try.prog 21 #[v] w fun r w' => ∃ v', r = .returned v' ∧ Kd.string.R 9 w' w.heap.size (fun _ => True) v' (needsV e) ∧ Below w.heap.size w w' := by
  obtain ⟨vo, vi, vm, vr, rfl, ho, hi, hm, hr⟩ := h
  obtain ⟨Ao, co, rfl, hco, hmo⟩ := ss_len ho
  obtain ⟨Ai, ci, rfl, hci, hmi⟩ := ss_len hi
  obtain ⟨Am, cm, rfl, hcm, hmm⟩ := ss_len hm
  obtain ⟨Ar, cr, rfl, hcr, hmr⟩ := ss_len hr
  obtain ⟨no, hno⟩ : ∃ no, no = e.outs.length := ⟨_, rfl⟩
  obtain ⟨ni, hni⟩ : ∃ ni, ni = e.ins.length := ⟨_, rfl⟩
  obtain ⟨nm, hnm⟩ : ∃ nm, nm = e.imp.length := ⟨_, rfl⟩
  obtain ⟨nr, hnr⟩ : ∃ nr, nr = e.ord.length := ⟨_, rfl⟩
  rw [← hno, ← hni, ← hnm, ← hnr]
  rw [← hno] at hco hmo ho
  rw [← hni] at hci hmi hi
  rw [← hnm] at hcm hmm hm
  rw [← hnr] at hcr hmr hr
  have bi : ni ≤ 100000 := by rw [hni]; exact hs.ins
  have bm : nm ≤ 100000 := by rw [hnm]; exact hs.imp
  have br : nr ≤ 100000 := by rw [hnr]; exact hs.ord
  obtain ⟨x, hx⟩ : ∃ x, w.heap.size = x := ⟨_, rfl⟩
  obtain ⟨Wb, hWb⟩ : ∃ Wb, Wb = w.alloc (.cells #[.slice Ao no co, .slice Ai ni ci, .slice Am nm cm, .slice Ar nr cr, .string e.cmd, .string e.dep] 46) := ⟨_, rfl⟩
  have hb0 : Below w.heap.size w Wb := by rw [hWb]; exact below_alloc (Below.refl _ _) _
  have hXb : Wb.heap[x]? = some (.cells #[.slice Ao no co, .slice Ai ni ci, .slice Am nm cm, .slice Ar nr cr, .string e.cmd, .string e.dep] 46 (0, 0)) := by rw [hWb, ← hx]; exact blk_new w _
  have P1 := Lib.hid (show Wb.cell? ⟨x, 1, none⟩ = some (.slice Ai ni ci) from blk_cell hXb 1)
  have P2 := Lib.hid (show Wb.cell? ⟨x, 2, none⟩ = some (.slice Am nm cm) from blk_cell hXb 2)
  have P3 := Lib.hid (show Wb.cell? ⟨x, 3, none⟩ = some (.slice Ar nr cr) from blk_cell hXb 3)
  have HB0 := Lib.hid hb0
  have HWB := Lib.hid hWb
  have SI := Lib.hid (hi.below hb0)
  have SM := Lib.hid (hm.below hb0)
  have SR := Lib.hid (hr.below hb0)
  have HNI := Lib.hid hni
  have HNM := Lib.hid hnm
  have HNR := Lib.hid hnr
  have HBD : Hid (Below Wb.heap.size Wb Wb.drew) := Below.drew (Below.refl _ _)
  clear ho hi hm hr hb0 hXb hWb hno hni hnm hnr hs
  go_enter Try.func21, Try.ntmps21
  go_upto_region 1 with (fail)
  rw [← HWB.out]
  try rw [hx]
  clear hx
  refine start_ (n := 11) (S := fun w' => Below Wb.heap.size Wb w' ∧ w'.cell? ⟨x, 1, none⟩ = some (.slice Ai ni ci) ∧ w'.cell? ⟨x, 2, none⟩ = some (.slice Am nm cm) ∧ w'.cell? ⟨x, 3, none⟩ = some (.slice Ar nr cr)) (ds := []) #[false, false, false, false, false, false, false, false, false, false, false] (by kernel_rfl) rfl rfl ⟨HBD.out, P1.out, P2.out, P3.out⟩ (fun hHeld => ?_)
  refine pure_ (i := 1) (N := some 4) (v := ?_) (a' := ?_) #[false, true, false, false, false, false, false, false, false, false, false] rfl rfl (by kernel_rfl) (fun _ _ _ h => h) (Or.inl ⟨by rfl, ?_⟩) ?_ ?_
  rotate_left
  · intro w'
    go_simp
    with_reducible rfl
  rotate_left
  · simp only [Act.put, List.setIfInBounds_toArray, List.set_cons_zero, List.set_cons_succ, i64_w, i32_w]
    rfl
  refine pure_ (i := 4) (N := some 7) (v := ?_) (a' := ?_) #[false, true, false, false, true, false, false, false, false, false, false] rfl rfl (by kernel_rfl) (fun _ _ _ h => h) (Or.inl ⟨by rfl, ?_⟩) ?_ ?_
  rotate_left
  · intro w'
    go_simp
    with_reducible rfl
  rotate_left
  · simp only [Act.put, List.setIfInBounds_toArray, List.set_cons_zero, List.set_cons_succ, i64_w, i32_w]
    rfl
  refine pure_ (i := 7) (N := some 10) (v := ?_) (a' := ?_) #[false, true, false, false, true, false, false, true, false, false, false] rfl rfl (by kernel_rfl) (fun _ _ _ h => h) (Or.inl ⟨by rfl, ?_⟩) ?_ ?_
  rotate_left
  · intro w'
    go_simp
    with_reducible rfl
  rotate_left
  · simp only [Act.put, List.setIfInBounds_toArray, List.set_cons_zero, List.set_cons_succ, i64_w, i32_w]
    rfl
  refine take_ (i := 2) (N := some 5) (v := ?_) (a' := ?_) #[false, true, true, false, true, false, false, true, false, false, false] rfl rfl (by kernel_rfl) (fun _ _ _ h => h) (Or.inl ⟨by rfl, ?_⟩) hHeld ?_ ?_
  rotate_left
  · rintro w' ⟨s0, s1, s2, s3⟩
    go_simp
    with_reducible rfl
  rotate_left
  · simp only [Act.put, List.setIfInBounds_toArray, List.set_cons_zero, List.set_cons_succ, i64_w, i32_w]
    rfl
  refine take_ (i := 5) (N := some 8) (v := ?_) (a' := ?_) #[false, true, true, false, true, true, false, true, false, false, false] rfl rfl (by kernel_rfl) (fun _ _ _ h => h) (Or.inl ⟨by rfl, ?_⟩) hHeld ?_ ?_
  rotate_left
  · rintro w' ⟨s0, s1, s2, s3⟩
    go_simp
    with_reducible rfl
  rotate_left
  · simp only [Act.put, List.setIfInBounds_toArray, List.set_cons_zero, List.set_cons_succ, i64_w, i32_w]
    rfl
  refine take_ (i := 8) (N := some 11) (v := ?_) (a' := ?_) #[false, true, true, false, true, true, false, true, true, false, false] rfl rfl (by kernel_rfl) (fun _ _ _ h => h) (Or.inl ⟨by rfl, ?_⟩) hHeld ?_ ?_
  rotate_left
  · rintro w' ⟨s0, s1, s2, s3⟩
    go_simp
    with_reducible rfl
  rotate_left
  · simp only [Act.put, List.setIfInBounds_toArray, List.set_cons_zero, List.set_cons_succ, i64_w, i32_w]
    rfl
  refine one_ (i := 0) (N := some 3) #[true, true, true, false, true, true, false, true, true, false, false] rfl rfl (by kernel_rfl) (by decide) (fun K hK => ?_)
  refine value_ (w1 := ?_) (v := ?_) (by rfl) rfl ?_ ?_
  rotate_left 2
  · go_simp
    constructor
    · rfl
    · rfl
  refine hK.out _ _ ⟨HBD.out.alloc HBD.out.size _, pw_cell_below (HBD.out.alloc HBD.out.size _) P1.out, pw_cell_below (HBD.out.alloc HBD.out.size _) P2.out, pw_cell_below (HBD.out.alloc HBD.out.size _) P3.out⟩ (fun hHeld => ?_)
  clear hK K
  refine norm_ (a' := ?_) ?_ ?_
  rotate_left
  · show Act.put _ (some 3) _ = _
    simp only [Act.put, List.setIfInBounds_toArray, List.set_cons_zero, List.set_cons_succ, i64_w, i32_w]
    rfl
  refine one_ (i := 3) (N := some 6) #[true, true, true, true, true, true, false, true, true, false, false] rfl rfl (by kernel_rfl) (by decide) (fun K hK => ?_)
  refine app_empty_step Wb.heap.size rfl (.tmp 3) (.tmp 5) rfl Wb.heap.size Ai ni ci e.ins rfl rfl (blk_new Wb.drew _) (Nat.le_refl _) hHeld.1.size (SI.out.below hHeld.1) (by omega) ?_
  intro va wa ra ba
  have HBa := Lib.hid (hHeld.1.trans (ba.mono hHeld.1.size))
  obtain ⟨Aa, ca, ea⟩ := Kd.R_slice ra
  rw [← HNI.out] at ea
  subst ea
  have HRa := Lib.hid ra
  clear ra ba
  refine hK.out _ _ ⟨HBa.out, pw_cell_below (HBa.out) P1.out, pw_cell_below (HBa.out) P2.out, pw_cell_below (HBa.out) P3.out⟩ (fun hHeld => ?_)
  clear hK K
  refine norm_ (a' := ?_) ?_ ?_
  rotate_left
  · show Act.put _ (some 6) _ = _
    simp only [Act.put, List.setIfInBounds_toArray, List.set_cons_zero, List.set_cons_succ, i64_w, i32_w]
    rfl
  refine one_ (i := 6) (N := some 9) #[true, true, true, true, true, true, true, true, true, false, false] rfl rfl (by kernel_rfl) (by decide) (fun K hK => ?_)
  refine app_strs_step (w0 := Wb) Wb.heap.size rfl (.tmp 6) (.tmp 8) rfl (.slice Aa ni ca) (e.ins) e.imp Am nm cm (fun _ => True) rfl rfl HRa.out (ss_C (SM.out.below hHeld.1)) (fun _ _ => trivial) HBa.out HBa.out.size (by have h1 := HNI.out; have h2 := HNM.out; have h3 := HNR.out; (try simp only [List.length_append]); omega) ?_
  intro vb wb rb bb gb
  have HBb := Lib.hid bb
  obtain ⟨Ab, cb, eb⟩ := Kd.R_slice rb
  obtain ⟨nb, hnb⟩ : ∃ q, q = (e.ins ++ e.imp).length := ⟨_, rfl⟩
  rw [← hnb] at eb
  subst eb
  have HRb := Lib.hid rb
  clear rb bb gb hnb
  refine hK.out _ _ ⟨HBb.out, pw_cell_below (HBb.out) P1.out, pw_cell_below (HBb.out) P2.out, pw_cell_below (HBb.out) P3.out⟩ (fun hHeld => ?_)
  clear hK K
  refine norm_ (a' := ?_) ?_ ?_
  rotate_left
  · show Act.put _ (some 9) _ = _
    simp only [Act.put, List.setIfInBounds_toArray, List.set_cons_zero, List.set_cons_succ, i64_w, i32_w]
    rfl
  refine one_ (i := 9) (N := some 12) #[true, true, true, true, true, true, true, true, true, true, false] rfl rfl (by kernel_rfl) (by decide) (fun K hK => ?_)
  refine app_strs_step (w0 := Wb) Wb.heap.size rfl (.tmp 9) (.tmp 11) rfl (.slice Ab nb cb) (e.ins ++ e.imp) e.ord Ar nr cr (fun _ => True) rfl rfl HRb.out (ss_C (SR.out.below hHeld.1)) (fun _ _ => trivial) HBb.out HBb.out.size (by have h1 := HNI.out; have h2 := HNM.out; have h3 := HNR.out; (try simp only [List.length_append]); omega) ?_
  intro vc wc rc bc gc
  have HBc := Lib.hid bc
  obtain ⟨Ac, cc, ec⟩ := Kd.R_slice rc
  obtain ⟨nc, hnc⟩ : ∃ q, q = (e.ins ++ e.imp ++ e.ord).length := ⟨_, rfl⟩
  rw [← hnc] at ec
  subst ec
  have HRc := Lib.hid rc
  clear rc bc gc hnc
  refine hK.out _ _ ⟨HBc.out, pw_cell_below (HBc.out) P1.out, pw_cell_below (HBc.out) P2.out, pw_cell_below (HBc.out) P3.out⟩ (fun hHeld => ?_)
  clear hK K
  refine norm_ (a' := ?_) ?_ ?_
  rotate_left
  · show Act.put _ (some 12) _ = _
    simp only [Act.put, List.setIfInBounds_toArray, List.set_cons_zero, List.set_cons_succ, i64_w, i32_w]
    rfl
  refine pure_ (i := 10) (N := some 2) (v := ?_) (a' := ?_) #[true, true, true, true, true, true, true, true, true, true, true] rfl rfl (by kernel_rfl) (fun _ _ _ h => h) (Or.inl ⟨by rfl, ?_⟩) ?_ ?_
  rotate_left
  · intro w'
    go_simp
    with_reducible rfl
  rotate_left
  · simp only [Act.put, List.setIfInBounds_toArray, List.set_cons_zero, List.set_cons_succ, i64_w, i32_w]
    rfl
  refine done_ (by kernel_rfl) ?_
  have HRF : Hid (Kd.string.R 9 wc Wb.heap.size (fun _ => True) (.slice Ac nc cc) (needsV e)) := HRc.out
  clear hHeld
  go_wp2
  go_ret
  exact ⟨_, rfl, Kd.R_lower HRF.out HB0.out.size, HB0.out.trans (HBc.out.mono HB0.out.size)⟩
--END NEEDS
--BEGIN WALK
set_option maxRecDepth 100000 in
set_option maxHeartbeats 16000000 in
theorem below_any (v : Value) (m : ManV) (w : World) (ve vd : Value) (hv : v = .agg #[ve, vd]) (hE : Ez w ve m.edges) (hn30 : m.edges.length ≤ 1000) (hs : ∀ e ∈ m.edges, SmallE e) :
    Calls Try.prog 41 #[v] w fun e w' => ∃ (gb : Nat) (r : Nat → Nat) (M : Nat → Nat → Bool), e = .returned (.slice (some ⟨gb, 0, none⟩) m.edges.length m.edges.length) ∧ Grid w w' gb m.edges.length m.edges.length r M ∧ ∀ a b, a < m.edges.length → b < m.edges.length → (M a b = true ↔ TC (Ed (aheadV m.edges)) a b) := by
  subst hv
  obtain ⟨Ae, ce, rfl, hce, hme⟩ := hE.len
  obtain ⟨n, hn⟩ : ∃ n, n = m.edges.length := ⟨_, rfl⟩
  rw [← hn] at hce hme hE hn30 ⊢
  have hmr := mk_rows n hn30
  have hmb := mk_bools n hn30
  obtain ⟨x, hx⟩ : ∃ x, w.heap.size = x := ⟨_, rfl⟩
  obtain ⟨w1, hw1⟩ : ∃ w1, w1 = w.alloc (.cells #[.slice Ae n ce, vd] 25) := ⟨_, rfl⟩
  have hb1 : Below w.heap.size w w1 := by rw [hw1]; exact below_alloc (Below.refl _ _) _
  have hX : w1.heap[x]? = some (.cells #[.slice Ae n ce, vd] 25 (0, 0)) := by rw [hw1, ← hx]; exact blk_new w _
  have HX := Lib.hid hX
  have HE1 := Lib.hid (hE.below hb1)
  have HB1 := Lib.hid hb1
  have HW := Lib.hid hw1
  have HN := Lib.hid hn
  have HS := Lib.hid hs
  have q0 := (show w1.cell? ⟨x, 0, none⟩ = some (.slice Ae n ce) from blk_cell hX 0)
  clear hE hb1 hX hw1 hn hs
  go_enter Try.func41, Try.ntmps41
  go_upto_region 1 with (fail)
  rw [← HW.out]
  try rw [hx]
  clear hx
  go_upto_region 3 with (fail)
  obtain ⟨gb, hgb⟩ : ∃ gb, w1.heap.size = gb := ⟨_, rfl⟩
  have HG0 : Hid (Grid w1 (w1.alloc (.cells (madeCells #[.slice none 0 0] n) 40)) gb n 0 (fun _ => 0) (fun _ _ => false)) := by show Grid _ _ _ _ _ _ _; rw [← hgb]; exact Grid.made (Below.refl _ _) n
  try rw [hgb]
  have HGB := Lib.hid hgb
  clear q0 hgb
  generalize w1.alloc (.cells (madeCells #[.slice none 0 0] n) 40) = w2 at HG0 ⊢
  go_wp2
  --S1
  go_loopw [5] (fun i wr => ∃ (k : Nat) (r : Nat → Nat) (M : Nat → Nat → Bool), k ≤ n ∧ i = .int .i64 k ∧ Hid (Grid w1 wr gb n k r M) ∧ Hid (∀ a b, a < k → b < n → (M a b = true ↔ Ed (aheadV m.edges) a b))) (fun i _ => n - (intOf i).toNat)
  case atStart => exact ⟨0, _, _, by omega, rfl, HG0.out, fun a b ha => by omega⟩
  case round =>
    clear HG0
    obtain ⟨k, r, M, hk, rfl, HG, HM⟩ := hrel
    by_cases l1 : k < n
    · have hkl : k < m.edges.length := by rw [← HN.out]; exact l1
      obtain ⟨fz, ⟨old, oc⟩, hg2⟩ := HG.out.add l1 (M' := fun a b => if a = k then false else M a b) (fun i hi => by funext b; rw [if_neg (by omega)]) (fun j _ => by rw [if_pos rfl])
      obtain ⟨rk, hrk⟩ : ∃ rk, wr.heap.size = rk := ⟨_, rfl⟩
      have HG2 := Lib.hid hg2
      clear hg2
      go_upto_region 7 with (fail)
      try rw [hrk]
      rw [hrk] at HG2
      clear fz oc hrk
      generalize (wr.alloc (.cells (madeCells #[.bool false] n) 4)).setCell ⟨gb, k, none⟩ (.slice (some ⟨rk, 0, none⟩) n n) = w3 at HG2 ⊢
      have q0 := (show w3.cell? ⟨x, 0, none⟩ = some (.slice Ae n ce) from blk_cell ((HG2.out.below.block x (blk_lt HX.out)).trans HX.out) 0)
      obtain ⟨ad, vo, vi, vm, vr, e1, p0, p1, p2, p3, p4, p5, hec⟩ := (HE1.out.below HG2.out.below).get k hkl
      subst e1
      have HSE := Lib.hid (HS.out _ (take_at m.edges zedge k hkl).2)
      have HAK := Lib.hid (ahead_at hkl)
      clear hkl
      generalize m.edges.getD k zedge = e at p4 p5 hec HSE HAK
      have HEI : Hid (EdIs w3 (.agg #[vo, vi, vm, vr, .string e.cmd, .string e.dep]) e) := ⟨_, _, _, _, rfl, hec⟩
      clear hec
      go_wp2_with fail
      refine (rneeds_any _ e _ HEI.out HSE.out).mono ?_
      rintro rr w4 ⟨v4, rfl, r4, b4⟩
      have HR4 := Lib.hid (Kd.R_lower r4 (Nat.zero_le _))
      obtain ⟨Al, cl, el⟩ := Kd.R_slice r4
      obtain ⟨nl, hnl⟩ : ∃ nl, nl = (needsV e).length := ⟨_, rfl⟩
      rw [← hnl] at el
      subst el
      have hnl6 : nl ≤ 300000 := by
        have h1 := HSE.out.ins
        have h2 := HSE.out.imp
        have h3 := HSE.out.ord
        rw [hnl]
        unfold needsV
        simp only [List.length_append]
        omega
      have HG4 := Lib.hid (HG2.out.moved b4)
      have HNL := Lib.hid hnl
      clear r4 b4 hnl q0 p0 p1 p2 p3 p4 p5
      go_wp2
      --S2
      go_loopw [7] (fun i wr => ∃ (j : Nat) (M' : Nat → Nat → Bool), j ≤ nl ∧ i = .int .i64 j ∧ Hid (Grid w1 wr gb n (k + 1) (fun i => if i = k then rk else r i) M') ∧ Hid (∀ a b, a < k → b < n → (M' a b = true ↔ Ed (aheadV m.edges) a b)) ∧ Hid (∀ b, b < n → (M' k b = true ↔ b ∈ madeF (makerOf m.edges) ((needsV e).take j))) ∧ Hid (Kd.string.R 9 wr 0 (fun _ => True) (.slice Al nl cl) (needsV e))) (fun i _ => nl - (intOf i).toNat)
      case atStart =>
        refine ⟨0, _, by omega, rfl, HG4.out, fun a b ha hb => ?_, fun b hb => ?_, HR4.out⟩
        · show (if a = k then false else M a b) = true ↔ _
          rw [if_neg (by omega)]
          exact HM.out a b ha hb
        · show (if k = k then false else M k b) = true ↔ _
          rw [if_pos rfl, List.take_zero]
          constructor
          · intro h; cases h
          · intro h; cases h
      case round =>
        obtain ⟨j, M', hj, rfl, HGj, HMa, HMk, HRj⟩ := hrel
        by_cases l2 : j < nl
        · have hjl : j < (needsV e).length := by rw [← HNL.out]; exact l2
          obtain ⟨ad2, e2, qs⟩ := ss_get (r_ss HRj.out) j hjl
          subst e2
          have HTJ := Lib.hid (take_at (needsV e) ByteArray.empty j hjl)
          obtain ⟨s, hs⟩ : ∃ s, s = (needsV e).getD j ByteArray.empty := ⟨_, rfl⟩
          rw [← hs] at qs HTJ
          have QS := Lib.hid qs
          have XM := (HGj.out.below.block x (blk_lt HX.out)).trans HX.out
          have Q0 := Lib.hid (show wr.cell? ⟨x, 0, none⟩ = some (.slice (some ad) n ce) from blk_cell XM 0)
          have Q1 := Lib.hid (show wr.cell? ⟨x, 1, none⟩ = some vd from blk_cell XM 1)
          have HEj := Lib.hid (HE1.out.below HGj.out.below)
          clear hs hjl qs XM
          go_wp2
          --S3
          refine start_ (n := 7) (S := fun w' => Below wr.heap.size wr w' ∧ w'.cell? ⟨x, 0, none⟩ = some (.slice (some ad) n ce) ∧ w'.cell? ⟨x, 1, none⟩ = some vd ∧ w'.cell? (ad2.add j) = some (.string s)) (ds := []) #[false, false, false, false, false, false, false] (by kernel_rfl) rfl rfl ⟨Below.drew (Below.refl _ _), Q0.out, Q1.out, QS.out⟩ (fun hHeld => ?_)
          refine pure_ (i := 1) (N := some 40) (v := ?_) (a' := ?_) #[false, true, false, false, false, false, false] rfl rfl (by kernel_rfl) (fun _ _ _ h => h) (Or.inl ⟨by rfl, ?_⟩) ?_ ?_
          rotate_left
          · intro w'
            go_simp
            with_reducible rfl
          rotate_left
          · simp only [Act.put, List.setIfInBounds_toArray, List.set_cons_zero, List.set_cons_succ, i64_w, i32_w]
            rfl
          refine pure_ (i := 2) (N := some 41) (v := ?_) (a' := ?_) #[false, true, true, false, false, false, false] rfl rfl (by kernel_rfl) (fun _ _ _ h => h) (Or.inl ⟨by rfl, ?_⟩) ?_ ?_
          rotate_left
          · intro w'
            go_simp
            with_reducible rfl
          rotate_left
          · simp only [Act.put, List.setIfInBounds_toArray, List.set_cons_zero, List.set_cons_succ, i64_w, i32_w]
            rfl
          refine pure_ (i := 3) (N := some 42) (v := ?_) (a' := ?_) #[false, true, true, true, false, false, false] rfl rfl (by kernel_rfl) (fun _ _ _ h => h) (Or.inl ⟨by rfl, ?_⟩) ?_ ?_
          rotate_left
          · intro w'
            go_simp
            with_reducible rfl
          rotate_left
          · simp only [Act.put, List.setIfInBounds_toArray, List.set_cons_zero, List.set_cons_succ, i64_w, i32_w]
            rfl
          refine take_ (i := 0) (N := some 39) (v := ?_) (a' := ?_) #[true, true, true, true, false, false, false] rfl rfl (by kernel_rfl) (fun _ _ _ h => h) (Or.inl ⟨by rfl, ?_⟩) hHeld ?_ ?_
          rotate_left
          · rintro w' ⟨s0, s1, s2, s3⟩
            go_simp
            with_reducible rfl
          rotate_left
          · simp only [Act.put, List.setIfInBounds_toArray, List.set_cons_zero, List.set_cons_succ, i64_w, i32_w]
            rfl
          refine take_ (i := 4) (N := some 43) (v := ?_) (a' := ?_) #[true, true, true, true, true, false, false] rfl rfl (by kernel_rfl) (fun _ _ _ h => h) (Or.inl ⟨by rfl, ?_⟩) hHeld ?_ ?_
          rotate_left
          · rintro w' ⟨s0, s1, s2, s3⟩
            go_simp
            with_reducible rfl
          rotate_left
          · simp only [Act.put, List.setIfInBounds_toArray, List.set_cons_zero, List.set_cons_succ, i64_w, i32_w]
            rfl
          refine one_ (i := 5) (N := some 44) #[true, true, true, true, true, true, false] rfl rfl (by kernel_rfl) (by decide) (fun K hK => ?_)
          refine goes_ Try.func27 (by kernel_rfl) rfl #[.agg #[.slice (some ad) n ce, vd], .string s] (by rfl) rfl rfl (by first | (simp only [List.map_toArray, List.map_cons, List.map_nil]; done) | (simp only [List.map_toArray, List.map_cons, List.map_nil]; rfl) | rfl) ?_
          with_reducible refine (rmaker_any _ m.edges s _ _ _ rfl (HEj.out.below hHeld.1)).mono ?_
          rintro rr w5 ⟨rfl, b5⟩
          refine ⟨_, rfl, ?_⟩
          have HB5 := Lib.hid (hHeld.1.trans (b5.mono hHeld.1.size))
          clear b5
          refine hK.out _ _ ⟨HB5.out, pw_cell_below (HB5.out) Q0.out, pw_cell_below (HB5.out) Q1.out, pw_cell_below (HB5.out) QS.out⟩ (fun hHeld => ?_)
          clear hK K
          refine norm_ (a' := ?_) ?_ ?_
          rotate_left
          · show Act.put _ (some 44) _ = _
            simp only [Act.put, List.setIfInBounds_toArray, List.set_cons_zero, List.set_cons_succ, i64_w, i32_w]
            rfl
          refine pure_ (i := 6) (N := some 8) (v := ?_) (a' := ?_) #[true, true, true, true, true, true, true] rfl rfl (by kernel_rfl) (fun _ _ _ h => h) (Or.inl ⟨by rfl, ?_⟩) ?_ ?_
          rotate_left
          · intro w'
            go_simp
            with_reducible rfl
          rotate_left
          · simp only [Act.put, List.setIfInBounds_toArray, List.set_cons_zero, List.set_cons_succ, i64_w, i32_w]
            rfl
          refine done_ (by kernel_rfl) ?_
          clear hHeld
          have HG5 := Lib.hid (HGj.out.moved HB5.out)
          have HR5 := Lib.hid (Kd.R_below HRj.out HB5.out)
          obtain ⟨t, ht⟩ : ∃ t, t = makerOf m.edges s := ⟨_, rfl⟩
          have hmk : mkI m.edges s = mkO t := by rw [ht]; rfl
          rw [hmk]
          have HT := Lib.hid ht
          clear hmk ht
          cases t with
          | none =>
            rw [show mkO none = -1 from rfl]
            have HMk2 : Hid (∀ b, b < n → (M' k b = true ↔ b ∈ madeF (makerOf m.edges) ((needsV e).take (j + 1)))) := fun b hb => by
              rw [HTJ.out.1, madeF_snoc, ← HT.out]
              exact HMk.out b hb
            go_wp2
            go_roundw
            case rel => exact ⟨j + 1, M', by omega, by go_num, HG5.out, HMa.out, HMk2.out, HR5.out⟩
            case measure => simp [intOf]; omega
          | some z =>
            rw [show mkO (some z) = (z : Int) from rfl]
            have hzn : z < n := by rw [HN.out]; exact maker_lt HT.out.symm
            have c0 : decide ((0 : Int) ≤ (z : Int)) = true := decide_eq_true (Int.natCast_nonneg z)
            have k1 : k < k + 1 := Nat.lt_succ_self k
            have c1 := HG5.out.cell k1
            rw [if_pos rfl] at c1
            have c2 := HG5.out.bit k1 hzn
            have c3 := HG5.out.free k1 z
            rw [if_pos rfl] at c2 c3
            have HGp := Lib.hid (HG5.out.put k1 hzn)
            have HRp : Hid (Kd.string.R 9 (w5.setCell ⟨rk, z, none⟩ (.bool true)) 0 (fun _ => True) (.slice (some ad2) nl cl) (needsV e)) := by
              have h := HG5.out.row k k1
              rw [if_pos rfl] at h
              exact Kd.R_set HR5.out h (by decide) z _
            rw [if_pos rfl] at HGp
            have HMa2 : Hid (∀ a b, a < k → b < n → (updM M' k z a b = true ↔ Ed (aheadV m.edges) a b)) := fun a b ha hb => by
              unfold updM
              rw [if_neg (by omega)]
              exact HMa.out a b ha hb
            have HMk2 : Hid (∀ b, b < n → (updM M' k z k b = true ↔ b ∈ madeF (makerOf m.edges) ((needsV e).take (j + 1)))) := fun b hb => by
              have h0 := HMk.out b hb
              rw [mem_madeF] at h0 ⊢
              rw [HTJ.out.1]
              unfold updM
              by_cases hbz : b = z
              · rw [if_pos ⟨rfl, hbz⟩]
                exact ⟨fun _ => ⟨s, List.mem_append_right _ (by simp), by rw [← HT.out, hbz]⟩, fun _ => rfl⟩
              · rw [if_neg (fun h => hbz h.2), h0]
                constructor
                · rintro ⟨q, hq, e2⟩; exact ⟨q, List.mem_append_left _ hq, e2⟩
                · rintro ⟨q, hq, e2⟩
                  rcases List.mem_append.1 hq with hq | hq
                  · exact ⟨q, hq, e2⟩
                  · rw [List.mem_singleton.1 hq, ← HT.out] at e2
                    exact absurd (Option.some.inj e2).symm hbz
            go_wp2
            --S4
            go_roundw
            case rel => exact ⟨j + 1, _, by omega, by go_num, HGp.out, HMa2.out, HMk2.out, HRp.out⟩
            case measure => simp [intOf]; omega
        · have hj2 : j = nl := by omega
          have HMF : Hid (∀ a b, a < k + 1 → b < n → (M' a b = true ↔ Ed (aheadV m.edges) a b)) := fun a b ha hb => by
            by_cases hak : a = k
            · rw [hak]
              have h := HMk.out b hb
              rw [hj2, HNL.out, List.take_length] at h
              unfold Ed
              rw [HAK.out]
              exact h
            · exact HMa.out a b (by omega) hb
          clear hj2
          go_wp2
          go_roundw
          case rel => exact ⟨k + 1, _, _, by omega, by go_num, HGj.out, HMF.out⟩
          case measure => simp [intOf]; omega
    · --S5
      have hk2 : k = n := by omega
      have hk3 := hk2.symm
      subst hk3
      clear hk2
      have HF0 : Hid (FW (Ed (aheadV m.edges)) n 0 0 0 M) := FW.start (fun a b ha hb => HM.out a b ha hb)
      go_wp2
      clear HM
      --S6
      go_loopw [9] (fun i wr => ∃ (k : Nat) (M : Nat → Nat → Bool), k ≤ n ∧ i = .int .i64 k ∧ Hid (Grid w1 wr gb n n r M) ∧ Hid (FW (Ed (aheadV m.edges)) n k 0 0 M)) (fun i _ => n - (intOf i).toNat)
      case atStart => exact ⟨0, _, by omega, rfl, HG.out, HF0.out⟩
      case round =>
        clear HG HF0 M l1 hk
        obtain ⟨k, M, hk, rfl, HG, HF⟩ := hrel
        by_cases l1 : k < n
        · go_wp2
          --S7
          go_loopw [10] (fun i wr => ∃ (i' : Nat) (M : Nat → Nat → Bool), i' ≤ n ∧ i = .int .i64 i' ∧ Hid (Grid w1 wr gb n n r M) ∧ Hid (FW (Ed (aheadV m.edges)) n k i' 0 M)) (fun i _ => n - (intOf i).toNat)
          case atStart => exact ⟨0, _, by omega, rfl, HG.out, HF.out⟩
          case round =>
            clear HG HF M
            obtain ⟨i, M, hi, rfl, HG, HF⟩ := hrel
            by_cases l2 : i < n
            · go_wp2
              --S8
              go_loopw [11] (fun jv wr => ∃ (j : Nat) (M : Nat → Nat → Bool), j ≤ n ∧ jv = .int .i64 j ∧ Hid (Grid w1 wr gb n n r M) ∧ Hid (FW (Ed (aheadV m.edges)) n k i j M)) (fun jv _ => n - (intOf jv).toNat)
              case atStart => exact ⟨0, _, by omega, rfl, HG.out, HF.out⟩
              case round =>
                clear HG HF M
                obtain ⟨j, M, hj, rfl, HG, HF⟩ := hrel
                by_cases l3 : j < n
                · have c1 := HG.out.cell l2
                  have c2 := HG.out.bit l2 l1
                  have c3 := HG.out.cell l1
                  have c4 := HG.out.bit l1 l3
                  obtain ⟨b1, hb1⟩ : ∃ b1, b1 = M i k := ⟨_, rfl⟩
                  obtain ⟨b2, hb2⟩ : ∃ b2, b2 = M k j := ⟨_, rfl⟩
                  rw [← hb1] at c2
                  rw [← hb2] at c4
                  have H1 := Lib.hid hb1
                  have H2 := Lib.hid hb2
                  clear hb1 hb2
                  by_cases hbb : b1 = true ∧ b2 = true
                  · obtain ⟨rfl, rfl⟩ := hbb
                    have HFp := Lib.hid (HF.out.put l2 l3 l1 H1.out.symm H2.out.symm)
                    have HGp := Lib.hid (HG.out.put l2 l3)
                    have c5 := HG.out.bit l2 l3
                    have c6 := HG.out.free l2 j
                    go_wp2
                    go_roundw
                    case rel => exact ⟨j + 1, _, by omega, by go_num, HGp.out, HFp.out⟩
                    case measure => simp [intOf]; omega
                  · have HFp := Lib.hid (HF.out.skip l2 l3 l1 (fun h => hbb ⟨H1.out.trans h.1, H2.out.trans h.2⟩))
                    have HBB := Lib.hid hbb
                    clear hbb
                    cases b1 with
                    | false =>
                      go_wp2
                      go_roundw
                      case rel => exact ⟨j + 1, _, by omega, by go_num, HG.out, HFp.out⟩
                      case measure => simp [intOf]; omega
                    | true =>
                      cases b2 with
                      | true => exact absurd ⟨rfl, rfl⟩ HBB.out
                      | false =>
                        go_wp2
                        go_roundw
                        case rel => exact ⟨j + 1, _, by omega, by go_num, HG.out, HFp.out⟩
                        case measure => simp [intOf]; omega
                · have hj2 : j = n := by omega
                  have HFR : Hid (FW (Ed (aheadV m.edges)) n k (i + 1) 0 M) := by have h := HF.out; rw [hj2] at h; exact h.row
                  clear hj2
                  go_wp2
                  go_roundw
                  case rel => exact ⟨i + 1, _, by omega, by go_num, HG.out, HFR.out⟩
                  case measure => simp [intOf]; omega
            · have hi2 : i = n := by omega
              have HFR : Hid (FW (Ed (aheadV m.edges)) n (k + 1) 0 0 M) := by have h := HF.out; rw [hi2] at h; exact h.phase
              clear hi2
              go_wp2
              go_roundw
              case rel => exact ⟨k + 1, _, by omega, by go_num, HG.out, HFR.out⟩
              case measure => simp [intOf]; omega
        · have hk2 : k = n := by omega
          have HFF : Hid (FW (Ed (aheadV m.edges)) n n 0 0 M) := by have h := HF.out; rw [hk2] at h; exact h
          clear hk2
          go_wp2
          go_ret
          refine ⟨gb, r, M, rfl, ⟨HG.out.outer, HG.out.row, HG.out.inj, HB1.out.trans (HG.out.below.mono HB1.out.size), Nat.le_trans HB1.out.size HG.out.hg, fun i hi => Nat.le_trans HB1.out.size (HG.out.hr i hi)⟩, fun a b ha hb => HFF.out.fin (fun a b h => by have h2 := ed_lt h; unfold aheadV at h2; rw [List.length_map, ← HN.out] at h2; exact h2) ha hb⟩
--END WALK
end Go.Proofs.Ytifbkojapfighaa.Gr
