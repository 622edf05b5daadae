/- bellowsref13.In, .Maker, .Needs; bellowsref11.Names (walks). -/
import Derived.Test.YtifbkojapfighaaGrFew
namespace Go.Proofs.Ytifbkojapfighaa.Gr
open Go.RowKit Go.Proofs.YtifbkojapfighaaW.PrintWords Go.Proofs.YtifbkojapfighaaW.PrintLast Go.Proofs.Ytifbkojapfighaa.Base Go.Maps
set_option linter.unusedVariables false
set_option linter.unusedSimpArgs false
theorem ss_get {w : World} {A : Option Addr} {n c : Nat} {l : List ByteArray} (h : Ss w (.slice A n c) l) (k : Nat) (hk : k < l.length) : ∃ ad, A = some ad ∧ w.cell? (ad.add k) = some (.string (l.getD k ByteArray.empty)) := by
  obtain ⟨Ax, cx, ex, _, _, hcel⟩ := h
  injection ex with ex1 ex2 ex3
  subst ex1
  obtain ⟨ad, ead, hcell⟩ := hcel (by omega)
  exact ⟨ad, ead, hcell k hk⟩
set_option maxHeartbeats 1600000 in
theorem in_any (v : Value) (l : List ByteArray) (s : ByteArray) (w : World) (h : Ss w v l) :
    Calls Try.prog 40 #[v, .string s] w fun e w' => e = .returned (.bool (decide (s ∈ l))) ∧ w' = w := by
  obtain ⟨A, c, rfl, hc, hm⟩ := ss_len h
  obtain ⟨n, hn⟩ : ∃ n, n = l.length := ⟨_, rfl⟩
  rw [← hn] at hc hm h ⊢
  have HSS := Lib.hid h
  have HN := Lib.hid hn
  clear h hn
  go_enter Try.func40, Try.ntmps40
  go_wp2
  go_loopw [5] (fun i wr => ∃ k : Nat, k ≤ n ∧ i = .int .i64 k ∧ wr = w ∧ Hid (∀ j, j < k → l.getD j ByteArray.empty ≠ s)) (fun i _ => n - (intOf i).toNat)
  case atStart => exact ⟨0, by omega, rfl, rfl, fun j hj => absurd hj (Nat.not_lt_zero _)⟩
  case round =>
    obtain ⟨k, hk, rfl, hwr, HNE⟩ := hrel
    have hwr := hwr.symm
    subst hwr
    by_cases l1 : k < n
    · have hkl : k < l.length := by rw [← HN.out]; exact l1
      obtain ⟨ad, rfl, q⟩ := ss_get HSS.out k hkl
      have HGD : Hid (l.getD k ByteArray.empty ∈ l) := (take_at l ByteArray.empty k hkl).2
      obtain ⟨y, hy⟩ : ∃ y, y = l.getD k ByteArray.empty := ⟨_, rfl⟩
      rw [← hy] at q
      have HY := Lib.hid hy
      clear hkl hy
      by_cases hs : y = s
      · have hb : (y.toList == s.toList) = true := by rw [hs]; exact beq_self_eq_true _
        have HM : Hid (s ∈ l) := by show s ∈ l; rw [← hs, HY.out]; exact HGD.out
        clear hs
        go_wp2
        go_ret
        exact ⟨by rw [decide_eq_true HM.out]; rfl, rfl⟩
      · have hb : (y.toList == s.toList) = false := by rw [str_eqb]; exact decide_eq_false hs
        have HS := Lib.hid hs
        clear hs
        go_wp2
        go_roundw
        case rel => exact ⟨k + 1, by omega, by go_num, trivial, fun j hj => by
          rcases Nat.lt_succ_iff_lt_or_eq.1 hj with h | h
          · exact HNE.out j h
          · rw [h, ← HY.out]; exact HS.out⟩
        case measure => simp [intOf]; omega
    · have hk2 : k = n := by omega
      have HM : Hid (s ∉ l) := by
        intro hm
        obtain ⟨j, hj, e⟩ := List.mem_iff_getElem.1 hm
        refine HNE.out j (by rw [hk2, HN.out]; exact hj) ?_
        rw [List.getD_eq_getElem?_getD, List.getElem?_eq_getElem hj]
        exact e
      clear hk2
      go_wp2
      go_ret
      exact ⟨by rw [decide_eq_false HM.out]; rfl, rfl⟩
/-- The maker's number, or -1. -/
def mkI (es : List EdgeV) (s : ByteArray) : Int := match makerOf es s with | some n => (n : Int) | none => -1
theorem makerOf_at {es : List EdgeV} {s : ByteArray} {k : Nat} (hk : k < es.length) (h : ∀ j, j < k → s ∉ (es.getD j zedge).outs) (hs : s ∈ (es.getD k zedge).outs) : makerOf es s = some k := by
  unfold makerOf
  rw [List.findIdx?_eq_some_iff_getElem]
  have hg : ∀ j (hj : j < es.length), es.getD j zedge = es[j] := fun j hj => by rw [List.getD_eq_getElem?_getD, List.getElem?_eq_getElem hj]; rfl
  refine ⟨hk, decide_eq_true (by rw [← hg k hk]; exact hs), fun j hj => ?_⟩
  simp only [decide_eq_true_eq, Bool.not_eq_true]
  have h1 := h j hj
  rw [hg j (by omega)] at h1
  simpa using h1
theorem makerOf_no {es : List EdgeV} {s : ByteArray} (h : ∀ j, j < es.length → s ∉ (es.getD j zedge).outs) : makerOf es s = none := by
  unfold makerOf
  rw [List.findIdx?_eq_none_iff]
  intro e he
  obtain ⟨j, hj, e2⟩ := List.mem_iff_getElem.1 he
  have h1 := h j hj
  rw [List.getD_eq_getElem?_getD, List.getElem?_eq_getElem hj] at h1
  rw [← e2]
  exact decide_eq_false h1
set_option maxHeartbeats 1600000 in
theorem rmaker_any (v : Value) (es : List EdgeV) (s : ByteArray) (w : World) (ve vd : Value) (hv : v = .agg #[ve, vd]) (hE : Ez w ve es) :
    Calls Try.prog 27 #[v, .string s] w fun e w' => e = .returned (.int .i64 (mkI es s)) ∧ Below w.heap.size w w' := by
  subst hv
  obtain ⟨Ae, ce, rfl, hce, hme⟩ := hE.len
  obtain ⟨n, hn⟩ : ∃ n, n = es.length := ⟨_, rfl⟩
  rw [← hn] at hce hme hE ⊢
  obtain ⟨x, hx⟩ : ∃ x, w.heap.size = x := ⟨_, rfl⟩
  obtain ⟨w1, hw1⟩ : ∃ w1, w1 = w.alloc (.cells #[.slice Ae n ce, vd] 25) := ⟨_, rfl⟩
  have hb1 : Below w.heap.size w w1 := by rw [hw1]; exact below_alloc (Below.refl _ _) _
  have hX : w1.heap[x]? = some (.cells #[.slice Ae n ce, vd] 25 (0, 0)) := by rw [hw1, ← hx]; exact blk_new w _
  have HE1 := Lib.hid (hE.below hb1)
  have HB1 := Lib.hid hb1
  have HW := Lib.hid hw1
  have HN := Lib.hid hn
  have q0 := (show w1.cell? ⟨x, 0, none⟩ = some (.slice Ae n ce) from blk_cell hX 0)
  clear hE hb1 hX hw1 hn
  go_enter Try.func27, Try.ntmps27
  go_upto_region 1 with (fail)
  rw [← HW.out]
  try rw [hx]
  clear hx
  go_wp2
  go_loopw [5] (fun i wr => ∃ k : Nat, k ≤ n ∧ i = .int .i64 k ∧ wr = w1 ∧ Hid (∀ j, j < k → s ∉ (es.getD j zedge).outs)) (fun i _ => n - (intOf i).toNat)
  case atStart => exact ⟨0, by omega, rfl, rfl, fun j hj => absurd hj (Nat.not_lt_zero _)⟩
  case round =>
    obtain ⟨k, hk, rfl, hwr, HK⟩ := hrel
    have hwr := hwr.symm
    subst hwr
    by_cases l1 : k < n
    · have hkl : k < es.length := by rw [← HN.out]; exact l1
      obtain ⟨ad, vo, vi, vm, vr, e1, p0, p1, p2, p3, p4, p5, hec⟩ := HE1.out.get k hkl
      subst e1
      have SO := Lib.hid hec.1
      obtain ⟨lo, hlo⟩ : ∃ lo, lo = (es.getD k zedge).outs := ⟨_, rfl⟩
      rw [← hlo] at SO
      have HLO := Lib.hid hlo
      clear p1 p2 p3 p4 p5 hec hkl hlo
      obtain ⟨b, hb⟩ : ∃ b, b = decide (s ∈ lo) := ⟨_, rfl⟩
      have HBD := Lib.hid hb
      clear hb
      go_wp2_with fail
      refine (in_any vo lo s _ SO.out).mono ?_
      rintro e w3 ⟨rfl, hw3⟩
      have hw3 := hw3.symm
      subst hw3
      rw [← HBD.out]
      cases b with
      | true =>
        have HM : Hid (mkI es s = (k : Int)) := by
          show _ = _
          unfold mkI
          rw [makerOf_at (by rw [← HN.out]; exact l1) HK.out (by rw [← HLO.out]; exact of_decide_eq_true HBD.out.symm)]
        go_wp2
        go_ret
        exact ⟨by rw [HM.out]; rfl, HB1.out⟩
      | false =>
        have HK2 : Hid (∀ j, j < k + 1 → s ∉ (es.getD j zedge).outs) := fun j hj => by
          rcases Nat.lt_succ_iff_lt_or_eq.1 hj with h | h
          · exact HK.out j h
          · rw [h, ← HLO.out]; exact of_decide_eq_false HBD.out.symm
        go_wp2
        go_roundw
        case rel => exact ⟨k + 1, by omega, by go_num, trivial, HK2.out⟩
        case measure => simp [intOf]; omega
    · have hk2 : k = n := by omega
      have HM : Hid (mkI es s = -1) := by
        show _ = _
        unfold mkI
        rw [makerOf_no (fun j hj => HK.out j (by rw [hk2, HN.out]; exact hj))]
      clear hk2
      go_wp2
      go_ret
      exact ⟨by rw [HM.out]; rfl, HB1.out⟩
set_option maxHeartbeats 1600000 in
theorem rnames_any (va vb : Value) (a b : List ByteArray) (w : World) (ha : Ss w va a) (hb : Ss w vb b) :
    Calls Try.prog 18 #[va, vb] w fun e w' => e = .returned (.bool (decide (a = b))) ∧ Below w.heap.size w w' := by
  obtain ⟨A, c, rfl, hc, hm⟩ := ss_len ha
  obtain ⟨B, d, rfl, hd, hm2⟩ := ss_len hb
  obtain ⟨n, hn⟩ : ∃ n, n = a.length := ⟨_, rfl⟩
  obtain ⟨q, hq⟩ : ∃ q, q = b.length := ⟨_, rfl⟩
  rw [← hn] at hc hm ha ⊢
  rw [← hq] at hd hm2 hb ⊢
  have HA := Lib.hid ha
  have HB := Lib.hid hb
  have HN := Lib.hid hn
  have HQ := Lib.hid hq
  clear ha hb hn hq
  by_cases hl : n = q
  · subst hl
    have h1 : ((n : Int) != (n : Int)) = false := bne_self_eq_false _
    go_enter Try.func18, Try.ntmps18
    go_wp2
    clear h1
    go_loopw [5] (fun i wr => ∃ k : Nat, k ≤ n ∧ i = .int .i64 k ∧ Hid (Below w.heap.size w wr) ∧ Hid (∀ j, j < k → a.getD j ByteArray.empty = b.getD j ByteArray.empty)) (fun i _ => n - (intOf i).toNat)
    case atStart => exact ⟨0, by omega, rfl, Below.refl _ _, fun j hj => absurd hj (Nat.not_lt_zero _)⟩
    case round =>
      obtain ⟨k, hk, rfl, HBW, HK⟩ := hrel
      by_cases l1 : k < n
      · obtain ⟨ad, rfl, p1⟩ := ss_get (HA.out.below HBW.out) k (by rw [← HN.out]; exact l1)
        obtain ⟨bd, rfl, p2⟩ := ss_get (HB.out.below HBW.out) k (by rw [← HQ.out]; exact l1)
        have hk6 : k < 9223372036854775807 := by omega
        obtain ⟨x, hx⟩ : ∃ x, x = a.getD k ByteArray.empty := ⟨_, rfl⟩
        obtain ⟨y, hy⟩ : ∃ y, y = b.getD k ByteArray.empty := ⟨_, rfl⟩
        rw [← hx] at p1
        rw [← hy] at p2
        have HX := Lib.hid hx
        have HY := Lib.hid hy
        clear hx hy
        by_cases hxy : x = y
        · have h1 : (x.toList != x.toList) = false := by simp
          have HK2 : Hid (∀ j, j < k + 1 → a.getD j ByteArray.empty = b.getD j ByteArray.empty) := fun j hj => by
            rcases Nat.lt_succ_iff_lt_or_eq.1 hj with h | h
            · exact HK.out j h
            · rw [h, ← HX.out, ← HY.out, hxy]
          rw [← hxy] at p2
          clear hxy
          go_wp2
          go_quiet (fail)
          have HBQ : Hid (Below w.heap.size w (wr.drewN nq)) := pw_below_drewN HBW.out _
          go_wp2
          go_roundw
          case rel => exact ⟨k + 1, by omega, by go_num, HBQ.out, HK2.out⟩
          case measure => simp [intOf]; omega
        · have h2 : (x.toList == y.toList) = false := by rw [str_eqb]; exact decide_eq_false hxy
          have h1 : (x.toList != y.toList) = true := by simp [bne, h2]
          have HNE : Hid (a ≠ b) := fun e => hxy (by rw [HX.out, HY.out, e])
          clear hxy
          go_wp2
          go_quiet (fail)
          go_wp2
          go_ret
          exact ⟨by rw [decide_eq_false HNE.out]; rfl, pw_below_drewN HBW.out _⟩
      · have hk2 : k = n := by omega
        have HE : Hid (a = b) := by
          show a = b
          refine List.ext_getElem (by rw [← HN.out, ← HQ.out]) fun j h1 h2 => ?_
          have h := HK.out j (by rw [hk2, HN.out]; exact h1)
          rwa [List.getD_eq_getElem?_getD, List.getD_eq_getElem?_getD, List.getElem?_eq_getElem h1, List.getElem?_eq_getElem h2] at h
        clear hk2 HK
        go_wp2
        go_ret
        exact ⟨by rw [decide_eq_true HE.out]; rfl, HBW.out⟩
  · have h1 : ((n : Int) != (q : Int)) = true := by rw [bne_iff_ne]; omega
    have HNE : Hid (a ≠ b) := fun e => hl (by rw [HN.out, HQ.out, e])
    clear hl
    go_enter Try.func18, Try.ntmps18
    go_wp2
    go_ret
    exact ⟨by rw [decide_eq_false HNE.out]; rfl, Below.refl _ _⟩
end Go.Proofs.Ytifbkojapfighaa.Gr
