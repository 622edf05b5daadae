/- bellowslaw13.numbers (walk). -/
import Derived.Test.YtifbkojapfighaaGrMade
namespace Go.Proofs.Ytifbkojapfighaa.Gr
open Go.RowKit Go.Proofs.YtifbkojapfighaaW.PrintWords Go.Proofs.YtifbkojapfighaaW.PrintLast Go.Proofs.Ytifbkojapfighaa.Base Go.Maps
set_option linter.unusedVariables false
set_option linter.unusedSimpArgs false

set_option maxHeartbeats 1600000 in
theorem numbers_any (va vb : Value) (a b : List Nat) (w : World) (ha : Is w va a) (hb : Is w vb b) :
    Calls Try.prog 16 #[va, vb] w fun e w' => e = .returned (.bool (decide (a = b))) ∧ Below w.heap.size w w' := by
  obtain ⟨A, c, rfl, hc, hm⟩ := ha.len
  obtain ⟨B, d, rfl, hd, hm2⟩ := hb.len
  obtain ⟨n, hn⟩ : ∃ n, n = a.length := ⟨_, rfl⟩
  obtain ⟨q, hq⟩ : ∃ q, q = b.length := ⟨_, rfl⟩
  rw [← hn] at hc hm ha ⊢
  rw [← hq] at hd hm2 hb ⊢
  have HA := Lib.hid ha
  have HB := Lib.hid hb
  have HN := Lib.hid hn
  have HQ := Lib.hid hq
  clear ha hb hn hq
  by_cases hl : n = q
  · subst hl
    have h1 : ((n : Int) != (n : Int)) = false := bne_self_eq_false _
    go_enter Try.func16, Try.ntmps16
    go_wp2
    clear h1
    go_loopw [5] (fun i wr => ∃ k : Nat, k ≤ n ∧ i = .int .i64 k ∧ Hid (Below w.heap.size w wr) ∧ Hid (∀ j, j < k → a.getD j 0 = b.getD j 0)) (fun i _ => n - (intOf i).toNat)
    case atStart => exact ⟨0, by omega, rfl, Below.refl _ _, fun j hj => absurd hj (Nat.not_lt_zero _)⟩
    case round =>
      obtain ⟨k, hk, rfl, HBW, HK⟩ := hrel
      by_cases l1 : k < n
      · obtain ⟨ad, rfl, p1⟩ := (HA.out.below HBW.out).get k (by rw [← HN.out]; exact l1)
        obtain ⟨bd, rfl, p2⟩ := (HB.out.below HBW.out).get k (by rw [← HQ.out]; exact l1)
        have hk6 : k < 9223372036854775807 := by omega
        obtain ⟨x, hx⟩ : ∃ x, x = a.getD k 0 := ⟨_, rfl⟩
        obtain ⟨y, hy⟩ : ∃ y, y = b.getD k 0 := ⟨_, rfl⟩
        rw [← hx] at p1
        rw [← hy] at p2
        have HX := Lib.hid hx
        have HY := Lib.hid hy
        clear hx hy
        by_cases hxy : x = y
        · have h1 : ((x : Int) != (y : Int)) = false := by rw [hxy]; exact bne_self_eq_false _
          have HK2 : Hid (∀ j, j < k + 1 → a.getD j 0 = b.getD j 0) := fun j hj => by
            rcases Nat.lt_succ_iff_lt_or_eq.1 hj with h | h
            · exact HK.out j h
            · rw [h, ← HX.out, ← HY.out, hxy]
          clear hxy
          go_wp2
          go_quiet (fail)
          have HBQ : Hid (Below w.heap.size w (wr.drewN nq)) := pw_below_drewN HBW.out _
          go_wp2
          go_roundw
          case rel => exact ⟨k + 1, by omega, by go_num, HBQ.out, HK2.out⟩
          case measure => simp [intOf]; omega
        · have h1 : ((x : Int) != (y : Int)) = true := by rw [bne_iff_ne]; omega
          have HNE : Hid (a ≠ b) := fun e => hxy (by rw [HX.out, HY.out, e])
          clear hxy
          go_wp2
          go_quiet (fail)
          go_wp2
          go_ret
          exact ⟨by rw [decide_eq_false HNE.out]; rfl, pw_below_drewN HBW.out _⟩
      · have hk2 : k = n := by omega
        have HE : Hid (a = b) := by
          show a = b
          refine List.ext_getElem (by rw [← HN.out, ← HQ.out]) fun j h1 h2 => ?_
          have h := HK.out j (by rw [hk2, HN.out]; exact h1)
          rwa [List.getD_eq_getElem?_getD, List.getD_eq_getElem?_getD, List.getElem?_eq_getElem h1, List.getElem?_eq_getElem h2] at h
        clear hk2 HK
        go_wp2
        go_ret
        exact ⟨by rw [decide_eq_true HE.out]; rfl, HBW.out⟩
  · have h1 : ((n : Int) != (q : Int)) = true := by rw [bne_iff_ne]; omega
    have HNE : Hid (a ≠ b) := fun e => hl (by rw [HN.out, HQ.out, e])
    clear hl
    go_enter Try.func16, Try.ntmps16
    go_wp2
    go_ret
    exact ⟨by rw [decide_eq_false HNE.out]; rfl, Below.refl _ _⟩
/-- Rising rows with the same elements are the same. -/
theorem rise_ext {α : Type} {r : α → α → Prop} (hir : ∀ a, ¬ r a a) (has : ∀ a b, r a b → r b a → False) : ∀ (l m : List α), l.Pairwise r → m.Pairwise r → (∀ x, x ∈ l ↔ x ∈ m) → l = m
  | [], [], _, _, _ => rfl
  | [], b :: m, _, _, h => by have := (h b).2 (.head _); cases this
  | a :: l, [], _, _, h => by have := (h a).1 (.head _); cases this
  | a :: l, b :: m, hl, hm, h => by
    rw [List.pairwise_cons] at hl hm
    have e : a = b := by
      rcases List.mem_cons.1 ((h a).1 (.head _)) with e | e
      · exact e
      · rcases List.mem_cons.1 ((h b).2 (.head _)) with e2 | e2
        · exact e2.symm
        · exact (has _ _ (hm.1 a e) (hl.1 b e2)).elim
    subst e
    congr 1
    refine rise_ext hir has l m hl.2 hm.2 fun x => ⟨fun hx => ?_, fun hx => ?_⟩
    · rcases List.mem_cons.1 ((h x).1 (.tail _ hx)) with e | e
      · subst e; exact (hir _ (hl.1 _ hx)).elim
      · exact e
    · rcases List.mem_cons.1 ((h x).2 (.tail _ hx)) with e | e
      · subst e; exact (hir _ (hm.1 _ hx)).elim
      · exact e
end Go.Proofs.Ytifbkojapfighaa.Gr
