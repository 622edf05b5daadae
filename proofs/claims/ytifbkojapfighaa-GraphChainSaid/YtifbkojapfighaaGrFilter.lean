/- Plain law: of an order the part that stands for itself is its own order. Rows of truths. Beginnings of rows of texts. -/
import Derived.Test.YtifbkojapfighaaGrWrong
import Derived.Test.YtifbkojapfighaaGrAwake
namespace Go.Proofs.Ytifbkojapfighaa.Gr
open Go.RowKit Go.Proofs.YtifbkojapfighaaW.PrintWords Go.Proofs.YtifbkojapfighaaW.PrintLast Go.Proofs.Ytifbkojapfighaa.Base Go.Maps
set_option linter.unusedVariables false
set_option linter.unusedSimpArgs false

theorem find_filter {α : Type} {p q p' : α → Bool} : ∀ (l : List α) (n : α), l.find? p = some n → q n = true → (∀ x, q x = true → p' x = p x) → (l.filter q).find? p' = some n
  | [], n, h, _, _ => by cases h
  | a :: l, n, h, hq, hp => by
    rw [List.find?_cons] at h
    cases ha : p a with
    | true =>
      rw [ha] at h
      obtain rfl : a = n := Option.some.inj h
      rw [List.filter_cons, if_pos hq, List.find?_cons, hp _ hq, ha]
    | false =>
      rw [ha] at h
      have h : l.find? p = some n := h
      have ih := find_filter l n h hq hp
      rw [List.filter_cons]
      split
      · rename_i hqa
        rw [List.find?_cons, hp _ hqa, ha]
        exact ih
      · exact ih
theorem find_filter_none {α : Type} {p q p' : α → Bool} (l : List α) (h : l.find? p = none) (hp : ∀ x, q x = true → p' x = p x) : (l.filter q).find? p' = none := by
  rw [List.find?_eq_none] at *
  intro x hx
  have h1 := List.mem_filter.1 hx
  rw [hp x h1.2]
  exact h x h1.1
theorem orderF_filter {ah : List (List Nat)} {s1 s2 : List Nat} (hs : s1 = s2.filter fun x => decide (x ∈ s1)) (hcl : ∀ n ∈ s1, ∀ k ∈ ah.getD n [], k ∈ s1) : ∀ (f2 : Nat) (out2 : List Nat) (f1 : Nat), out2.Nodup → (∀ x ∈ out2, x ∈ s2) → s2.length < f2 + out2.length → s1.length < f1 + (out2.filter fun x => decide (x ∈ s1)).length →
    (orderF ah s2 f2 out2).filter (fun x => decide (x ∈ s1)) = orderF ah s1 f1 (out2.filter fun x => decide (x ∈ s1))
  | 0, out2, f1, hn, hsub, hl, _ => by have := nodup_sub_len hn hsub; omega
  | f2 + 1, out2, f1, hn, hsub, hl, hl1 => by
    have hready : ∀ x, decide (x ∈ s1) = true → readyB ah (out2.filter fun x => decide (x ∈ s1)) x = readyB ah out2 x := fun x hx => by
      have hx := of_decide_eq_true hx
      rw [Bool.eq_iff_iff, ready_iff, ready_iff]
      have hm : ∀ y, y ∈ s1 → (y ∈ (out2.filter fun x => decide (x ∈ s1)) ↔ y ∈ out2) := fun y hy => by rw [List.mem_filter]; simp [hy]
      rw [hm x hx]
      exact ⟨fun h => ⟨h.1, fun k hk => (hm k (hcl x hx k hk)).1 (h.2 k hk)⟩, fun h => ⟨h.1, fun k hk => (hm k (hcl x hx k hk)).2 (h.2 k hk)⟩⟩
    have hstop : ∀ g out, s1.find? (readyB ah out) = none → orderF ah s1 g out = out := fun g out h => by
      cases g with
      | zero => rfl
      | succ g => unfold orderF; rw [h]
    unfold orderF
    cases hf : s2.find? (readyB ah out2) with
    | none =>
      have h1 := find_filter_none s2 hf hready
      rw [← hs] at h1
      rw [← orderF.eq_def]
      exact (hstop _ _ h1).symm
    | some n =>
      have hnr := ready_iff.1 (List.find?_some hf)
      have hns := List.mem_of_find?_eq_some hf
      have hn2 : (out2 ++ [n]).Nodup := List.nodup_append.2 ⟨hn, by simp, fun a ha b hb e => by rw [List.mem_singleton.1 hb] at e; exact hnr.1 (e ▸ ha)⟩
      have hsub2 : ∀ x ∈ out2 ++ [n], x ∈ s2 := fun x hx => by
        rcases List.mem_append.1 hx with hx | hx
        · exact hsub x hx
        · rw [List.mem_singleton.1 hx]; exact hns
      rw [← orderF.eq_def]
      by_cases hq : n ∈ s1
      · have h1 := find_filter s2 n hf (decide_eq_true hq) hready
        rw [← hs] at h1
        have hflt : ((out2 ++ [n]).filter fun x => decide (x ∈ s1)) = (out2.filter fun x => decide (x ∈ s1)) ++ [n] := by simp [List.filter_append, hq]
        cases f1 with
        | zero =>
          have hn1 : ((out2 ++ [n]).filter fun x => decide (x ∈ s1)).Nodup := hn2.filter _
          have := nodup_sub_len hn1 (m := s1) fun x hx => of_decide_eq_true (List.mem_filter.1 hx).2
          rw [hflt, List.length_append] at this
          omega
        | succ f1 =>
          have ih := orderF_filter hs hcl f2 (out2 ++ [n]) f1 hn2 hsub2 (by rw [List.length_append, List.length_singleton]; omega) (by rw [hflt, List.length_append, List.length_singleton]; omega)
          rw [hflt] at ih
          show (orderF ah s2 f2 (out2 ++ [n])).filter _ = _
          rw [ih]
          conv => rhs; unfold orderF
          rw [h1]
      · have hflt : ((out2 ++ [n]).filter fun x => decide (x ∈ s1)) = (out2.filter fun x => decide (x ∈ s1)) := by simp [List.filter_append, hq]
        have ih := orderF_filter hs hcl f2 (out2 ++ [n]) f1 hn2 hsub2 (by rw [List.length_append, List.length_singleton]; omega) (by rw [hflt]; exact hl1)
        rw [hflt] at ih
        exact ih
theorem order_filter {ah : List (List Nat)} {s1 s2 : List Nat} (hs : s1 = s2.filter fun x => decide (x ∈ s1)) (hcl : ∀ n ∈ s1, ∀ k ∈ ah.getD n [], k ∈ s1) : (orderV ah s2).filter (fun x => decide (x ∈ s1)) = orderV ah s1 :=
  orderF_filter hs hcl (s2.length + 1) [] (s1.length + 1) List.nodup_nil (fun x hx => by cases hx) (by simp) (by simp)
/-- What is reached is closed. -/
theorem IsReach.closed {ah : List (List Nat)} {fr l : List Nat} (h : IsReach ah fr l) : ∀ n ∈ l, ∀ k ∈ ah.getD n [], k ∈ l := fun n hn k hk => (h.mem k).2 (.step n k ((h.mem n).1 hn) hk)
theorem Reach.more {ah : List (List Nat)} {f1 f2 : List Nat} (hf : ∀ x ∈ f1, x ∈ f2) {n : Nat} (h : Reach ah f1 n) : Reach ah f2 n := by
  induction h with
  | base n hn => exact .base n (hf n hn)
  | step n k _ hk ih => exact .step n k ih hk
theorem IsReach.sub {ah : List (List Nat)} {f1 f2 l1 l2 : List Nat} (h1 : IsReach ah f1 l1) (h2 : IsReach ah f2 l2) (hf : ∀ x ∈ f1, x ∈ f2) : ∀ n ∈ l1, n ∈ l2 := fun n hn => (h2.mem n).2 (((h1.mem n).1 hn).more hf)
theorem IsReach.part {ah : List (List Nat)} {f1 f2 l1 l2 : List Nat} (h1 : IsReach ah f1 l1) (h2 : IsReach ah f2 l2) (hf : ∀ x ∈ f1, x ∈ f2) : l1 = l2.filter fun x => decide (x ∈ l1) := by
  refine rise_ext (r := fun a b : Nat => a < b) (fun a => Nat.lt_irrefl a) (fun a b h1 h2 => Nat.lt_asymm h1 h2) l1 _ h1.up (h2.up.filter _) fun n => ?_
  rw [List.mem_filter, decide_eq_true_iff]
  exact ⟨fun h => ⟨h1.sub h2 hf n h, h⟩, fun h => h.2⟩
/-- In a graph all that is asked for comes into the order. -/
theorem order_all {es : List EdgeV} {fr l : List Nat} (hno : ¬ (orderV (aheadV es) (List.range es.length)).length < es.length) (hl : IsReach (aheadV es) fr l) (hfr : ∀ n ∈ fr, n < es.length) : ∀ n, n ∈ orderV (aheadV es) l ↔ n ∈ l := by
  have hal := ahead_len es
  have hk : ∀ r ∈ aheadV es, ∀ k ∈ r, k < (aheadV es).length := fun r hr k hk => by rw [hal]; exact ahead_lt es r hr k hk
  have hlt := hl.lt (by rw [hal]; exact hfr) hk
  have hring := ring_iff hk
  rw [hal] at hring
  intro n
  refine ⟨order_sub _ _ n, order_full hl.closed hlt (fun n hn ht => hno (hring.2 ⟨n, by rw [← hal]; exact hlt n hn, ht⟩)) n⟩
theorem madeF_take (es : List EdgeV) (ts : List ByteArray) (k : Nat) : ∀ x ∈ madeF (makerOf es) (ts.take k), x ∈ madeF (makerOf es) ts := fun x hx => by
  obtain ⟨s, hs, e⟩ := mem_madeF.1 hx
  exact mem_madeF.2 ⟨s, List.mem_of_mem_take hs, e⟩
/-- A row of truths at block g. -/
def BR (w : World) (g n : Nat) (f : Nat → Bool) : Prop := w.heap[g]? = some (.cells (rowOf n f) 4 (0, 0))
theorem BR.below {w w1 : World} {g n : Nat} {f : Nat → Bool} (h : BR w g n f) (hb : Below w.heap.size w w1) : BR w1 g n f := (hb.block _ (blk_lt h)).trans h
theorem BR.cell {w : World} {g n : Nat} {f : Nat → Bool} (h : BR w g n f) {j : Nat} (hj : j < n) : w.cell? ⟨g, j, none⟩ = some (.bool (f j)) := by rw [blk_cell h j, rowOf_get hj]
theorem BR.free {w : World} {g n : Nat} {f : Nat → Bool} (h : BR w g n f) (j : Nat) : w.frozen? ⟨g, j, none⟩ = false := blk_frozen h j
theorem BR.set {w : World} {g n : Nat} {f : Nat → Bool} (h : BR w g n f) (j : Nat) : BR (w.setCell ⟨g, j, none⟩ (.bool true)) g n (fun x => if x = j then true else f x) := by
  unfold BR
  rw [blk_set h j _, rowOf_set (g := fun x => if x = j then true else f x) fun x _ => rfl]
theorem BR.other {w : World} {g g2 n : Nat} {f : Nat → Bool} (h : BR w g n f) (hne : g ≠ g2) (j : Nat) (v : Value) : BR (w.setCell ⟨g2, j, none⟩ v) g n f := by
  unfold BR
  rw [Below.heap_setCell _ _ _ _ hne]
  exact h
theorem BR.made (w : World) (n : Nat) : BR (w.alloc (.cells (madeCells #[.bool false] n) 4)) w.heap.size n (fun _ => false) := by
  unfold BR
  rw [← rowOf_made n (f := fun _ => false) fun _ _ => rfl]
  exact blk_new w _
theorem Ss.take {w : World} {A : Option Addr} {n c : Nat} {l : List ByteArray} (h : Ss w (.slice A n c) l) {k : Nat} (hk : k ≤ l.length) : Ss w (.slice A k c) (l.take k) := by
  obtain ⟨A', c', e, h1, h2, h3⟩ := h
  injection e with e1 e2 e3
  subst e1 e3
  have hl : (l.take k).length = k := by rw [List.length_take]; omega
  refine ⟨A, c, by rw [hl], by rw [hl]; omega, by rw [hl]; omega, fun hp => ?_⟩
  rw [hl] at hp
  obtain ⟨ad, ea, hc⟩ := h3 (by omega)
  refine ⟨ad, ea, fun i hi => ?_⟩
  rw [hl] at hi
  have h9 := hc i (by omega)
  rw [List.getD_eq_getElem?_getD, List.getElem?_take_of_lt hi, ← List.getD_eq_getElem?_getD]
  exact h9
end Go.Proofs.Ytifbkojapfighaa.Gr
