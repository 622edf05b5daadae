/- Plain laws: all pairs that a path joins (Warshall); rings. -/
import Derived.Test.YtifbkojapfighaaGrOrder
namespace Go.Proofs.Ytifbkojapfighaa.Gr
set_option linter.unusedVariables false
set_option linter.unusedSimpArgs false

/-- What steps lead to. -/
inductive TC (E : Nat → Nat → Prop) : Nat → Nat → Prop
  | base (a b : Nat) : E a b → TC E a b
  | step (a c b : Nat) : TC E a c → E c b → TC E a b
theorem TC.trans {E : Nat → Nat → Prop} {a b c : Nat} (h1 : TC E a b) (h2 : TC E b c) : TC E a c := by
  induction h2 with
  | base c h => exact .step _ _ _ h1 h
  | step d c _ h ih => exact .step _ _ _ ih h
/-- Paths whose inner places are below k. -/
def PK (E : Nat → Nat → Prop) : Nat → Nat → Nat → Prop
  | 0, a, b => E a b
  | k + 1, a, b => PK E k a b ∨ (PK E k a k ∧ PK E k k b)
theorem PK.zero {E : Nat → Nat → Prop} {a b : Nat} (h : E a b) : ∀ k, PK E k a b
  | 0 => h
  | k + 1 => .inl (PK.zero h k)
theorem PK.trans {E : Nat → Nat → Prop} {a b c : Nat} : ∀ {k : Nat}, c < k → PK E k a c → PK E k c b → PK E k a b
  | 0, h, _, _ => by omega
  | k + 1, h, h1, h2 => by
    by_cases hk : c = k
    · subst hk
      have h3 : PK E c a c := by rcases h1 with h | h; exact h; exact h.1
      have h4 : PK E c c b := by rcases h2 with h | h; exact h; exact h.2
      exact .inr ⟨h3, h4⟩
    · have hc : c < k := by omega
      rcases h1 with h1 | h1 <;> rcases h2 with h2 | h2
      · exact .inl (PK.trans hc h1 h2)
      · exact .inr ⟨PK.trans hc h1 h2.1, h2.2⟩
      · exact .inr ⟨h1.1, PK.trans hc h1.2 h2⟩
      · exact .inr ⟨h1.1, h2.2⟩
theorem PK.of_tc {E : Nat → Nat → Prop} {n : Nat} (hE : ∀ a b, E a b → a < n) {a b : Nat} (h : TC E a b) : PK E n a b := by
  induction h with
  | base b h => exact PK.zero h n
  | step c b _ h ih => exact PK.trans (hE _ _ h) ih (PK.zero h n)
/-- The rounds under way. -/
structure FW (E : Nat → Nat → Prop) (n k i j : Nat) (M : Nat → Nat → Bool) : Prop where
  sound : ∀ a b, a < n → b < n → M a b = true → TC E a b
  have_ : ∀ a b, a < n → b < n → PK E k a b → M a b = true
  next : ∀ a b, a < n → b < n → (a < i ∨ (a = i ∧ b < j)) → PK E k a k → PK E k k b → M a b = true
def updM (M : Nat → Nat → Bool) (i j : Nat) : Nat → Nat → Bool := fun a b => if a = i ∧ b = j then true else M a b
theorem updM_true {M : Nat → Nat → Bool} {i j a b : Nat} (h : M a b = true) : updM M i j a b = true := by
  unfold updM
  split
  · rfl
  · exact h
section
variable {E : Nat → Nat → Prop} {n k i j : Nat} {M : Nat → Nat → Bool}
theorem FW.start (h : ∀ a b, a < n → b < n → (M a b = true ↔ E a b)) : FW E n 0 0 0 M :=
  ⟨fun a b ha hb hm => .base _ _ ((h a b ha hb).1 hm), fun a b ha hb hm => (h a b ha hb).2 hm, fun a b _ _ hx => by omega⟩
theorem FW.put (h : FW E n k i j M) (hi : i < n) (hj : j < n) (hk : k < n) (h1 : M i k = true) (h2 : M k j = true) : FW E n k i (j + 1) (updM M i j) := by
  refine ⟨fun a b ha hb hm => ?_, fun a b ha hb hp => updM_true (h.have_ a b ha hb hp), fun a b ha hb hx p1 p2 => ?_⟩
  · unfold updM at hm
    split at hm
    · rename_i hab
      obtain ⟨rfl, rfl⟩ := hab
      exact (h.sound _ _ ha hk h1).trans (h.sound _ _ hk hb h2)
    · exact h.sound a b ha hb hm
  · by_cases hab : a = i ∧ b = j
    · unfold updM; rw [if_pos hab]
    · exact updM_true (h.next a b ha hb (by omega) p1 p2)
theorem FW.skip (h : FW E n k i j M) (hi : i < n) (hj : j < n) (hk : k < n) (h1 : ¬ (M i k = true ∧ M k j = true)) : FW E n k i (j + 1) M := by
  refine ⟨h.sound, h.have_, fun a b ha hb hx p1 p2 => ?_⟩
  by_cases hab : a = i ∧ b = j
  · obtain ⟨rfl, rfl⟩ := hab
    exact absurd ⟨h.have_ _ _ ha hk p1, h.have_ _ _ hk hb p2⟩ h1
  · exact h.next a b ha hb (by omega) p1 p2
theorem FW.row (h : FW E n k i n M) : FW E n k (i + 1) 0 M :=
  ⟨h.sound, h.have_, fun a b ha hb hx p1 p2 => h.next a b ha hb (by omega) p1 p2⟩
theorem FW.phase (h : FW E n k n 0 M) : FW E n (k + 1) 0 0 M :=
  ⟨h.sound, fun a b ha hb hp => by
    rcases hp with hp | ⟨p1, p2⟩
    · exact h.have_ a b ha hb hp
    · exact h.next a b ha hb (.inl ha) p1 p2, fun a b _ _ hx => by omega⟩
theorem FW.fin (h : FW E n n 0 0 M) (hE : ∀ a b, E a b → a < n) {a b : Nat} (ha : a < n) (hb : b < n) : M a b = true ↔ TC E a b :=
  ⟨h.sound a b ha hb, fun ht => h.have_ a b ha hb (PK.of_tc hE ht)⟩
end
/-- One needs another. -/
def Ed (ah : List (List Nat)) (a b : Nat) : Prop := b ∈ ah.getD a []
theorem ed_lt {ah : List (List Nat)} {a b : Nat} (h : Ed ah a b) : a < ah.length := by
  unfold Ed at h
  rcases Nat.lt_or_ge a ah.length with hl | hl
  · exact hl
  · rw [List.getD_eq_getElem?_getD, List.getElem?_eq_none hl] at h
    cases h
/-- Rising in order: none waits for one behind. -/
inductive Topo (ah : List (List Nat)) : List Nat → Prop
  | nil : Topo ah []
  | snoc (l : List Nat) (n : Nat) : Topo ah l → n ∉ l → (∀ k ∈ ah.getD n [], k ∈ l) → Topo ah (l ++ [n])
theorem ready_iff {ah : List (List Nat)} {out : List Nat} {n : Nat} : readyB ah out n = true ↔ n ∉ out ∧ ∀ k ∈ ah.getD n [], k ∈ out := by
  unfold readyB
  rw [Bool.and_eq_true, decide_eq_true_iff, List.all_eq_true]
  simp only [decide_eq_true_iff]
theorem orderF_inv {ah : List (List Nat)} {s : List Nat} {P : List Nat → Prop} (hstep : ∀ out n, P out → s.find? (readyB ah out) = some n → P (out ++ [n])) : ∀ (f : Nat) (out : List Nat), P out → P (orderF ah s f out)
  | 0, out, h => h
  | f + 1, out, h => by
    unfold orderF
    cases hf : s.find? (readyB ah out) with
    | none => exact h
    | some n => exact orderF_inv hstep f _ (hstep out n h hf)
theorem order_inv {ah : List (List Nat)} {s : List Nat} {P : List Nat → Prop} (h0 : P []) (hstep : ∀ out n, P out → s.find? (readyB ah out) = some n → P (out ++ [n])) : P (orderV ah s) := orderF_inv hstep _ _ h0
theorem order_topo (ah : List (List Nat)) (s : List Nat) : Topo ah (orderV ah s) := by
  refine order_inv (P := Topo ah) .nil fun out n h hf => ?_
  have h1 := ready_iff.1 (List.find?_some hf)
  exact .snoc _ _ h h1.1 h1.2
theorem Topo.nodup {ah : List (List Nat)} {l : List Nat} (h : Topo ah l) : l.Nodup := by
  induction h with
  | nil => exact List.nodup_nil
  | snoc l n _ hn _ ih => exact List.nodup_append.2 ⟨ih, by simp, fun a ha b hb e => by rw [List.mem_singleton.1 hb] at e; exact hn (e ▸ ha)⟩
theorem order_sub (ah : List (List Nat)) (s : List Nat) : ∀ x ∈ orderV ah s, x ∈ s := by
  refine order_inv (P := fun l => ∀ x ∈ l, x ∈ s) (fun x hx => by cases hx) fun out n h hf x hx => ?_
  rcases List.mem_append.1 hx with hx | hx
  · exact h x hx
  · rw [List.mem_singleton.1 hx]; exact List.mem_of_find?_eq_some hf
theorem orderF_end {ah : List (List Nat)} {s : List Nat} : ∀ (f : Nat) (out : List Nat), out.Nodup → (∀ x ∈ out, x ∈ s) → s.length < f + out.length → s.find? (readyB ah (orderF ah s f out)) = none
  | 0, out, hn, hs, hl => by
    have := nodup_sub_len hn hs
    omega
  | f + 1, out, hn, hs, hl => by
    unfold orderF
    cases hf : s.find? (readyB ah out) with
    | none => exact hf
    | some n =>
      have h1 := ready_iff.1 (List.find?_some hf)
      refine orderF_end f _ (List.nodup_append.2 ⟨hn, by simp, fun a ha b hb e => by rw [List.mem_singleton.1 hb] at e; exact h1.1 (e ▸ ha)⟩) (fun x hx => ?_) (by rw [List.length_append, List.length_singleton]; omega)
      rcases List.mem_append.1 hx with hx | hx
      · exact hs x hx
      · rw [List.mem_singleton.1 hx]; exact List.mem_of_find?_eq_some hf
/-- At the end none is ready. -/
theorem order_end (ah : List (List Nat)) (s : List Nat) : ∀ n ∈ s, n ∉ orderV ah s → ∃ k ∈ ah.getD n [], k ∉ orderV ah s := by
  have h := orderF_end (ah := ah) (s := s) (s.length + 1) [] List.nodup_nil (fun x hx => by cases hx) (by simp)
  intro n hn hno
  have h1 := List.find?_eq_none.1 h n hn
  have h2 : ¬ (n ∉ orderV ah s ∧ ∀ k ∈ ah.getD n [], k ∈ orderV ah s) := fun hc => h1 (ready_iff.2 hc)
  refine Classical.byContradiction fun hc => h2 ⟨hno, fun k hk => Classical.byContradiction fun hkn => hc ⟨k, hk, hkn⟩⟩
theorem Topo.closed {ah : List (List Nat)} {l : List Nat} (h : Topo ah l) : ∀ n ∈ l, ∀ k ∈ ah.getD n [], k ∈ l := by
  induction h with
  | nil => intro n hn; cases hn
  | snoc l m _ hm hk ih =>
    intro n hn k hkn
    rcases List.mem_append.1 hn with hn | hn
    · exact List.mem_append_left _ (ih n hn k hkn)
    · rw [List.mem_singleton.1 hn] at hkn
      exact List.mem_append_left _ (hk k hkn)
/-- What a row in order holds is on no ring. -/
theorem Topo.acyclic {ah : List (List Nat)} {l : List Nat} (h : Topo ah l) : ∀ n ∈ l, ¬ TC (Ed ah) n n := by
  have key : ∀ n ∈ l, ∀ m, TC (Ed ah) n m → m ∈ l := fun n hn m ht => by
    induction ht with
    | base b h2 => exact h.closed n hn b h2
    | step c b _ h2 ih => exact h.closed c ih b h2
  induction h with
  | nil => intro n hn; cases hn
  | snoc l m hl hm hk ih =>
    have hcl : ∀ n ∈ l, ∀ q, TC (Ed ah) n q → q ∈ l := fun n hn q ht => by
      induction ht with
      | base b h2 => exact hl.closed n hn b h2
      | step c b _ h2 ih => exact hl.closed c ih b h2
    intro n hn ht
    rcases List.mem_append.1 hn with hn | hn
    · exact ih hcl n hn ht
    · rw [List.mem_singleton.1 hn] at ht
      have hlast : ∀ q, TC (Ed ah) m q → q ∈ l := fun q hq => by
        induction hq with
        | base b h2 => exact hk b h2
        | step c b _ h2 ih => exact hl.closed c ih b h2
      exact hm (hlast m ht)
theorem filter_lt {α : Type} {p q : α → Bool} (l : List α) (h : ∀ x, p x = true → q x = true) {y : α} (hy : y ∈ l) (hq : q y = true) (hp : p y = false) : (l.filter p).length < (l.filter q).length := by
  induction l with
  | nil => cases hy
  | cons a l ih =>
    have hle : (l.filter p).length ≤ (l.filter q).length := by
      clear ih hy
      induction l with
      | nil => exact Nat.le_refl _
      | cons b l ih =>
        rw [List.filter_cons, List.filter_cons]
        cases hb : p b with
        | true => rw [h b hb]; simpa using ih
        | false =>
          cases q b with
          | true => simpa using Nat.le_succ_of_le ih
          | false => simpa using ih
    rw [List.filter_cons, List.filter_cons]
    rcases List.mem_cons.1 hy with rfl | hy
    · rw [hq, hp]; simpa using Nat.lt_succ_of_le hle
    · have ih := ih hy
      cases ha : p a with
      | true => rw [h a ha]; simpa using ih
      | false =>
        cases q a with
        | true => simpa using Nat.lt_succ_of_lt ih
        | false => simpa using ih
open Classical in
/-- Where there is no ring, all come into the order. -/
theorem order_full {ah : List (List Nat)} {s : List Nat} (hcl : ∀ n ∈ s, ∀ k ∈ ah.getD n [], k ∈ s) (hlt : ∀ n ∈ s, n < ah.length) (hac : ∀ n ∈ s, ¬ TC (Ed ah) n n) : ∀ n ∈ s, n ∈ orderV ah s := by
  have key : ∀ (c n : Nat), ((List.range ah.length).filter fun z => decide (TC (Ed ah) n z)).length ≤ c → n ∈ s → n ∈ orderV ah s := by
    intro c
    induction c with
    | zero =>
      intro n hc hn
      refine Classical.byContradiction fun hno => ?_
      obtain ⟨k, hk, _⟩ := order_end ah s n hn hno
      have hk2 := hlt k (hcl n hn k hk)
      have : k ∈ (List.range ah.length).filter fun z => decide (TC (Ed ah) n z) := List.mem_filter.2 ⟨List.mem_range.2 hk2, decide_eq_true (.base _ _ hk)⟩
      rw [List.eq_nil_of_length_eq_zero (Nat.le_zero.1 hc)] at this
      cases this
    | succ c ih =>
      intro n hc hn
      refine Classical.byContradiction fun hno => ?_
      obtain ⟨k, hk, hkn⟩ := order_end ah s n hn hno
      have hks := hcl n hn k hk
      refine hkn (ih k ?_ hks)
      have h1 := filter_lt (p := fun z => decide (TC (Ed ah) k z)) (q := fun z => decide (TC (Ed ah) n z)) (List.range ah.length) (fun z hz => decide_eq_true (TC.trans (.base _ _ hk) (of_decide_eq_true hz))) (List.mem_range.2 (hlt k hks)) (decide_eq_true (.base _ _ hk)) (decide_eq_false (hac k hks))
      omega
  exact fun n hn => key _ n (Nat.le_refl _) hn
/-- All edges have an order, or some stand on a ring. -/
theorem ring_iff {ah : List (List Nat)} (hb : ∀ r ∈ ah, ∀ k ∈ r, k < ah.length) : (orderV ah (List.range ah.length)).length < ah.length ↔ ∃ n, n < ah.length ∧ TC (Ed ah) n n := by
  have hcl : ∀ n ∈ List.range ah.length, ∀ k ∈ ah.getD n [], k ∈ List.range ah.length := fun n hn k hk => List.mem_range.2 (hb _ (take_at ah [] n (List.mem_range.1 hn)).2 k hk)
  constructor
  · intro hlt
    refine Classical.byContradiction fun hno => ?_
    have h1 := order_full hcl (fun n hn => List.mem_range.1 hn) (fun n hn ht => hno ⟨n, List.mem_range.1 hn, ht⟩)
    have h2 := nodup_sub_len List.nodup_range h1
    rw [List.length_range] at h2
    omega
  · rintro ⟨n, hn, ht⟩
    refine Classical.byContradiction fun hno => ?_
    have hmem : n ∈ orderV ah (List.range ah.length) := by
      refine Classical.byContradiction fun hnot => ?_
      have h1 := (order_topo ah (List.range ah.length)).nodup
      have h2 := nodup_sub_len (l := n :: orderV ah (List.range ah.length)) (m := List.range ah.length) (List.nodup_cons.2 ⟨hnot, h1⟩) fun x hx => by
        rcases List.mem_cons.1 hx with rfl | hx
        · exact List.mem_range.2 hn
        · exact order_sub _ _ x hx
      rw [List.length_cons, List.length_range] at h2
      omega
    exact (order_topo ah _).acyclic n hmem ht
end Go.Proofs.Ytifbkojapfighaa.Gr
