/- Plain law: what stands above an edge, in its plan and by itself. -/
import Derived.Test.YtifbkojapfighaaGrPutP
namespace Go.Proofs.Ytifbkojapfighaa.Gr
open Go.RowKit Go.Proofs.YtifbkojapfighaaW.PrintWords Go.Proofs.YtifbkojapfighaaW.PrintLast Go.Proofs.Ytifbkojapfighaa.Base Go.Maps
set_option linter.unusedVariables false
set_option linter.unusedSimpArgs false

theorem TC.head {E : Nat → Nat → Prop} {a b : Nat} (h : TC E a b) : E a b ∨ ∃ c, E a c ∧ TC E c b := by
  induction h with
  | base b h => exact .inl h
  | step c b _ h2 ih =>
    rcases ih with h | ⟨d, h3, h4⟩
    · exact .inr ⟨c, h, .base c b h2⟩
    · exact .inr ⟨d, h3, .step d c b h4 h2⟩
theorem reach_of {ah : List (List Nat)} {k n : Nat} : Reach ah (ah.getD k []) n ↔ TC (Ed ah) k n := by
  constructor
  · intro h
    induction h with
    | base n h => exact .base k n h
    | step n c _ h2 ih => exact .step k n c ih h2
  · intro h
    induction h with
    | base b h => exact .base b h
    | step c b _ h2 ih => exact .step c b ih h2
theorem reach_one {ah : List (List Nat)} {k n : Nat} : Reach ah [k] n ↔ n = k ∨ TC (Ed ah) k n := by
  constructor
  · intro h
    induction h with
    | base n h => exact .inl (List.mem_singleton.1 h)
    | step n c _ h2 ih =>
      rcases ih with rfl | ih
      · exact .inr (.base n c h2)
      · exact .inr (.step k n c ih h2)
  · rintro (rfl | h)
    · exact .base n (List.mem_singleton.2 rfl)
    · have key : ∀ a b, TC (Ed ah) a b → Reach ah [k] a → Reach ah [k] b := fun a b h => by
        induction h with
        | base b h => exact fun hr => .step _ b hr h
        | step c b _ h2 ih => exact fun hr => .step c b (ih hr) h2
      exact key k n h (.base k (List.mem_singleton.2 rfl))
theorem closed_tc {ah : List (List Nat)} {l : List Nat} (hc : ∀ n ∈ l, ∀ k ∈ ah.getD n [], k ∈ l) {a b : Nat} (h : TC (Ed ah) a b) : a ∈ l → b ∈ l := by
  induction h with
  | base b h => exact fun ha => hc _ ha b h
  | step c b _ h2 ih => exact fun ha => hc c (ih ha) b h2
/-- In its own plan an edge stands last. -/
theorem order_last {ah : List (List Nat)} {l : List Nat} {k : Nat} (h : Topo ah l) (hk : k ∈ l) (hl : ∀ n ∈ l, n = k ∨ TC (Ed ah) k n) : ∃ l', l = l' ++ [k] ∧ ∀ n, n ∈ l' ↔ TC (Ed ah) k n := by
  cases h with
  | nil => cases hk
  | snoc l' n ht hn hcl =>
    have hnk : n = k := by
      rcases hl n (List.mem_append_right _ (List.mem_singleton.2 rfl)) with h | h
      · exact h
      · rcases List.mem_append.1 hk with h2 | h2
        · exact absurd (closed_tc ht.closed h h2) hn
        · exact (List.mem_singleton.1 h2).symm
    subst hnk
    refine ⟨l', rfl, fun x => ⟨fun hx => ?_, fun hx => ?_⟩⟩
    · rcases hl x (List.mem_append_left _ hx) with rfl | h
      · exact absurd hx hn
      · exact h
    · rcases hx.head with h | ⟨c, h, h2⟩
      · exact hcl x h
      · exact closed_tc ht.closed h2 (hcl c h)
/-- The outputs of some edges. -/
def outsOf (es : List EdgeV) (l : List Nat) : List ByteArray := (l.map fun k => (es.getD k zedge).outs).flatten
theorem outsOf_snoc (es : List EdgeV) (l : List Nat) (k : Nat) : outsOf es (l ++ [k]) = outsOf es l ++ (es.getD k zedge).outs := by
  unfold outsOf; rw [List.map_append, List.flatten_append]; simp
theorem mem_outsOf {es : List EdgeV} {l : List Nat} {s : ByteArray} : s ∈ outsOf es l ↔ ∃ k ∈ l, s ∈ (es.getD k zedge).outs := by
  unfold outsOf
  rw [List.mem_flatten]
  constructor
  · rintro ⟨r, h1, h2⟩
    obtain ⟨k, hk, rfl⟩ := List.mem_map.1 h1
    exact ⟨k, hk, h2⟩
  · rintro ⟨k, hk, h⟩
    exact ⟨_, List.mem_map.2 ⟨k, hk, rfl⟩, h⟩
theorem outs_apart {es : List EdgeV} (h : (allOuts es).Nodup) : (∀ k, k < es.length → (es.getD k zedge).outs.Nodup) ∧ ∀ i j s, i < es.length → j < es.length → s ∈ (es.getD i zedge).outs → s ∈ (es.getD j zedge).outs → i = j := by
  unfold allOuts List.Nodup at h
  rw [List.pairwise_flatten, List.pairwise_map] at h
  have hg : ∀ j (hj : j < es.length), es.getD j zedge = es[j] := fun j hj => by rw [List.getD_eq_getElem?_getD, List.getElem?_eq_getElem hj]; rfl
  have key : ∀ i j s, i < j → i < es.length → j < es.length → s ∈ (es.getD i zedge).outs → s ∈ (es.getD j zedge).outs → False := fun i j s hij hi hj h1 h2 => by
    rw [hg i hi] at h1
    rw [hg j hj] at h2
    exact (List.pairwise_iff_getElem.1 h.2 i j hi hj hij) s h1 s h2 rfl
  refine ⟨fun k hk => ?_, fun i j s hi hj h1 h2 => ?_⟩
  · rw [hg k hk]
    exact h.1 _ (List.mem_map.2 ⟨es[k], List.getElem_mem hk, rfl⟩)
  · rcases Nat.lt_trichotomy i j with h3 | h3 | h3
    · exact (key i j s h3 hi hj h1 h2).elim
    · exact h3
    · exact (key j i s h3 hj hi h2 h1).elim
theorem outsOf_nodup {es : List EdgeV} (h : (allOuts es).Nodup) {l : List Nat} (hl : l.Nodup) (hlt : ∀ k ∈ l, k < es.length) : (outsOf es l).Nodup := by
  obtain ⟨h1, h2⟩ := outs_apart h
  unfold outsOf List.Nodup
  rw [List.pairwise_flatten, List.pairwise_map]
  refine ⟨fun r hr => ?_, ?_⟩
  · obtain ⟨k, hk, rfl⟩ := List.mem_map.1 hr
    exact h1 k (hlt k hk)
  · refine hl.imp_of_mem ?_
    intro a b ha hb hab x hx y hy hxy
    subst hxy
    exact hab (h2 a b x (hlt a ha) (hlt b hb) hx hy)
theorem maker_uniq {es : List EdgeV} (h : (allOuts es).Nodup) {k : Nat} {s : ByteArray} (hk : k < es.length) (hs : s ∈ (es.getD k zedge).outs) : makerOf es s = some k := by
  refine makerOf_at hk (fun j hj hj2 => ?_) hs
  have := (outs_apart h).2 j k s (by omega) hk hj2 hs
  omega
theorem maker_mem {es : List EdgeV} {s : ByteArray} {n : Nat} (h : makerOf es s = some n) : n < es.length ∧ s ∈ (es.getD n zedge).outs := by
  have hn := maker_lt h
  refine ⟨hn, ?_⟩
  unfold makerOf at h
  rw [List.findIdx?_eq_some_iff_getElem] at h
  obtain ⟨h1, h2, _⟩ := h
  rw [List.getD_eq_getElem?_getD, List.getElem?_eq_getElem h1]
  exact of_decide_eq_true h2
theorem tc_lt {es : List EdgeV} {k n : Nat} (h : TC (Ed (aheadV es)) k n) : n < es.length := by
  cases h with
  | base _ h => exact ahead_lt es _ (take_at (aheadV es) [] k (ed_lt h)).2 n h
  | step c _ _ h => exact ahead_lt es _ (take_at (aheadV es) [] c (ed_lt h)).2 n h
/-- Above an edge: the same, told by its plan and by itself. -/
theorem above_same {es : List EdgeV} (hnd : (allOuts es).Nodup) {k : Nat} {l' lr : List Nat} (hl : ∀ n, n ∈ l' ↔ TC (Ed (aheadV es)) k n) (hr : IsReach (aheadV es) ((aheadV es).getD k []) lr) : sortS (outsOf es lr) = putAll [] (outsOf es l') := by
  have hm : ∀ n, n ∈ lr ↔ n ∈ l' := fun n => by rw [hr.mem, reach_of, hl]
  have hlt : ∀ n ∈ lr, n < es.length := fun n hn => tc_lt (reach_of.1 ((hr.mem n).1 hn))
  refine up_ext (sortS_up (outsOf_nodup hnd (hr.up.imp fun h => Nat.ne_of_lt h) hlt)) (putAll_up _ _ up_nil) fun x => ?_
  rw [mem_sortS, mem_putAll, mem_outsOf, mem_outsOf]
  constructor
  · rintro ⟨n, h1, h2⟩
    exact .inr ⟨n, (hm n).1 h1, h2⟩
  · rintro (h | ⟨n, h1, h2⟩)
    · cases h
    · exact ⟨n, (hm n).2 h1, h2⟩
end Go.Proofs.Ytifbkojapfighaa.Gr
