/- Plain laws: what is wanted, and who is ready and first. -/
import Derived.Test.YtifbkojapfighaaGrAbP
namespace Go.Proofs.Ytifbkojapfighaa.Gr
open Go.RowKit Go.Proofs.YtifbkojapfighaaW.PrintWords Go.Proofs.YtifbkojapfighaaW.PrintLast Go.Proofs.Ytifbkojapfighaa.Base Go.Maps
set_option linter.unusedVariables false
set_option linter.unusedSimpArgs false

theorem reach_want {ah : List (List Nat)} {fr : List Nat} {n : Nat} : Reach ah fr n ↔ ∃ x ∈ fr, n = x ∨ TC (Ed ah) x n := by
  constructor
  · intro h
    induction h with
    | base n h => exact ⟨n, h, .inl rfl⟩
    | step n c _ h2 ih =>
      obtain ⟨x, hx, rfl | ih⟩ := ih
      · exact ⟨n, hx, .inr (.base _ c h2)⟩
      · exact ⟨x, hx, .inr (.step _ n c ih h2)⟩
  · rintro ⟨x, hx, rfl | h⟩
    · exact .base n hx
    · have key : ∀ a b, TC (Ed ah) a b → Reach ah fr a → Reach ah fr b := fun a b h => by
        induction h with
        | base b h => exact fun hr => .step _ b hr h
        | step c b _ h2 ih => exact fun hr => .step c b (ih hr) h2
      exact key x n h (.base x hx)
/-- Is this edge wanted? -/
def Want (es : List EdgeV) (ts : List ByteArray) (k : Nat) : Prop := ∃ x ∈ madeF (makerOf es) ts, k = x ∨ TC (Ed (aheadV es)) x k
theorem want_nil (es : List EdgeV) (k : Nat) : ¬ Want es [] k := by
  rintro ⟨x, hx, _⟩
  cases hx
theorem want_snoc {es : List EdgeV} {ts : List ByteArray} {s : ByteArray} {k : Nat} : Want es (ts ++ [s]) k ↔ Want es ts k ∨ ∃ x, makerOf es s = some x ∧ (k = x ∨ TC (Ed (aheadV es)) x k) := by
  unfold Want
  constructor
  · rintro ⟨x, hx, h⟩
    obtain ⟨s2, hs2, hm⟩ := mem_madeF.1 hx
    rcases List.mem_append.1 hs2 with h3 | h3
    · exact .inl ⟨x, mem_madeF.2 ⟨s2, h3, hm⟩, h⟩
    · rw [List.mem_singleton.1 h3] at hm
      exact .inr ⟨x, hm, h⟩
  · rintro (⟨x, hx, h⟩ | ⟨x, hm, h⟩)
    · obtain ⟨s2, hs2, hm⟩ := mem_madeF.1 hx
      exact ⟨x, mem_madeF.2 ⟨s2, List.mem_append_left _ hs2, hm⟩, h⟩
    · exact ⟨x, mem_madeF.2 ⟨s, List.mem_append_right _ (List.mem_singleton.2 rfl), hm⟩, h⟩
theorem want_lt {es : List EdgeV} {ts : List ByteArray} {k : Nat} (h : Want es ts k) : k < es.length := by
  obtain ⟨x, hx, rfl | h⟩ := h
  · exact madeF_lt es ts k hx
  · exact tc_lt h
/-- The wanted ones, rising. -/
theorem want_isReach {es : List EdgeV} {ts : List ByteArray} {f : Nat → Bool} (hf : ∀ k, k < es.length → (f k = true ↔ Want es ts k)) : IsReach (aheadV es) (madeF (makerOf es) ts) ((List.range es.length).filter f) := by
  refine ⟨List.pairwise_lt_range.filter _, fun n => ?_⟩
  rw [List.mem_filter, List.mem_range, reach_want]
  constructor
  · rintro ⟨h1, h2⟩
    exact (hf n h1).1 h2
  · intro h
    have h1 : n < es.length := want_lt h
    exact ⟨h1, (hf n h1).2 h⟩
/-- Ready by all that stands below: ready by what stands next below. -/
theorem ready_all {es : List EdgeV} {out : List Nat} {M : Nat → Nat → Bool} {g : Nat → Bool} {k : Nat} (ht : Topo (aheadV es) out) (hM : ∀ b, b < es.length → (M k b = true ↔ TC (Ed (aheadV es)) k b)) (hg : ∀ b, b < es.length → (g b = true ↔ b ∈ out)) :
    (∀ i, i < es.length → M k i = true → g i = true) ↔ ∀ j ∈ (aheadV es).getD k [], j ∈ out := by
  constructor
  · intro h j hj
    have h1 : TC (Ed (aheadV es)) k j := .base k j hj
    have h2 := tc_lt h1
    exact (hg j h2).1 (h j h2 ((hM j h2).2 h1))
  · intro h i hi hm
    refine (hg i hi).2 ?_
    rcases ((hM i hi).1 hm).head with h1 | ⟨c, h1, h2⟩
    · exact h i h1
    · exact closed_tc ht.closed h2 (h c h1)
/-- The first one that may be done is the order's next. -/
theorem first_next {ah : List (List Nat)} {l1 out : List Nat} {F y : Nat} (h : Od ah l1 out F) (hup : l1.Pairwise (· < ·)) (hy : y ∈ l1) (hr : readyB ah out y = true) (hb : ∀ j, j < y → ¬ (j ∈ l1 ∧ readyB ah out j = true)) : ∃ F', Od ah l1 (out ++ [y]) F' := by
  obtain ⟨i, hi, e⟩ := List.mem_iff_getElem.1 hy
  have e2 : l1.getD i 0 = y := by rw [List.getD_eq_getElem?_getD, List.getElem?_eq_getElem hi]; exact e
  have h3 := h.next hi (fun j hj => by
    have hjl : j < l1.length := by omega
    have e3 : l1.getD j 0 = l1[j] := by rw [List.getD_eq_getElem?_getD, List.getElem?_eq_getElem hjl]; rfl
    have hlt : l1[j] < l1[i] := List.pairwise_iff_getElem.1 hup j i hjl hi hj
    rw [e] at hlt
    rw [e3]
    cases hb2 : readyB ah out l1[j] with
    | false => rfl
    | true => exact absurd ⟨List.getElem_mem hjl, hb2⟩ (hb _ hlt)) (by rw [e2]; exact hr)
  rw [e2] at h3
  exact h3
theorem topo_next {ah : List (List Nat)} {out : List Nat} {y : Nat} (h : Topo ah out) (hr : readyB ah out y = true) : Topo ah (out ++ [y]) := by
  obtain ⟨h1, h2⟩ := ready_iff.1 hr
  exact .snoc out y h h1 h2
theorem rowOf_setb {n : Nat} {f g : Nat → Bool} {j : Nat} {b : Bool} (hg : ∀ x, x < n → g x = if x = j then b else f x) : (rowOf n f).setIfInBounds j (.bool b) = rowOf n g := by
  apply Array.ext_getElem?
  intro i
  rw [Array.getElem?_setIfInBounds, rowOf_size]
  by_cases hi : i < n
  · rw [rowOf_get hi, rowOf_get hi, hg i hi]
    by_cases hji : j = i
    · subst hji; rw [if_pos rfl, if_pos rfl, if_pos hi]
    · rw [if_neg hji, if_neg (fun e => hji e.symm)]
  · have h1 : (rowOf n f)[i]? = none := Array.getElem?_eq_none (by rw [rowOf_size]; omega)
    have h2 : (rowOf n g)[i]? = none := Array.getElem?_eq_none (by rw [rowOf_size]; omega)
    by_cases hji : j = i
    · subst hji; rw [if_pos rfl, if_neg hi, h2]
    · rw [if_neg hji, h1, h2]
/-- A bit of a row of truths is set. -/
theorem BR.setb {w : World} {g n : Nat} {f : Nat → Bool} (h : BR w g n f) (j : Nat) (b : Bool) : BR (w.setCell ⟨g, j, none⟩ (.bool b)) g n (fun x => if x = j then b else f x) := by
  unfold BR
  rw [blk_set h j _, rowOf_setb (g := fun x => if x = j then b else f x) fun x _ => rfl]
theorem br_far {w : World} {g n : Nat} {f : Nat → Bool} (hb : BR w g n f) {a : Addr} {v : Value} (hc : w.cell? a = some v) (hv : ∀ b, v ≠ .bool b) : a.block ≠ g := by
  intro e
  unfold World.cell? at hc
  have hb : w.heap[g]? = some (.cells (rowOf n f) 4 (0, 0)) := hb
  rw [e, hb] at hc
  simp only at hc
  split at hc
  · cases hc
  · by_cases hj : a.off < n
    · rw [rowOf_get hj] at hc
      exact hv _ (Option.some.inj hc).symm
    · rw [Array.getElem?_eq_none (by rw [rowOf_size]; omega)] at hc
      cases hc
/-- A row of texts stands where a truth is turned. -/
theorem Ss.setBR {w : World} {v : Value} {l : List ByteArray} {g n : Nat} {f : Nat → Bool} (h : Ss w v l) (hb : BR w g n f) (j : Nat) (b : Bool) : Ss (w.setCell ⟨g, j, none⟩ (.bool b)) v l := by
  obtain ⟨A, c, e, h1, h2, h3⟩ := h
  refine ⟨A, c, e, h1, h2, fun hp => ?_⟩
  obtain ⟨ad, ea, hc⟩ := h3 hp
  refine ⟨ad, ea, fun i hi => ?_⟩
  rw [World.cell?_of_block (Below.heap_setCell _ _ _ _ (br_far hb (hc i hi) (fun b e => by cases e)))]
  exact hc i hi
end Go.Proofs.Ytifbkojapfighaa.Gr
