/- What the records of a book tell, plainly. -/
import Derived.Test.YtinonkakpgiblaaNamRec
namespace Go.Proofs.Ytinonkakpgiblaa.Nam
open Go.RowKit Go.Proofs.YtinonkakpgiblaaW.PrintWords Go.Proofs.Ytinonkakpgiblaa.Base Go.Proofs.Ytinonkakpgiblaa.Pack
set_option linter.unusedVariables false
set_option linter.unusedSimpArgs false

theorem snoc_ind {α : Type} {P : List α → Prop} (h0 : P []) (h1 : ∀ l x, P l → P (l ++ [x])) (l : List α) : P l := by
  have key : ∀ (n : Nat) (l : List α), l.length = n → P l := by
    intro n
    induction n with
    | zero => intro l hl; rw [List.length_eq_zero_iff.1 hl]; exact h0
    | succ n ih =>
      intro l hl
      have hne : l ≠ [] := by intro e; rw [e] at hl; cases hl
      rw [← List.dropLast_concat_getLast hne]
      exact h1 _ _ (ih _ (by rw [List.length_dropLast, hl]; rfl))
  exact key _ l rfl
theorem look_tellA (l : List DepV) (s : ByteArray) (x : DepV) (h : lookV (tellA l) s = some x) : x ∈ l ∧ planE x = 0 ∧ x.out = s := by
  revert h
  refine snoc_ind (P := fun l => lookV (tellA l) s = some x → x ∈ l ∧ planE x = 0 ∧ x.out = s) ?_ ?_ l
  · intro h
    cases h
  · intro l d ih h
    rw [tellA_snoc] at h
    unfold tell at h
    by_cases hp : planE d = 0
    · rw [if_pos hp] at h
      by_cases hs : s = d.out
      · rw [hs, look_told_same] at h
        cases h
        exact ⟨by simp, hp, hs.symm⟩
      · rw [look_told_other (tellA_good l) hs] at h
        obtain ⟨h1, h2⟩ := ih h
        exact ⟨List.mem_append_left _ h1, h2⟩
    · rw [if_neg hp] at h
      obtain ⟨h1, h2⟩ := ih h
      exact ⟨List.mem_append_left _ h1, h2⟩
theorem look_depV {b : BookV} (hb : Good b) {n : Nat} {f : FndV} (h : b.os n = some f) : lookV b (depV b n f).out = some (depV b n f) := by
  have hn := (hb.at_ n f h).1
  have hm : (depV b n f).out ∈ b.ns := by
    unfold depV
    simp only [List.getD_eq_getElem?_getD, List.getElem?_eq_getElem hn, Option.getD_some]
    exact List.getElem_mem hn
  unfold lookV
  cases e : idx b.ns (depV b n f).out with
  | none => exact absurd hm (idx_none.1 e)
  | some m =>
    obtain ⟨h1, h2⟩ := idx_some e
    have hnm : m = n := by
      unfold depV at h2
      simp only [List.getD_eq_getElem?_getD, List.getElem?_eq_getElem h1, List.getElem?_eq_getElem hn, Option.getD_some] at h2
      have hp := List.pairwise_iff_getElem.1 (List.nodup_iff_pairwise_ne.1 hb.nodup)
      rcases Nat.lt_trichotomy m n with hl | hl | hl
      · exact absurd h2 (hp m n h1 hn hl)
      · exact hl
      · exact absurd h2.symm (hp n m hn h1 hl)
    rw [hnm, Option.bind_some, h]
    rfl
theorem look_some {b : BookV} {s : ByteArray} {x : DepV} (h : lookV b s = some x) : ∃ n f, b.os n = some f ∧ x = depV b n f := by
  unfold lookV at h
  cases e : idx b.ns s with
  | none => rw [e] at h; cases h
  | some n =>
    rw [e, Option.bind_some] at h
    cases e2 : b.os n with
    | none => rw [e2] at h; cases h
    | some f =>
      rw [e2] at h
      cases h
      exact ⟨n, f, e2, rfl⟩
/-- All of a book, by looking. -/
theorem AllOf.look {b : BookV} (hb : Good b) {l : List DepV} (h : AllOf b l) (d : DepV) : d ∈ l ↔ lookV b d.out = some d := by
  rw [h.mem d]
  constructor
  · rintro ⟨n, f, h1, rfl⟩
    exact look_depV hb h1
  · intro hl
    exact look_some hl
/-- All that is told of what is planned is of it. -/
theorem AllOf.told {l x : List DepV} (h : AllOf (tellA l) x) : ∀ d ∈ x, d ∈ l ∧ planE d = 0 := fun d hd => by
  have h1 := (h.look (tellA_good l) d).1 hd
  obtain ⟨h2, h3, _⟩ := look_tellA l _ _ h1
  exact ⟨h2, h3⟩
/-- Of outputs that are told once each, all are told. -/
theorem look_once : ∀ (L : List DepV), (L.map (·.out)).Nodup → (∀ d ∈ L, planE d = 0) → (∀ d ∈ L, lookV (tellA L) d.out = some d) ∧ ∀ s, s ∉ L.map (·.out) → lookV (tellA L) s = none := fun L => by
  refine snoc_ind (P := fun L => (L.map (·.out)).Nodup → (∀ d ∈ L, planE d = 0) → (∀ d ∈ L, lookV (tellA L) d.out = some d) ∧ ∀ s, s ∉ L.map (·.out) → lookV (tellA L) s = none) ?_ ?_ L
  · intro _ _
    refine ⟨?_, fun s _ => rfl⟩
    intro d hd
    cases hd
  · intro l x ih hn hp
    rw [List.map_append, List.nodup_append] at hn
    obtain ⟨h1, _, h3⟩ := hn
    obtain ⟨i1, i2⟩ := ih h1 (fun d hd => hp d (List.mem_append_left _ hd))
    have hx : planE x = 0 := hp x (by simp)
    have ht : tellA (l ++ [x]) = toldV (tellA l) x := by rw [tellA_snoc]; exact if_pos hx
    rw [ht]
    constructor
    · intro d hd
      rcases List.mem_append.1 hd with hd | hd
      · have hne : d.out ≠ x.out := fun e => h3 _ (List.mem_map_of_mem hd) x.out (by simp) e
        rw [look_told_other (tellA_good l) hne]
        exact i1 d hd
      · obtain rfl := List.mem_singleton.1 hd
        exact look_told_same
    · intro s hs
      rw [List.map_append, List.mem_append, not_or] at hs
      have hne : s ≠ x.out := fun e => hs.2 (by simp [e])
      rw [look_told_other (tellA_good l) hne]
      exact i2 s hs.1
/-- The names that some outputs need. -/
def needD (a : List ByteArray) (d : DepV) : List ByteArray := (d.out :: d.deps).foldl withV a
def needA (L : List DepV) : List ByteArray := L.foldl needD []
theorem needA_snoc (L : List DepV) (d : DepV) : needA (L ++ [d]) = needD (needA L) d := by unfold needA; rw [List.foldl_append]; rfl
theorem withV_eq : withV = withN := rfl
theorem tellA_ns (L : List DepV) : (∀ d ∈ L, planE d = 0) → (tellA L).ns = needA L := by
  refine snoc_ind (P := fun L => (∀ d ∈ L, planE d = 0) → (tellA L).ns = needA L) (fun _ => rfl) ?_ L
  intro l x ih hp
  have hx : planE x = 0 := hp x (by simp)
  rw [needA_snoc, ← ih (fun d hd => hp d (List.mem_append_left _ hd)), tellA_snoc]
  unfold tell
  rw [if_pos hx]
  rfl
theorem nodup_len {a b : List ByteArray} (ha : a.Nodup) (hb : b.Nodup) (h : ∀ s, s ∈ a ↔ s ∈ b) : a.length = b.length := by
  have key : ∀ (a b : List ByteArray), a.Nodup → (∀ s ∈ a, s ∈ b) → a.length ≤ b.length := by
    intro a
    induction a with
    | nil => intro b _ _; exact Nat.zero_le _
    | cons x a ih =>
      intro b hn hs
      rw [List.nodup_cons] at hn
      have hx := hs x (by simp)
      obtain ⟨b1, b2, rfl⟩ := List.append_of_mem hx
      have h2 := ih (b1 ++ b2) hn.2 (fun s hsa => by
        have h3 := hs s (List.mem_cons_of_mem _ hsa)
        rcases List.mem_append.1 h3 with h4 | h4
        · exact List.mem_append_left _ h4
        · rcases List.mem_cons.1 h4 with rfl | h4
          · exact absurd hsa hn.1
          · exact List.mem_append_right _ h4)
      simp only [List.length_cons, List.length_append] at h2 ⊢
      omega
  exact Nat.le_antisymm (key a b ha fun s hs => (h s).1 hs) (key b a hb fun s hs => (h s).2 hs)
theorem all_count {L x : List DepV} (hn : (L.map (·.out)).Nodup) (hp : ∀ d ∈ L, planE d = 0) (h : AllOf (tellA L) x) : x.length = L.length := by
  obtain ⟨h1, h2⟩ := look_once L hn hp
  have h3 := nodup_len h.nodup hn (fun s => by
    constructor
    · intro hs
      obtain ⟨d, hd, rfl⟩ := List.mem_map.1 hs
      have h4 := (h.look (tellA_good L) d).1 hd
      refine Classical.byContradiction fun hc => ?_
      rw [h2 _ hc] at h4
      cases h4
    · intro hs
      obtain ⟨d, hd, rfl⟩ := List.mem_map.1 hs
      exact List.mem_map_of_mem ((h.look (tellA_good L) d).2 (h1 d hd)))
  simpa using h3
theorem liveL_nodup {live : List ByteArray} {x : List DepV} (h : (x.map (·.out)).Nodup) : ((liveL live x).map (·.out)).Nodup := by
  unfold liveL
  exact h.sublist ((List.filter_sublist).map _)
/-- What is looked up in the book of what is live. -/
theorem look_live {live : List ByteArray} {x : List DepV} (hn : (x.map (·.out)).Nodup) (hp : ∀ d ∈ x, planE d = 0) {d : DepV} (hd : d ∈ x) :
    lookV (tellA (liveL live x)) d.out = if d.out ∈ live then some d else none := by
  have hp2 : ∀ d ∈ liveL live x, planE d = 0 := fun d hd => hp d (List.mem_filter.1 hd).1
  obtain ⟨h1, h2⟩ := look_once _ (liveL_nodup (live := live) hn) hp2
  by_cases hl : d.out ∈ live
  · rw [if_pos hl]
    exact h1 d (List.mem_filter.2 ⟨hd, decide_eq_true hl⟩)
  · rw [if_neg hl]
    refine h2 _ (fun hm => ?_)
    obtain ⟨e, he, heq⟩ := List.mem_map.1 hm
    have := of_decide_eq_true (List.mem_filter.1 he).2
    exact hl (heq ▸ this)
theorem tellA_few (l : List DepV) (hb : ∀ d ∈ l, d.deps.length ≤ 1000000) : ∀ n f, (tellA l).os n = some f → f.deps.length ≤ 1000000 := by
  have key : ∀ (l : List DepV) (b : BookV), (∀ d ∈ l, d.deps.length ≤ 1000000) → (∀ n f, b.os n = some f → f.deps.length ≤ 1000000) → ∀ n f, (l.foldl tell b).os n = some f → f.deps.length ≤ 1000000 := by
    intro l
    induction l with
    | nil => exact fun b _ h => h
    | cons d l ih =>
      intro b hl h
      refine ih _ (fun x hx => hl x (List.mem_cons_of_mem _ hx)) fun n f hf => ?_
      unfold tell at hf
      split at hf
      · simp only [toldV, putO] at hf
        split at hf
        · cases hf
          rw [List.length_map]
          exact hl d (by simp)
        · exact h n f hf
      · exact h n f hf
  exact key l _ hb (fun n f h => by cases h)
end Go.Proofs.Ytinonkakpgiblaa.Nam
