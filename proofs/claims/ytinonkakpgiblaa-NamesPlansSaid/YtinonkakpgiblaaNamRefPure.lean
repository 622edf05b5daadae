/- The reference's book, plainly: what was found, in its place. -/
import Derived.Test.YtinonkakpgiblaaNamLivePure
namespace Go.Proofs.Ytinonkakpgiblaa.Nam
open Go.RowKit Go.Proofs.YtinonkakpgiblaaW.PrintWords Go.Proofs.Ytinonkakpgiblaa.Base Go.Proofs.Ytinonkakpgiblaa.Pack Go.Sort
set_option linter.unusedVariables false
set_option linter.unusedSimpArgs false

theorem dlt_ntrans (x y z : ByteArray) (h1 : dlt x y = false) (h2 : dlt y z = false) : dlt x z = false := by rw [dlt_eq] at *; exact swo_ltStr.ntrans _ _ _ h1 h2
theorem dlt_asymm (x y : ByteArray) (h : dlt x y = true) : dlt y x = false := by
  cases h2 : dlt y x with
  | false => rfl
  | true =>
    have := dlt_trans x y x h h2
    rw [dlt_irrefl] at this
    cases this
/-- The place of an output. -/
def putK : List DepV → ByteArray → Nat
  | [], _ => 0
  | x :: l, s => if dlt x.out s = true then putK l s + 1 else 0
theorem putK_le (l : List DepV) (s : ByteArray) : putK l s ≤ l.length := by
  induction l with
  | nil => exact Nat.le_refl _
  | cons x l ih =>
    unfold putK
    split
    · simp only [List.length_cons]; omega
    · exact Nat.zero_le _
theorem putK_lt (l : List DepV) (s : ByteArray) : ∀ i, i < putK l s → dlt (l.getD i zdep).out s = true := by
  induction l with
  | nil => intro i h; exact absurd h (Nat.not_lt_zero _)
  | cons x l ih =>
    intro i h
    unfold putK at h
    split at h
    · rename_i hx
      cases i with
      | zero => exact hx
      | succ i => exact ih i (by omega)
    · exact absurd h (Nat.not_lt_zero _)
theorem putK_at (l : List DepV) (s : ByteArray) (h : putK l s < l.length) : dlt (l.getD (putK l s) zdep).out s = false := by
  induction l with
  | nil => exact absurd h (Nat.not_lt_zero _)
  | cons x l ih =>
    unfold putK at h ⊢
    split at h
    · rename_i hx
      rw [if_pos hx]
      simp only [List.length_cons] at h
      exact ih (by omega)
    · rename_i hx
      rw [if_neg hx]
      simpa using hx
/-- The only number with these two. -/
theorem putK_is {l : List DepV} {s : ByteArray} {k : Nat} (h1 : ∀ i, i < k → dlt (l.getD i zdep).out s = true) (h2 : k ≤ l.length) (h3 : k < l.length → dlt (l.getD k zdep).out s = false) : putK l s = k := by
  rcases Nat.lt_trichotomy (putK l s) k with h | h | h
  · have h4 := h1 _ h
    rw [putK_at l s (by omega)] at h4
    cases h4
  · exact h
  · have h4 := putK_lt l s k h
    rw [h3 (by have := putK_le l s; omega)] at h4
    cases h4
def putV (l : List DepV) (d : DepV) : List DepV := if putK l d.out < l.length ∧ (l.getD (putK l d.out) zdep).out = d.out then l.set (putK l d.out) d else l.take (putK l d.out) ++ d :: l.drop (putK l d.out)
def OSorted (l : List ByteArray) : Prop := l.Pairwise fun a b => dlt b a = false
theorem dsorted_iff {l : List DepV} : DSorted l ↔ OSorted (l.map (·.out)) := by unfold DSorted OSorted; rw [List.pairwise_map]
theorem getD_get {l : List DepV} {i : Nat} (h : i < l.length) : l.getD i zdep = l[i] := by rw [List.getD_eq_getElem?_getD, List.getElem?_eq_getElem h]; rfl
theorem putV_spec {l : List DepV} (hs : DSorted l) (hn : (l.map (·.out)).Nodup) (d : DepV) : DSorted (putV l d) ∧ ((putV l d).map (·.out)).Nodup ∧ ∀ x, x ∈ putV l d ↔ (x ∈ l ∧ x.out ≠ d.out) ∨ x = d := by
  have hk := putK_le l d.out
  have hlt := putK_lt l d.out
  have hat := putK_at l d.out
  unfold putV
  generalize putK l d.out = k at hk hlt hat
  have hs2 := List.pairwise_iff_getElem.1 hs
  by_cases hc : k < l.length ∧ (l.getD k zdep).out = d.out
  · rw [if_pos hc]
    obtain ⟨h1, h2⟩ := hc
    rw [getD_get h1] at h2
    have ho : (l.set k d).map (·.out) = l.map (·.out) := by
      rw [List.map_set]
      apply List.ext_getElem?
      intro i
      rw [List.getElem?_set]
      split
      · rename_i he
        subst he
        rw [List.getElem?_map, List.getElem?_eq_getElem h1]
        simp [h1, h2]
      · rfl
    refine ⟨dsorted_iff.2 (by rw [ho]; exact dsorted_iff.1 hs), by rw [ho]; exact hn, fun x => ?_⟩
    have hp := List.pairwise_iff_getElem.1 (List.nodup_iff_pairwise_ne.1 hn)
    have hinj : ∀ i (hi : i < l.length), l[i].out = d.out → i = k := fun i hi he => by
      rcases Nat.lt_trichotomy i k with h | h | h
      · exact absurd (show (l.map (·.out))[i]'(by simpa using hi) = (l.map (·.out))[k]'(by simpa using h1) by simp [he, h2]) (hp i k (by simpa using hi) (by simpa using h1) h)
      · exact h
      · exact absurd (show (l.map (·.out))[k]'(by simpa using h1) = (l.map (·.out))[i]'(by simpa using hi) by simp [he, h2]) (hp k i (by simpa using h1) (by simpa using hi) h)
    constructor
    · intro hx
      obtain ⟨i, hi, e⟩ := List.mem_iff_getElem.1 hx
      rw [List.length_set] at hi
      rw [List.getElem_set] at e
      split at e
      · exact .inr e.symm
      · rename_i hne
        left
        refine ⟨e ▸ List.getElem_mem hi, fun he => hne ?_⟩
        rw [← e] at he
        exact (hinj i hi he).symm
    · rintro (⟨hx, hne⟩ | rfl)
      · obtain ⟨i, hi, e⟩ := List.mem_iff_getElem.1 hx
        refine List.mem_iff_getElem.2 ⟨i, by rw [List.length_set]; exact hi, ?_⟩
        rw [List.getElem_set]
        split
        · rename_i he
          subst he
          rw [← e] at hne
          exact absurd h2 hne
        · exact e
      · exact List.mem_iff_getElem.2 ⟨k, by rw [List.length_set]; exact h1, by rw [List.getElem_set]; simp⟩
  · rw [if_neg hc]
    -- what lies before is smaller, what lies behind is greater
    have hbef : ∀ x ∈ l.take k, dlt x.out d.out = true := fun x hx => by
      obtain ⟨i, hi, e⟩ := List.mem_iff_getElem.1 hx
      rw [List.length_take] at hi
      have h1 := hlt i (by omega)
      rw [getD_get (by omega)] at h1
      rw [List.getElem_take] at e
      rw [← e]
      exact h1
    have hbeh : ∀ x ∈ l.drop k, dlt d.out x.out = true := fun x hx => by
      obtain ⟨i, hi, e⟩ := List.mem_iff_getElem.1 hx
      rw [List.length_drop] at hi
      rw [List.getElem_drop] at e
      have hkl : k < l.length := by omega
      have h0 := hat hkl
      rw [getD_get hkl] at h0
      have hne : l[k].out ≠ d.out := fun he => hc ⟨hkl, by rw [getD_get hkl]; exact he⟩
      have hdk : dlt d.out l[k].out = true := by
        cases h : dlt d.out l[k].out with
        | true => rfl
        | false => exact absurd (dlt_total _ _ h0 h) hne
      cases i with
      | zero => rw [← e]; exact hdk
      | succ i =>
        have h3 := hs2 k (k + (i + 1)) hkl (by omega) (by omega)
        rw [← e]
        cases h : dlt d.out l[k + (i + 1)].out with
        | true => rfl
        | false =>
          have := dlt_ntrans _ _ _ h h3
          rw [hdk] at this
          cases this
    have hneq : ∀ x ∈ l, x.out ≠ d.out := fun x hx he => by
      rw [← List.take_append_drop k l] at hx
      rcases List.mem_append.1 hx with h | h
      · have := hbef x h
        rw [he, dlt_irrefl] at this
        cases this
      · have := hbeh x h
        rw [he, dlt_irrefl] at this
        cases this
    have hmem : ∀ x, x ∈ l.take k ++ d :: l.drop k ↔ (x ∈ l ∧ x.out ≠ d.out) ∨ x = d := fun x => by
      rw [List.mem_append, List.mem_cons]
      constructor
      · rintro (h | h | h)
        · exact .inl ⟨List.mem_of_mem_take h, hneq x (List.mem_of_mem_take h)⟩
        · exact .inr h
        · exact .inl ⟨List.mem_of_mem_drop h, hneq x (List.mem_of_mem_drop h)⟩
      · rintro (⟨h, _⟩ | h)
        · rw [← List.take_append_drop k l] at h
          rcases List.mem_append.1 h with h | h
          · exact .inl h
          · exact .inr (.inr h)
        · exact .inr (.inl h)
    refine ⟨?_, ?_, hmem⟩
    · unfold DSorted
      rw [List.pairwise_append]
      refine ⟨hs.sublist (List.take_sublist _ _), List.pairwise_cons.2 ⟨fun x hx => dlt_asymm _ _ (hbeh x hx), hs.sublist (List.drop_sublist _ _)⟩, fun a ha x hx => ?_⟩
      rcases List.mem_cons.1 hx with rfl | hx
      · exact dlt_asymm _ _ (hbef a ha)
      · exact dlt_asymm _ _ (dlt_trans _ _ _ (hbef a ha) (hbeh x hx))
    · rw [List.map_append, List.map_cons, List.nodup_append]
      refine ⟨?_, List.nodup_cons.2 ⟨?_, ?_⟩, ?_⟩
      · exact hn.sublist ((List.take_sublist _ _).map _)
      · intro h
        obtain ⟨x, hx, he⟩ := List.mem_map.1 h
        exact hneq x (List.mem_of_mem_drop hx) he
      · exact hn.sublist ((List.drop_sublist _ _).map _)
      · intro a ha x hx he
        obtain ⟨y, hy, rfl⟩ := List.mem_map.1 ha
        rcases List.mem_cons.1 hx with rfl | hx
        · exact hneq y (List.mem_of_mem_take hy) he
        · obtain ⟨z, hz, rfl⟩ := List.mem_map.1 hx
          have h1 := dlt_trans _ _ _ (hbef y hy) (hbeh z hz)
          rw [he, dlt_irrefl] at h1
          cases h1
/-- Behind an output's record the reference's list is all of the book. -/
theorem AllOf.put {b : BookV} (hb : Good b) {l : List DepV} (h : AllOf b l) {n : Nat} (hn : n < b.ns.length) (f : FndV) : AllOf ⟨b.ns, putO b.os n f⟩ (putV l (depV b n f)) := by
  obtain ⟨h1, h2, h3⟩ := putV_spec h.sorted h.nodup (depV b n f)
  refine ⟨h1, h2, fun x => ?_⟩
  rw [h3 x]
  have hout : ∀ m g e, m < b.ns.length → (depV b m g).out = (depV b n e).out → m = n := fun m g e hm he => by
    unfold depV at he
    simp only [List.getD_eq_getElem?_getD, List.getElem?_eq_getElem hm, List.getElem?_eq_getElem hn, Option.getD_some] at he
    have hp := List.pairwise_iff_getElem.1 (List.nodup_iff_pairwise_ne.1 hb.nodup)
    rcases Nat.lt_trichotomy m n with hl | hl | hl
    · exact absurd he (hp m n hm hn hl)
    · exact hl
    · exact absurd he.symm (hp n m hn hm hl)
  constructor
  · rintro (⟨hx, hne⟩ | rfl)
    · obtain ⟨m, g, h4, rfl⟩ := (h.mem x).1 hx
      refine ⟨m, g, ?_, rfl⟩
      have hmn : m ≠ n := fun e => hne (by rw [e]; rfl)
      show putO b.os n f m = some g
      unfold putO
      rw [if_neg hmn]
      exact h4
    · exact ⟨n, f, by show putO b.os n f n = some f; unfold putO; rw [if_pos rfl], rfl⟩
  · rintro ⟨m, g, h4, rfl⟩
    have h4 : putO b.os n f m = some g := h4
    unfold putO at h4
    by_cases hmn : m = n
    · rw [if_pos hmn] at h4
      cases h4
      rw [hmn]
      exact .inr rfl
    · rw [if_neg hmn] at h4
      left
      exact ⟨(h.mem _).2 ⟨m, g, h4, rfl⟩, fun he => hmn (hout m g f (hb.at_ m g h4).1 he)⟩
theorem AllOf.names {b : BookV} {l : List DepV} (h : AllOf b l) (hb : Good b) (m : List ByteArray) : AllOf ⟨b.ns ++ m, b.os⟩ l := by
  refine ⟨h.sorted, h.nodup, fun d => ?_⟩
  rw [h.mem d]
  have key : ∀ n f, b.os n = some f → depV b n f = depV ⟨b.ns ++ m, b.os⟩ n f := fun n f hf => by
    obtain ⟨h1, h2, _⟩ := hb.at_ n f hf
    unfold depV
    simp only
    rw [getD_app h1]
    congr 1
    apply List.map_congr_left
    intro k hk
    rw [getD_app (h2 k hk)]
  constructor
  · rintro ⟨n, f, h1, rfl⟩
    exact ⟨n, f, h1, key n f h1⟩
  · rintro ⟨n, f, h1, rfl⟩
    exact ⟨n, f, h1, (key n f h1).symm⟩
theorem allOf0 : AllOf book0 [] := ⟨List.Pairwise.nil, List.nodup_nil, fun d => Iff.intro (fun h => by cases h) (fun h => by obtain ⟨n, f, h1, _⟩ := h; cases h1)⟩
end Go.Proofs.Ytinonkakpgiblaa.Nam
