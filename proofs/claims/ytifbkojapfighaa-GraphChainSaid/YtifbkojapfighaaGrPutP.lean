/- Plain law: a row that rises, with a name put in; what is sorted and said once. -/
import Derived.Test.YtifbkojapfighaaGrFilter
namespace Go.Proofs.Ytifbkojapfighaa.Gr
open Go.RowKit Go.Proofs.YtifbkojapfighaaW.PrintWords Go.Proofs.YtifbkojapfighaaW.PrintLast Go.Proofs.Ytifbkojapfighaa.Base Go.Maps
set_option linter.unusedVariables false
set_option linter.unusedSimpArgs false

/-- A row that rises, with a name, once. -/
def putS (l : List ByteArray) (s : ByteArray) : List ByteArray :=
  if s ∈ l then l else l.takeWhile (fun x => slt x s) ++ [s] ++ l.dropWhile (fun x => slt x s)
theorem slt_asym {x y : ByteArray} (h : slt x y = true) : slt y x = false := by
  cases h2 : slt y x with
  | false => rfl
  | true => have := slt_trans x y x h h2; rw [slt_irrefl] at this; cases this
theorem mem_putS {l : List ByteArray} {s x : ByteArray} : x ∈ putS l s ↔ x ∈ l ∨ x = s := by
  unfold putS
  by_cases h : s ∈ l
  · rw [if_pos h]
    constructor
    · exact .inl
    · rintro (h1 | rfl)
      · exact h1
      · exact h
  · rw [if_neg h]
    have e : l = l.takeWhile (fun x => slt x s) ++ l.dropWhile (fun x => slt x s) := (List.takeWhile_append_dropWhile).symm
    constructor
    · intro hx
      rw [List.mem_append, List.mem_append, List.mem_singleton] at hx
      rcases hx with (hx | hx) | hx
      · left; rw [e]; exact List.mem_append_left _ hx
      · exact .inr hx
      · left; rw [e]; exact List.mem_append_right _ hx
    · intro hx
      rw [List.mem_append, List.mem_append, List.mem_singleton]
      rcases hx with hx | hx
      · rw [e] at hx
        rcases List.mem_append.1 hx with hx | hx
        · exact .inl (.inl hx)
        · exact .inr hx
      · exact .inl (.inr hx)
theorem drop_gt {s : ByteArray} : ∀ {l : List ByteArray}, Up l → s ∉ l → ∀ x ∈ l.dropWhile (fun x => slt x s), slt s x = true
  | [], _, _, x, hx => by simp at hx
  | a :: l, hu, hs, x, hx => by
    unfold Up at hu
    rw [List.pairwise_cons] at hu
    rw [List.dropWhile_cons] at hx
    cases ha : slt a s with
    | true =>
      rw [ha] at hx
      exact drop_gt (l := l) hu.2 (fun h => hs (List.mem_cons_of_mem _ h)) x hx
    | false =>
      rw [ha] at hx
      have h1 : slt s a = true := by
        cases h2 : slt s a with
        | true => rfl
        | false => exact absurd (slt_total a s ha h2) (fun e => hs (by rw [e]; exact .head _))
      rcases List.mem_cons.1 hx with rfl | hx
      · exact h1
      · exact slt_trans s a x h1 (hu.1 x hx)
theorem putS_up {l : List ByteArray} {s : ByteArray} (h : Up l) : Up (putS l s) := by
  unfold putS
  by_cases hs : s ∈ l
  · rw [if_pos hs]; exact h
  · rw [if_neg hs]
    have hd := drop_gt h hs
    have h1 : Up (l.takeWhile fun x => slt x s) := h.sublist (List.takeWhile_sublist _)
    have h2 : Up (l.dropWhile fun x => slt x s) := h.sublist (List.dropWhile_sublist _)
    have ht : ∀ x ∈ l.takeWhile (fun x => slt x s), slt x s = true := fun x hx => by
      have h3 := List.all_takeWhile (p := fun x => slt x s) (l := l)
      exact List.all_eq_true.1 h3 x hx
    unfold Up
    rw [List.append_assoc, List.pairwise_append]
    refine ⟨h1, ?_, fun a ha b hb => ?_⟩
    · rw [List.singleton_append, List.pairwise_cons]
      exact ⟨hd, h2⟩
    · rw [List.singleton_append, List.mem_cons] at hb
      rcases hb with rfl | hb
      · exact ht a ha
      · exact slt_trans a s b (ht a ha) (hd b hb)
def putAll (l ss : List ByteArray) : List ByteArray := ss.foldl putS l
theorem putAll_up (ss : List ByteArray) : ∀ (l : List ByteArray), Up l → Up (putAll l ss) := by
  induction ss with
  | nil => intro l h; exact h
  | cons s ss ih => intro l h; exact ih _ (putS_up h)
theorem mem_putAll (ss : List ByteArray) : ∀ (l : List ByteArray) (x : ByteArray), x ∈ putAll l ss ↔ x ∈ l ∨ x ∈ ss := by
  induction ss with
  | nil => intro l x; simp [putAll]
  | cons s ss ih =>
    intro l x
    show x ∈ putAll (putS l s) ss ↔ _
    rw [ih, mem_putS, List.mem_cons]
    constructor
    · rintro ((h | h) | h)
      · exact .inl h
      · exact .inr (.inl h)
      · exact .inr (.inr h)
    · rintro (h | h | h)
      · exact .inl (.inl h)
      · exact .inl (.inr h)
      · exact .inr h
theorem putAll_snoc (l ss : List ByteArray) (s : ByteArray) : putAll l (ss ++ [s]) = putS (putAll l ss) s := by
  unfold putAll; rw [List.foldl_append]; rfl
theorem putAll_append (l a b : List ByteArray) : putAll l (a ++ b) = putAll (putAll l a) b := by
  unfold putAll; rw [List.foldl_append]
theorem up_ext {l m : List ByteArray} (hl : Up l) (hm : Up m) (h : ∀ x, x ∈ l ↔ x ∈ m) : l = m :=
  rise_ext (r := fun a b => slt a b = true) (fun a h => by rw [slt_irrefl] at h; cases h) (fun a b h1 h2 => by rw [slt_asym h1] at h2; cases h2) l m hl hm h
theorem up_nil : Up [] := List.Pairwise.nil
/-- A row without doubles, sorted, rises. -/
theorem sortS_up {l : List ByteArray} (h : l.Nodup) : Up (sortS l) := by
  have h1 := sortS_sorted l
  have h2 : (sortS l).Nodup := (sortS_perm l).nodup_iff.2 h
  unfold Up
  refine (h1.and h2).imp ?_
  intro a b ⟨hab, hne⟩
  cases h3 : slt a b with
  | true => rfl
  | false => exact absurd (slt_total a b h3 hab) hne
theorem mem_sortS {l : List ByteArray} {s : ByteArray} : s ∈ sortS l ↔ s ∈ l := (sortS_perm l).mem_iff
theorem takeWhile_at {α : Type} {p : α → Bool} : ∀ (l : List α) (z : α) (k : Nat), k ≤ l.length → (∀ j, j < k → p (l.getD j z) = true) → (k < l.length → p (l.getD k z) = false) → l.takeWhile p = l.take k ∧ l.dropWhile p = l.drop k
  | [], z, k, hk, _, _ => by
    have : k = 0 := by simpa using hk
    subst this
    exact ⟨rfl, rfl⟩
  | a :: l, z, 0, _, _, h2 => by
    have := h2 (Nat.succ_pos _)
    simp only [List.getD_cons_zero] at this
    rw [List.takeWhile_cons, List.dropWhile_cons, this]
    exact ⟨rfl, rfl⟩
  | a :: l, z, k + 1, hk, h1, h2 => by
    have h0 := h1 0 (Nat.succ_pos _)
    simp only [List.getD_cons_zero] at h0
    obtain ⟨h3, h4⟩ := takeWhile_at l z k (Nat.le_of_succ_le_succ hk) (fun j hj => by simpa using h1 (j + 1) (Nat.succ_lt_succ hj)) (fun hk2 => by simpa using h2 (Nat.succ_lt_succ hk2))
    rw [List.takeWhile_cons, List.dropWhile_cons, h0]
    exact ⟨by rw [List.take_succ_cons]; simp [h3], by rw [List.drop_succ_cons]; simp [h4]⟩
/-- What the loop of Put has found. -/
theorem putS_here {l : List ByteArray} {s : ByteArray} {k : Nat} (hk : k < l.length) (h : l.getD k ByteArray.empty = s) : putS l s = l := by
  unfold putS
  rw [if_pos]
  rw [← h]
  exact (take_at l ByteArray.empty k hk).2
theorem putS_not {l : List ByteArray} {s : ByteArray} {k : Nat} (hu : Up l) (hk : k ≤ l.length) (h1 : ∀ j, j < k → slt (l.getD j ByteArray.empty) s = true) (h2 : k < l.length → slt (l.getD k ByteArray.empty) s = false) (h3 : k < l.length → l.getD k ByteArray.empty ≠ s) : putS l s = l.take k ++ [s] ++ l.drop k := by
  obtain ⟨e1, e2⟩ := takeWhile_at (p := fun x => slt x s) l ByteArray.empty k hk h1 h2
  have hs : s ∉ l := by
    intro hs
    obtain ⟨j, hj, e⟩ := List.mem_iff_getElem.1 hs
    have e3 : l.getD j ByteArray.empty = s := by rw [List.getD_eq_getElem?_getD, List.getElem?_eq_getElem hj]; exact e
    rcases Nat.lt_trichotomy j k with h | h | h
    · have := h1 j h
      rw [e3, slt_irrefl] at this
      cases this
    · rw [h] at e3 hj
      exact h3 hj e3
    · have hkl : k < l.length := by omega
      have h4 := Up.get hu h hj
      rw [e3, h2 hkl] at h4
      cases h4
  unfold putS
  rw [if_neg hs, e1, e2]
theorem putS_len (l : List ByteArray) (s : ByteArray) : (putS l s).length ≤ l.length + 1 := by
  unfold putS
  by_cases h : s ∈ l
  · rw [if_pos h]; omega
  · rw [if_neg h]
    have e := congrArg List.length (List.takeWhile_append_dropWhile (p := fun x => slt x s) (l := l))
    simp only [List.length_append, List.length_singleton] at e ⊢
    omega
theorem putAll_len (ss : List ByteArray) : ∀ (l : List ByteArray), (putAll l ss).length ≤ l.length + ss.length := by
  induction ss with
  | nil => intro l; exact Nat.le_refl _
  | cons s ss ih =>
    intro l
    have h1 := ih (putS l s)
    have h2 := putS_len l s
    show (putAll (putS l s) ss).length ≤ _
    rw [List.length_cons]
    omega
end Go.Proofs.Ytifbkojapfighaa.Gr
