/- Rows of texts and of numbers, as the walks use them. -/
import Derived.Test.YtifbkojapfighaaStoreRow
namespace Go.Proofs.Ytifbkojapfighaa.Gr
open Go.RowKit Go.Proofs.YtifbkojapfighaaW.PrintWords Go.Proofs.YtifbkojapfighaaW.PrintLast Go.Proofs.Ytifbkojapfighaa.Base Go.Maps
set_option linter.unusedVariables false
set_option linter.unusedSimpArgs false

/-- The number of a name. -/
def idx : List ByteArray → ByteArray → Option Nat
  | [], _ => none
  | x :: l, s => if x = s then some 0 else (idx l s).map (· + 1)
theorem idx_none {l : List ByteArray} {s : ByteArray} : idx l s = none ↔ s ∉ l := by
  induction l with
  | nil => simp [idx]
  | cons x l ih =>
    unfold idx
    by_cases h : x = s
    · simp [h]
    · rw [if_neg h, Option.map_eq_none_iff, ih, List.mem_cons]
      constructor
      · rintro h1 (h2 | h2)
        · exact h h2.symm
        · exact h1 h2
      · exact fun h1 h2 => h1 (Or.inr h2)
theorem idx_some {l : List ByteArray} {s : ByteArray} {n : Nat} (h : idx l s = some n) : n < l.length ∧ l.getD n ⟨#[]⟩ = s := by
  induction l generalizing n with
  | nil => cases h
  | cons x l ih =>
    unfold idx at h
    by_cases hx : x = s
    · rw [if_pos hx] at h
      cases h
      exact ⟨by simp, by simpa using hx⟩
    · rw [if_neg hx, Option.map_eq_some_iff] at h
      obtain ⟨m, hm, rfl⟩ := h
      have := ih hm
      exact ⟨by simp only [List.length_cons]; omega, by simpa using this.2⟩
theorem idx_isSome {l : List ByteArray} {s : ByteArray} : (idx l s).isSome = true ↔ s ∈ l := by
  cases h : idx l s with
  | none => simp [idx_none.1 h]
  | some n =>
    have := idx_some h
    refine ⟨fun _ => ?_, fun _ => rfl⟩
    rw [← this.2, List.getD_eq_getElem?_getD, List.getElem?_eq_getElem this.1]
    exact List.getElem_mem _
instance (s : ByteArray) (l : List ByteArray) : Decidable (s ∈ l) := decidable_of_iff _ idx_isSome
theorem ss_len {w : World} {v : Value} {l : List ByteArray} (h : Ss w v l) : ∃ A c, v = .slice A l.length c ∧ l.length ≤ c ∧ l.length ≤ 9223372036854775807 := by
  obtain ⟨A, c, h1, h2, h3, _⟩ := h
  exact ⟨A, c, h1, h2, h3⟩
theorem r_ss {w : World} {base : Nat} {ok : Nat → Prop} {e : Nat} {v : Value} {l : List ByteArray} (h : Kd.string.R e w base ok v l) : Ss w v l := by
  obtain ⟨A, c, rfl, hc, hC⟩ := Kd.R_reads h
  have h1 := Kd.reads_of_C (enc := Value.string) (d := ByteArray.empty) hC
  exact ⟨A, c, rfl, hc, h1.2.1, h1.2.2⟩
theorem ss_C {w : World} {A : Option Addr} {n c : Nat} {l : List ByteArray} (h : Ss w (.slice A n c) l) : Kd.string.C w A n l := by
  obtain ⟨A', c', e, _, h3, h4⟩ := h
  injection e with e1 e2 e3
  subst e1
  subst e2
  exact Kd.C_of_reads (enc := Value.string) (d := ByteArray.empty) ⟨rfl, h3, h4⟩
theorem str_lit (W : World) (base : Nat) (hb : base ≤ W.heap.size) (ok : Nat → Prop) (hok : ok W.heap.size) (s : ByteArray) : Kd.string.R 9 (W.alloc (.cells #[.string s] 9)) base ok (.slice (some ⟨W.heap.size, 0, none⟩) 1 1) [s] :=
  Kd.R_of_own (enc := Value.string) (own_lit_of (enc := Value.string) W base 9 [s] hb (by simp)) (fun k hk => by
    have : W.heap.size = k := by simpa [Value.ownBlock] using hk
    rw [← this]; exact hok)
theorem take_at {α : Type} (l : List α) (z : α) (k : Nat) (h : k < l.length) : l.take (k + 1) = l.take k ++ [l.getD k z] ∧ l.getD k z ∈ l := by
  refine ⟨?_, ?_⟩
  · rw [List.take_add_one, List.getElem?_eq_getElem h, List.getD_eq_getElem?_getD, List.getElem?_eq_getElem h]; rfl
  · rw [List.getD_eq_getElem?_getD, List.getElem?_eq_getElem h]; exact List.getElem_mem h
theorem split_at {α : Type} (l : List α) (z : α) (k : Nat) (h : k < l.length) : l = l.take k ++ l.getD k z :: l.drop (k + 1) := by
  conv => lhs; rw [← List.take_append_drop (k + 1) l]
  rw [(take_at l z k h).1, List.append_assoc]
  rfl
theorem str_eqb {a b : ByteArray} : (a.toList == b.toList) = decide (a = b) := by
  by_cases h : a = b
  · rw [h]; simp
  · rw [decide_eq_false h]
    apply beq_eq_false_iff_ne.2
    intro e
    rw [ByteArray.toList_eq, ByteArray.toList_eq] at e
    cases a
    cases b
    exact h (congrArg ByteArray.mk (Array.toList_inj.1 e))
set_option maxHeartbeats 800000 in
theorem clone_strs (v : Value) (l : List ByteArray) (w : World) (hv : Ss w v l) (hl : l.length ≤ 1000000000) :
    Calls Try.prog 35 #[v] w fun e w' => ∃ v', e = .returned v' ∧ Kd.string.R 9 w' w.heap.size (fun _ => True) v' l ∧ Below w.heap.size w w' := by
  obtain ⟨A, c, rfl, hc, hm⟩ := ss_len hv
  have hn := fun (w : World) (n c : Nat) (a : Option Addr) => Lib.run_eql_slice_nil (P := Try.prog) w 23 9 a n c 0 0 Try.underlying23
  have R := Lib.hid hv
  clear hv
  cases A with
  | none =>
    have hx : l = [] := by
      rcases Nat.eq_zero_or_pos l.length with h | h
      · exact List.eq_nil_of_length_eq_zero h
      · obtain ⟨_, _, e, _, _, h4⟩ := R.out
        obtain ⟨_, h', _⟩ := h4 h
        subst h'
        injection e with e1
        cases e1
    subst hx
    go_enter Try.func35, Try.ntmps35
    go_wp2
    go_ret
    exact ⟨_, rfl, Kd.R_nil _ _ _ _ _, Below.refl _ _⟩
  | some ad =>
    have HE := Lib.hid (str_nil w w.heap.size (Nat.le_refl _) (fun _ => True) trivial)
    have HR := Lib.hid (Kd.C_below (ss_C R.out) (below_alloc (Below.refl _ _) (.cells #[] 9)))
    go_enter Try.func35, Try.ntmps35
    go_wp2_with (at_builtin; refine Held.of ?_)
    refine Held.out (Kd.R_append_row Value.string ByteArray.empty (h1 := fun _ => rfl) (w0 := w) w.heap.size rfl (.tmp 5) (.tmp 6) 23 9 (.string ⟨#[]⟩) 16 rfl Try.underlying23 (by kernel_rfl) rfl (by decide) (.slice (some ⟨w.heap.size, 0, none⟩) 0 0) [] l (some ad) l.length c (fun _ => True) rfl rfl (fun _ _ => trivial) HE.out HR.out (below_alloc (Below.refl _ _) _) (below_alloc (Below.refl w.heap.size w) _).size (by simp only [List.length_nil]; omega) ?_)
    intro va w1 r1 b1 _ _
    rw [List.nil_append] at r1
    have HRI := Lib.hid r1
    have HB := Lib.hid b1
    clear r1 b1
    go_wp2
    go_ret
    exact ⟨_, rfl, HRI.out, HB.out⟩
theorem ss_nil (w : World) : Ss w (.slice none 0 0) [] := ⟨none, 0, rfl, Nat.le_refl _, by decide, fun h => absurd h (by decide)⟩
theorem r_int {w : World} {base : Nat} {ok : Nat → Prop} {e : Nat} {A : Option Addr} {n c : Nat} {xs : List Int} (h : (Kd.int .i64).R e w base ok (.slice A n c) xs) (k : Nat) (hk : k < xs.length) : ∃ ad, A = some ad ∧ w.cell? (ad.add k) = some (.int .i64 (xs.getD k 0)) := by
  obtain ⟨A', c', e', _, hC⟩ := Kd.R_reads h
  injection e' with e1
  subst e1
  obtain ⟨_, _, h3⟩ := Kd.reads_of_C (enc := Value.int .i64) (d := (0 : Int)) hC
  obtain ⟨ad, e, hc⟩ := h3 (by omega)
  exact ⟨ad, e, hc k hk⟩
end Go.Proofs.Ytifbkojapfighaa.Gr
