/- Folds of parts, and the last run (plain); cutting a row of runs. -/
import Derived.Test.YtehndlafbbpofaaRunsFoldsW
namespace Go.Proofs.Ytehndlafbbpofaa.Run
open Go.RowKit Go.Proofs.YtehndlafbbpofaaW.PrintWords Go.Proofs.YtehndlafbbpofaaW.PrintLast Go.Proofs.Ytehndlafbbpofaa.Base Go.Proofs.Ytehndlafbbpofaa.Pack
set_option linter.unusedVariables false
set_option linter.unusedSimpArgs false

theorem lastR_foldR (s : ByteArray) (l : List RunV) : lastR s (foldR l) = lastR s l := by
  cases h : lastR s (foldR l) with
  | some r =>
    obtain ⟨h1, h2⟩ := lastR_out h
    have h3 := ((foldR_rising l).2 r).1 h2
    rw [h1] at h3
    exact h3.symm
  | none =>
    cases h2 : lastR s l with
    | none => rfl
    | some r =>
      have h3 := (lastR_out h2).1
      have h4 : r ∈ foldR l := ((foldR_rising l).2 r).2 (by rw [h3]; exact h2)
      have h5 := lastR_some ⟨r, h4, h3⟩
      rw [h] at h5
      cases h5
theorem lastR_app (s : ByteArray) (a b c : List RunV) (h : lastR s a = lastR s b) : lastR s (a ++ c) = lastR s (b ++ c) := by
  refine snoc_ind (P := fun c => lastR s (a ++ c) = lastR s (b ++ c)) (by rw [List.append_nil, List.append_nil]; exact h) (fun l x ih => ?_) c
  rw [← List.append_assoc, ← List.append_assoc, lastR_snoc, lastR_snoc, ih]
theorem fold_parts (l : List RunV) (k : Nat) : foldR (foldR (l.take k) ++ l.drop k) = foldR l := by
  refine eq_of_rising (foldR_rising _).1 (foldR_rising _).1 (fun y => ?_)
  rw [(foldR_rising _).2, (foldR_rising _).2, lastR_app y.out _ _ (l.drop k) (lastR_foldR y.out (l.take k)), List.take_append_drop]
theorem rising_next (l : List RunV) (j : Nat) (h : j + 1 < (foldR l).length) : bl ((foldR l).getD j zv).out ((foldR l).getD (j + 1) zv).out = true := by
  have hr := (foldR_rising l).1
  rw [List.getD_eq_getElem?_getD, List.getElem?_eq_getElem (by omega), List.getD_eq_getElem?_getD, List.getElem?_eq_getElem h]
  exact List.pairwise_iff_getElem.1 hr j (j + 1) (by omega) h (by omega)
/-- Does a row have a run of an output? -/
def metR (s : ByteArray) (l : List RunV) : Bool := l.any (fun x => decide (x.out = s))
theorem ins'_len {r : RunV} : ∀ {l : List RunV}, Rising l → (ins' r l).length = if metR r.out l = true then l.length else l.length + 1
  | [], _ => rfl
  | x :: l, h => by
    obtain ⟨hx, hl⟩ := List.pairwise_cons.1 h
    unfold ins'
    by_cases h1 : bl x.out r.out = true
    · have hne : x.out ≠ r.out := fun e => bl_irr r.out (by rw [e] at h1; exact h1)
      have e : metR r.out (x :: l) = metR r.out l := by simp [metR, hne]
      rw [if_pos h1, List.length_cons, ins'_len hl, e]
      split <;> simp
    · rw [if_neg h1]
      by_cases h2 : x.out = r.out
      · have e : metR r.out (x :: l) = true := by simp [metR, h2]
        rw [if_pos h2, if_pos e]
        rfl
      · have h3 := bl_tot h1 h2
        have e : metR r.out (x :: l) = false := by
          simp only [metR, List.any_cons, Bool.or_eq_false_iff, decide_eq_false_iff_not, List.any_eq_false, decide_eq_true_eq]
          exact ⟨h2, fun y hy hye => bl_irr r.out (by have := bl_trans h3 (hx y hy); rw [hye] at this; exact this)⟩
        rw [if_neg h2, if_neg (by rw [e]; simp)]
        rfl
theorem metR_foldR (s : ByteArray) (l : List RunV) : metR s (foldR l) = metR s l := by
  have key : ∀ l : List RunV, metR s l = (lastR s l).isSome := by
    intro l
    cases h : lastR s l with
    | some r =>
      obtain ⟨h1, h2⟩ := lastR_out h
      simp only [metR, List.any_eq_true, decide_eq_true_eq, Option.isSome_some]
      exact ⟨r, h2, h1⟩
    | none =>
      cases h2 : metR s l with
      | false => rfl
      | true =>
        simp only [metR, List.any_eq_true, decide_eq_true_eq] at h2
        obtain ⟨r, h3, h4⟩ := h2
        have h5 := lastR_some ⟨r, h3, h4⟩
        rw [h] at h5
        cases h5
  rw [key, key, lastR_foldR]
theorem fold_snoc_len (l : List RunV) (r : RunV) : (foldR (l ++ [r])).length = if metR r.out l = true then (foldR l).length else (foldR l).length + 1 := by
  rw [foldR_snoc, insR_eq, ins'_len (foldR_rising l).1, metR_foldR]
/-- How many runs of a row are of an output. -/
def cntR (s : ByteArray) (l : List RunV) : Nat := (l.filter (fun x => decide (x.out = s))).length
theorem cntR_snoc (s : ByteArray) (l : List RunV) (x : RunV) : cntR s (l ++ [x]) = if x.out = s then cntR s l + 1 else cntR s l := by
  unfold cntR
  rw [List.filter_append, List.length_append]
  by_cases h : x.out = s <;> simp [h]
theorem cntR_none (s : ByteArray) (l : List RunV) (h : ∀ x ∈ l, x.out ≠ s) : cntR s l = 0 := by
  unfold cntR
  rw [List.length_eq_zero_iff, List.filter_eq_nil_iff]
  intro x hx
  simp [h x hx]
theorem cntR_one {s : ByteArray} : ∀ {l : List RunV}, Rising l → (∃ x ∈ l, x.out = s) → cntR s l = 1
  | [], _, h => by
    obtain ⟨_, h, _⟩ := h
    cases h
  | x :: l, h, he => by
    obtain ⟨hx, hl⟩ := List.pairwise_cons.1 h
    have e : cntR s (x :: l) = (if x.out = s then 1 else 0) + cntR s l := by
      unfold cntR
      rw [List.filter_cons]
      by_cases h : x.out = s
      · simp [h]; omega
      · simp [h]
    rw [e]
    by_cases h1 : x.out = s
    · rw [if_pos h1, cntR_none s l fun y hy hye => bl_irr s (by have := hx y hy; rw [h1, hye] at this; exact this)]
    · rw [if_neg h1]
      obtain ⟨y, hy, hye⟩ := he
      rcases List.mem_cons.1 hy with h2 | h2
      · rw [h2] at hye; exact absurd hye h1
      · rw [cntR_one hl ⟨y, h2, hye⟩]
theorem fold_snoc_cnt (l : List RunV) (r : RunV) : cntR r.out (foldR (l ++ [r])) = 1 := by
  refine cntR_one (foldR_rising _).1 ⟨r, ((foldR_rising _).2 r).2 ?_, rfl⟩
  rw [lastR_snoc, if_pos rfl]
theorem fold_snoc_at (l : List RunV) (r y : RunV) (hy : y ∈ foldR (l ++ [r])) (he : y.out = r.out) : y = r := by
  have h := ((foldR_rising _).2 y).1 hy
  rw [lastR_snoc, if_pos he.symm] at h
  injection h with h
  exact h.symm

/-! ### cutting a row of runs -/
theorem info_prun : ∃ i, Try.prog.info? 33 = some i ∧ i.size = 6 := by
  have h : (Try.prog.info? 33).map (·.size) = some 6 := by kernel_rfl
  obtain ⟨i, hi, hz⟩ := Option.map_eq_some_iff.1 h
  exact ⟨i, hi, hz⟩
theorem cut_cap_prun (A : Option Addr) (n c m : Nat) (hm : m ≤ c) (W : World) : (Instr.slice 54 (.slice A n c) none (some (.int .i64 (m : Int))) none).run Try.prog W = .ok (.slice A m c) W := by
  obtain ⟨i0, hi, hz⟩ := info_prun
  have hel : Try.prog.elem 54 = 33 := by simp [Program.elem, Try.underlying54]
  have hu : Try.prog.underlying 54 = some (.slice (Try.prog.elem 54)) := by rw [hel]; exact Try.underlying54
  have ha : (A.map fun x => x.add 0) = A := by cases A <;> simp [Addr.add]
  rw [run_slice_h W 54 A n c hu .i64 (m : Int) (by omega) (by omega), hel]
  simp [sizeOf, typeInfo, hi, hz, sliced, Result.andThen, ha]
theorem cut_from_prun (A : Option Addr) (n c m : Nat) (hm : m ≤ n) (W : World) : (Instr.slice 54 (.slice A n c) (some (.int .i64 (m : Int))) none none).run Try.prog W = .ok (.slice (if c = m then A else A.map (·.add (m * 6))) (n - m) (c - m)) W := by
  obtain ⟨i0, hi, hz⟩ := info_prun
  have hel : Try.prog.elem 54 = 33 := by simp [Program.elem, Try.underlying54]
  have hu : Try.prog.underlying 54 = some (.slice (Try.prog.elem 54)) := by rw [hel]; exact Try.underlying54
  rw [run_slice_l W 54 A n c hu .i64 (m : Int) (by omega) (by omega), hel]
  simp [sizeOf, typeInfo, hi, hz, sliced, Result.andThen]
theorem Rz.take {W w : World} {A : Option Addr} {n c : Nat} {l : List RunV} (h : Rz W w (.slice A n c) l) (hn : n = l.length) {k : Nat} (hk : k ≤ n) : Rz W w (.slice A k c) (l.take k) := by
  obtain ⟨A0, c0, e0, hc, hC⟩ := h
  injection e0 with e0 _ e1
  subst e0
  subst e1
  have e : (l.take k).length = k := by rw [List.length_take]; omega
  refine ⟨A, c, by rw [e], by rw [e]; omega, ?_⟩
  exact Kd.C_take (k := krun W) (A := A) hC (by omega)
theorem Rz.drop {W w : World} {A : Option Addr} {n c : Nat} {l : List RunV} (h : Rz W w (.slice A n c) l) (hn : n = l.length) {k : Nat} (hk : k ≤ n) :
    (krun W).C w (if c = k then A else A.map (·.add (k * 6))) (l.drop k).length (l.drop k) := by
  obtain ⟨A0, c0, e0, hc, hC⟩ := h
  injection e0 with e0 _ e1
  subst e0
  subst e1
  exact Kd.C_drop (k := krun W) (A := A) (c := c) hC (show k ≤ l.length by omega) hc
end Go.Proofs.Ytehndlafbbpofaa.Run
