/- slices.Sort, slices.Compact of texts, at rows of the call's own. -/
import Derived.Test.YtifbkojapfighaaGrSearch
import Derived.Test.YtifbkojapfighaaGrIter
import Derived.Test.YtifbkojapfighaaGrLay
namespace Go.Proofs.Ytifbkojapfighaa.Gr
open Go.RowKit Go.Proofs.YtifbkojapfighaaW.PrintWords Go.Proofs.YtifbkojapfighaaW.PrintLast Go.Proofs.Ytifbkojapfighaa.Base Go.Maps Go.Sort
set_option linter.unusedVariables false
set_option linter.unusedSimpArgs false

theorem grow_none (w : World) : grow w #[] = w := by
  cases w
  simp [grow]
/-- A text as its bytes. -/
def toB (s : ByteArray) : List UInt8 := s.data.toList
def ofB (l : List UInt8) : ByteArray := ⟨l.toArray⟩
theorem of_to (s : ByteArray) : ofB (toB s) = s := by simp [ofB, toB]
theorem to_of (l : List UInt8) : toB (ofB l) = l := by simp [ofB, toB]
theorem enc_toB (l : List ByteArray) : (l.map toB).map encStr = l.map Value.string := by
  rw [List.map_map]
  apply List.map_congr_left
  intro s _
  show Value.string (ofB (toB s)) = _
  rw [of_to]
theorem enc_ofB (ts : List (List UInt8)) : ts.map encStr = (ts.map ofB).map Value.string := by
  rw [List.map_map]
  rfl
theorem slt_toB (x y : ByteArray) : slt x y = decide (toB x < toB y) := by
  rw [slt_eq]
  unfold ltStr toB
  rw [ByteArray.toList_eq, ByteArray.toList_eq]
/-- The sorted row. -/
def sortS (l : List ByteArray) : List ByteArray := ((l.map toB).mergeSort fun x y => decide (x ≤ y)).map ofB
theorem sortS_perm (l : List ByteArray) : (sortS l).Perm l := by
  unfold sortS
  have h := (List.mergeSort_perm (l.map toB) (fun x y => decide (x ≤ y))).map ofB
  rw [List.map_map] at h
  have e : l.map (ofB ∘ toB) = l := by
    conv => rhs; rw [← List.map_id l]
    exact List.map_congr_left fun s _ => of_to s
  rw [e] at h
  exact h
theorem sortS_sorted (l : List ByteArray) : (sortS l).Pairwise fun a b => slt b a = false := by
  unfold sortS
  rw [List.pairwise_map]
  have h := List.pairwise_mergeSort (le := fun x y : List UInt8 => decide (x ≤ y)) (fun a b c h1 h2 => by simp only [decide_eq_true_eq] at *; exact List.le_trans h1 h2) (fun a b => by simp only [Bool.or_eq_true, decide_eq_true_eq]; exact List.le_total a b) (l.map toB)
  refine h.imp fun {a b} hab => ?_
  rw [slt_toB, to_of, to_of]
  simp only [decide_eq_true_eq] at hab
  exact decide_eq_false (List.not_lt.2 hab)
theorem row_block {w : World} {base g cap : Nat} {l : List ByteArray} {ok : Nat → Prop} (h : Kd.string.R 9 w base ok (.slice (some ⟨g, 0, none⟩) l.length cap) l) (hp : 0 < l.length) :
    ∃ cur, w.heap[g]? = some (.cells cur 9 (0, 0)) ∧ cur.toList.take l.length = l.map Value.string ∧ l.length ≤ cap ∧ cap ≤ maxLen ∧ cur.size = cap * 1 ∧ base ≤ g := by
  have ho := Kd.own_of_R (enc := Value.string) (h1 := fun _ => rfl) h
  rcases ho.2 with ⟨he, _⟩ | ⟨g', cap', cur, he, hb, hh, hnc, hcm, hcs, ht⟩
  · injection he with e1 e2 e3
    cases e1
  · injection he with e1 e2 e3
    injection e1 with e1
    injection e1 with e1
    subst e1 e3
    rw [Nat.mul_one] at ht
    exact ⟨cur, hh, ht, hnc, hcm, hcs, hb⟩
theorem sort_strs (base : Nat) (v : Value) (l : List ByteArray) (w : World) (h : Kd.string.R 9 w base (fun _ => True) v l) (hl : l.length ≤ 10000000) :
    Calls Try.prog 44 #[v] w fun e w' => e = .returned (.tuple #[]) ∧ Kd.string.R 9 w' base (fun _ => True) v (sortS l) ∧ w.grownBy w' v.ownBlock := by
  obtain ⟨A, c, rfl⟩ := Kd.R_slice h
  rcases Nat.eq_zero_or_pos l.length with h0 | hp
  · have hn : l = [] := List.eq_nil_of_length_eq_zero h0
    subst hn
    refine (AnyM.slices_Sort_string_none Try.sort44 A c w).mono ?_
    rintro e w' ⟨rfl, rfl⟩
    exact ⟨rfl, (by rw [show sortS [] = [] from List.eq_nil_of_length_eq_zero (sortS_perm []).length_eq]; exact h), ⟨rfl, rfl, rfl, Nat.le_refl _, fun _ _ _ => rfl⟩⟩
  · obtain ⟨g, cap, ev, hbg, hgl, cells, hcell⟩ := Kd.R_form h hp
    rw [ev] at h ⊢
    obtain ⟨cur, hb, ht, h1, h2, h3, h4⟩ := row_block h hp
    have hH : Holds encStr w g 0 (l.map toB).toArray := holds_of_block (ss := l.map toB) hb (by rw [enc_toB, List.length_map]; exact ht)
    have hl2 : (l.map toB).length = l.length := List.length_map _
    have hc := AnyM.slices_Sort_string Try.sort44 g 0 cap (l.map toB) w hH hgl (by rw [hl2]; omega)
    rw [hl2] at hc
    refine hc.mono ?_
    rintro e w' ⟨rfl, n, os, rfl⟩
    refine ⟨rfl, ?_, grownBy_sorted _⟩
    have ho := ownsRow_sorted (w := w) (base := base) (g := g) (cap := cap) (n := n) (os := os) (ss := l.map toB) (ts := (l.map toB).mergeSort fun x y => decide (x ≤ y)) (by rw [List.length_mergeSort]) h4 hb (by rw [hl2]; exact h1) h2 h3
    rw [enc_ofB, hl2] at ho
    have hln : (sortS l).length = l.length := (sortS_perm l).length_eq
    have hR := Kd.R_of_own (enc := Value.string) (h1 := fun _ => rfl) (ok := fun _ => True) (xs := sortS l) (by rw [hln]; exact ho) (fun _ _ => trivial)
    exact hR
/-- Without what is said twice. -/
def compS (l : List ByteArray) : List ByteArray := (Lib.compact (l.map toB)).map ofB
theorem comp_step (zs : List (List UInt8)) : ∀ m, m ≤ zs.length → (zs.Pairwise fun a b => a ≤ b) → ((Lib.compactUpTo zs.toArray m).Pairwise fun a b => a < b) ∧ (∀ x, x ∈ Lib.compactUpTo zs.toArray m ↔ x ∈ zs.take m) ∧ (Lib.compactUpTo zs.toArray m).length ≤ m := by
  intro m
  induction m with
  | zero => intro _ _; exact ⟨List.Pairwise.nil, fun x => by simp [Lib.compactUpTo], Nat.le_refl _⟩
  | succ m ih =>
    intro hm hs
    obtain ⟨h1, h2, h3⟩ := ih (by omega) hs
    have hml : m < zs.length := by omega
    have hgm : zs.toArray[m]! = zs[m] := by rw [getElem!_pos _ m (by simpa using hml)]; simp
    have htk : zs.take (m + 1) = zs.take m ++ [zs[m]] := by rw [List.take_add_one, List.getElem?_eq_getElem hml]; rfl
    rw [Lib.compactUpTo_succ]
    have hle : ∀ x ∈ zs.take m, x ≤ zs[m] := fun x hx => by
      obtain ⟨i, hi, e⟩ := List.mem_iff_getElem.1 hx
      rw [List.length_take] at hi
      rw [List.getElem_take] at e
      rw [← e]
      exact List.pairwise_iff_getElem.1 hs i m (by omega) hml (by omega)
    cases hk : Lib.keeps zs.toArray m with
    | true =>
      rw [if_pos rfl, hgm]
      refine ⟨?_, fun x => ?_, by rw [List.length_append, List.length_singleton]; omega⟩
      · rw [List.pairwise_append]
        refine ⟨h1, List.pairwise_singleton _ _, fun a ha b hb => ?_⟩
        rw [List.mem_singleton.1 hb]
        have ha2 := (h2 a).1 ha
        have h4 := hle a ha2
        rcases Nat.eq_zero_or_pos m with h0 | hp
        · subst h0
          rw [List.take_zero] at ha2
          cases ha2
        · have hne : zs[m] ≠ zs[m - 1] := by
            intro e
            have hkn := Lib.keeps_neg (d := zs.toArray) hp (by rw [hgm, getElem!_pos _ (m - 1) (by simp; omega)]; simpa using e)
            rw [hk] at hkn
            cases hkn
          have h5 : a ≤ zs[m - 1] := by
            obtain ⟨i, hi, e⟩ := List.mem_iff_getElem.1 ha2
            rw [List.length_take] at hi
            rw [List.getElem_take] at e
            rw [← e]
            rcases Nat.lt_or_ge i (m - 1) with hlt | hge
            · exact List.pairwise_iff_getElem.1 hs i (m - 1) (by omega) (by omega) hlt
            · have : i = m - 1 := by omega
              subst this
              exact List.le_refl _
          have h6 : zs[m - 1] ≤ zs[m] := List.pairwise_iff_getElem.1 hs (m - 1) m (by omega) hml (by omega)
          have h7 : zs[m - 1] < zs[m] := Classical.byContradiction fun hn => hne (List.le_antisymm (List.not_lt.1 hn) h6)
          exact List.lt_of_le_of_lt h5 h7
      · rw [List.mem_append, h2 x, htk, List.mem_append]
    | false =>
      rw [if_neg (by decide), List.append_nil]
      refine ⟨h1, fun x => ?_, by omega⟩
      rw [h2 x, htk, List.mem_append]
      constructor
      · exact .inl
      · rintro (h | h)
        · exact h
        · have hp : 0 < m := by
            rcases Nat.eq_zero_or_pos m with h0 | hp
            · subst h0
              rw [Lib.keeps_lt_one _ 0 (by omega)] at hk
              cases hk
            · exact hp
          have he : zs[m] = zs[m - 1] := by
            refine Classical.byContradiction fun hne => ?_
            rw [Lib.keeps_pos (d := zs.toArray) (by rw [hgm, getElem!_pos _ (m - 1) (by simp; omega)]; simpa using hne)] at hk
            cases hk
          rw [List.mem_singleton.1 h, he]
          exact List.mem_iff_getElem.2 ⟨m - 1, by rw [List.length_take]; omega, by rw [List.getElem_take]⟩
theorem compS_spec {l : List ByteArray} (hs : l.Pairwise fun a b => slt b a = false) : Up (compS l) ∧ (∀ s, s ∈ compS l ↔ s ∈ l) ∧ (compS l).length ≤ l.length := by
  have hz : (l.map toB).Pairwise fun a b => a ≤ b := by
    rw [List.pairwise_map]
    refine hs.imp fun {a b} h => ?_
    rw [slt_toB] at h
    exact List.not_lt.1 (of_decide_eq_false h)
  obtain ⟨h1, h2, h3⟩ := comp_step (l.map toB) (l.map toB).length (Nat.le_refl _) hz
  rw [List.take_length] at h2
  unfold compS Up Lib.compact
  refine ⟨?_, fun s => ?_, by rw [List.length_map]; rw [List.length_map] at h3; rw [List.length_map]; exact h3⟩
  · rw [List.pairwise_map]
    exact h1.imp fun {a b} h => by rw [slt_toB, to_of, to_of]; exact decide_eq_true h
  · rw [List.mem_map]
    constructor
    · rintro ⟨x, hx, rfl⟩
      obtain ⟨t, ht, rfl⟩ := List.mem_map.1 ((h2 x).1 hx)
      rw [of_to]
      exact ht
    · intro h
      exact ⟨toB s, (h2 _).2 (List.mem_map_of_mem h), of_to s⟩
theorem compact_strs (base : Nat) (v : Value) (l : List ByteArray) (w : World) (h : Kd.string.R 9 w base (fun _ => True) v l) (hl : l.length ≤ 10000000) (hle : (compS l).length ≤ l.length) :
    Calls Try.prog 63 #[v] w fun e w' => ∃ v', e = .returned v' ∧ Kd.string.R 9 w' base (fun _ => True) v' (compS l) ∧ w.grownBy w' v.ownBlock := by
  obtain ⟨A, c, rfl⟩ := Kd.R_slice h
  rcases Nat.eq_zero_or_pos l.length with h0 | hp
  · have hn : l = [] := List.eq_nil_of_length_eq_zero h0
    subst hn
    refine (AnyG.slices_Compact_string_empty Try.compact63 A c w).mono ?_
    rintro e w' ⟨rfl, rfl⟩
    exact ⟨_, rfl, h, ⟨rfl, rfl, rfl, Nat.le_refl _, fun _ _ _ => rfl⟩⟩
  · obtain ⟨g, cap, ev, hbg, hgl, cells, hcell⟩ := Kd.R_form h hp
    rw [ev] at h ⊢
    obtain ⟨cur, hb, ht, h1, h2, h3, h4⟩ := row_block h hp
    have hH : Holds encStr w g 0 (l.map toB).toArray := holds_of_block (ss := l.map toB) hb (by rw [enc_toB, List.length_map]; exact ht)
    have hl2 : (l.map toB).length = l.length := List.length_map _
    have hc := AnyG.slices_Compact_string Try.compact63 g 0 cap (l.map toB) w hH (by rw [hl2]; omega) (by rw [hl2]; exact h1)
    rw [hl2] at hc
    refine hc.mono ?_
    rintro e w' ⟨rfl, q, rfl⟩
    obtain ⟨ts, hts⟩ : ∃ ts, ts = Lib.compact (l.map toB) ++ List.replicate (l.length - (Lib.compact (l.map toB)).length) [] := ⟨_, rfl⟩
    have hcl : (compS l).length = (Lib.compact (l.map toB)).length := by unfold compS; rw [List.length_map]
    have htl : ts.length = (l.map toB).length := by rw [hts, List.length_append, List.length_replicate, hl2]; omega
    have hg0 : grow (putRow encStr (Sort.ahead w q) g 0 ts.toArray) #[] = putRow encStr (Sort.ahead w q) g 0 ts.toArray := grow_none _
    rw [← hts]
    have ho := ownsRow_sorted (w := w) (base := base) (g := g) (cap := cap) (n := q) (os := #[]) (ss := l.map toB) (ts := ts) htl h4 hb (by rw [hl2]; exact h1) h2 h3
    have hgr := grownBy_sorted (w := w) (g := g) (n := q) (os := #[]) ts.toArray
    rw [hg0] at ho hgr
    rw [hl2] at ho
    have ht2 := own_take ho (m := (compS l).length) (by omega)
    have hz : (ts.map encStr).take ((compS l).length * 1) = (compS l).map Value.string := by
      rw [Nat.mul_one, hts, List.map_append, hcl, List.take_append_of_le_length (by rw [List.length_map]; exact Nat.le_refl _), List.take_of_length_le (by rw [List.length_map]; exact Nat.le_refl _), enc_ofB]
      rfl
    rw [hz] at ht2
    refine ⟨_, rfl, ?_, hgr⟩
    rw [← hcl]
    exact Kd.R_of_own (enc := Value.string) (h1 := fun _ => rfl) ht2 (fun _ _ => trivial)
end Go.Proofs.Ytifbkojapfighaa.Gr
