/- Plain law: a row of files, each made of the one ahead. -/
import Derived.Test.YtifbkojapfighaaGrTar
namespace Go.Proofs.Ytifbkojapfighaa.Gr
open Go.RowKit Go.Proofs.YtifbkojapfighaaW.PrintWords Go.Proofs.YtifbkojapfighaaW.PrintLast Go.Proofs.Ytifbkojapfighaa.Base Go.Maps
set_option linter.unusedVariables false
set_option linter.unusedSimpArgs false

/-- The i-th file's name. -/
def nameV (i : Nat) : ByteArray := ⟨#[102, UInt8.ofNat (97 + i / 26), UInt8.ofNat (97 + i % 26)]⟩
theorem nameV_inj {i j : Nat} (hi : i ≤ 30) (hj : j ≤ 30) (h : nameV i = nameV j) : i = j := by
  unfold nameV at h
  injection h with h
  have h := Array.toList_inj.2 h
  simp only [List.cons.injEq, and_true, true_and] at h
  obtain ⟨h1, h2⟩ := h
  have e1 := congrArg UInt8.toNat h1
  have e2 := congrArg UInt8.toNat h2
  simp only [UInt8.toNat_ofNat'] at e1 e2
  omega
theorem nameV_size (i : Nat) : (nameV i).size = 3 := rfl
/-- Which file the j-th edge makes. -/
def kOf (n : Nat) (turned : Bool) (j : Nat) : Nat := if turned = true then n - j else j + 1
def chainE (n : Nat) (turned : Bool) (j : Nat) : EdgeV := ⟨[nameV (kOf n turned j)], [], [nameV (kOf n turned j - 1)], [], ⟨#[]⟩, ⟨#[]⟩⟩
def chainEs (n : Nat) (turned : Bool) (j : Nat) : List EdgeV := (List.range j).map (chainE n turned)
theorem chainEs_snoc (n : Nat) (t : Bool) (j : Nat) : chainEs n t (j + 1) = chainEs n t j ++ [chainE n t j] := by
  unfold chainEs; rw [List.range_succ, List.map_append]; rfl
theorem chainEs_len (n : Nat) (t : Bool) (j : Nat) : (chainEs n t j).length = j := by unfold chainEs; simp
theorem chainEs_get {n : Nat} {t : Bool} {j i : Nat} (h : i < j) : (chainEs n t j).getD i zedge = chainE n t i := by
  unfold chainEs
  rw [List.getD_eq_getElem?_getD, List.getElem?_map, List.getElem?_range h]
  rfl
/-- The edge that makes a file. -/
def pOf (n : Nat) (turned : Bool) (k : Nat) : Nat := if turned = true then n - k else k - 1
theorem kOf_lt {n : Nat} {t : Bool} {j : Nat} (h : j < n) : 1 ≤ kOf n t j ∧ kOf n t j ≤ n := by
  unfold kOf; cases t <;> simp <;> omega
theorem kOf_pOf {n : Nat} {t : Bool} {k : Nat} (h1 : 1 ≤ k) (h2 : k ≤ n) : kOf n t (pOf n t k) = k ∧ pOf n t k < n := by
  unfold kOf pOf; cases t <;> simp <;> omega
theorem pOf_kOf {n : Nat} {t : Bool} {j : Nat} (h : j < n) : pOf n t (kOf n t j) = j := by
  unfold kOf pOf; cases t <;> simp <;> omega
/-- All outputs of a row. -/
theorem allOuts_chain (n : Nat) (t : Bool) (j : Nat) : allOuts (chainEs n t j) = (List.range j).map fun i => nameV (kOf n t i) := by
  induction j with
  | zero => rfl
  | succ j ih => rw [chainEs_snoc, allOuts_snoc, ih, List.range_succ, List.map_append]; rfl
theorem outs_mem {n : Nat} {t : Bool} {s : ByteArray} : s ∈ allOuts (chainEs n t n) ↔ ∃ k, 1 ≤ k ∧ k ≤ n ∧ s = nameV k := by
  rw [allOuts_chain, List.mem_map]
  constructor
  · rintro ⟨i, hi, rfl⟩
    have h := kOf_lt (t := t) (List.mem_range.1 hi)
    exact ⟨_, h.1, h.2, rfl⟩
  · rintro ⟨k, h1, h2, rfl⟩
    obtain ⟨h3, h4⟩ := kOf_pOf (t := t) h1 h2
    exact ⟨_, List.mem_range.2 h4, by rw [h3]⟩
theorem outs_nodup {n : Nat} (hn : n ≤ 30) (t : Bool) : (allOuts (chainEs n t n)).Nodup := by
  rw [allOuts_chain]
  refine List.pairwise_map.2 (List.nodup_range.imp_of_mem fun {a b} ha hb hne e => hne ?_)
  have ha := List.mem_range.1 ha
  have hb := List.mem_range.1 hb
  have h1 := kOf_lt (t := t) ha
  have h2 := kOf_lt (t := t) hb
  have h3 := nameV_inj (by omega) (by omega) e
  rw [← pOf_kOf (t := t) ha, ← pOf_kOf (t := t) hb, h3]
theorem chain_maker {n : Nat} (hn : n ≤ 30) {t : Bool} {k : Nat} (h1 : 1 ≤ k) (h2 : k ≤ n) : makerOf (chainEs n t n) (nameV k) = some (pOf n t k) := by
  obtain ⟨h3, h4⟩ := kOf_pOf (t := t) h1 h2
  refine maker_uniq (outs_nodup hn t) (by rw [chainEs_len]; exact h4) ?_
  rw [chainEs_get h4]
  show nameV k ∈ [nameV (kOf n t (pOf n t k))]
  rw [h3]
  exact .head _
theorem chain_maker0 {n : Nat} (hn : n ≤ 30) {t : Bool} : makerOf (chainEs n t n) (nameV 0) = none := by
  cases h : makerOf (chainEs n t n) (nameV 0) with
  | none => rfl
  | some k =>
    have h1 := maker_some (es := chainEs n t n) (s := nameV 0)
    rw [h] at h1
    have h2 := of_decide_eq_true h1.symm
    obtain ⟨k, h3, h4, h5⟩ := outs_mem.1 h2
    have := nameV_inj (by omega) (by omega) h5
    omega
/-- Who stands ahead, in a row. -/
def chainAh (n : Nat) (t : Bool) : List (List Nat) := (List.range n).map fun j => if kOf n t j = 1 then [] else [pOf n t (kOf n t j - 1)]
theorem chain_ahead {n : Nat} (hn : n ≤ 30) (t : Bool) : aheadV (chainEs n t n) = chainAh n t := by
  unfold aheadV chainAh
  conv => lhs; rw [show chainEs n t n = (List.range n).map (chainE n t) from rfl]
  rw [List.map_map]
  apply List.map_congr_left
  intro j hj
  have hj := List.mem_range.1 hj
  have h := kOf_lt (t := t) hj
  show madeF (makerOf (chainEs n t n)) [nameV (kOf n t j - 1)] = _
  show (match makerOf (chainEs n t n) (nameV (kOf n t j - 1)) with | some n => if n ∈ ([] : List Nat) then [] else [] ++ [n] | none => []) = _
  by_cases h1 : kOf n t j = 1
  · rw [if_pos h1, h1, chain_maker0 hn]
  · rw [if_neg h1, chain_maker hn (by omega) (by omega)]
    simp
def chainOk (n : Nat) (t : Bool) : Bool := decide (orderV (chainAh n t) (List.range n) = if t = true then (List.range n).reverse else List.range n)
set_option maxRecDepth 100000 in
set_option maxHeartbeats 4000000 in
theorem chain_ok : ∀ n : Fin 31, ∀ t : Bool, chainOk n.val t = true := by decide +kernel
theorem chain_order {n : Nat} (hn : n ≤ 30) (t : Bool) : orderV (aheadV (chainEs n t n)) (List.range n) = if t = true then (List.range n).reverse else List.range n := by
  rw [chain_ahead hn]
  exact of_decide_eq_true (chain_ok ⟨n, by omega⟩ t)
theorem chain_whole {n : Nat} (hn : n ≤ 30) (t : Bool) : ¬ (orderV (aheadV (chainEs n t n)) (List.range (chainEs n t n).length)).length < (chainEs n t n).length := by
  rw [chainEs_len, chain_order hn]
  cases t <;> simp
/-- All of a row stands below its last file. -/
theorem chain_reach {n : Nat} (h1 : 1 ≤ n) (hn : n ≤ 30) {t : Bool} {l : List Nat} (h : IsReach (aheadV (chainEs n t n)) (madeF (makerOf (chainEs n t n)) [nameV n]) l) : l = List.range n := by
  have hm : madeF (makerOf (chainEs n t n)) [nameV n] = [pOf n t n] := by
    show (match makerOf (chainEs n t n) (nameV n) with | some n => if n ∈ ([] : List Nat) then [] else [] ++ [n] | none => []) = _
    rw [chain_maker hn h1 (Nat.le_refl n)]
    simp
  rw [hm] at h
  have key : ∀ d, d < n → Reach (aheadV (chainEs n t n)) [pOf n t n] (pOf n t (n - d)) := by
    intro d
    induction d with
    | zero => intro _; exact .base _ (List.mem_singleton.2 rfl)
    | succ d ih =>
      intro hd
      refine .step _ _ (ih (by omega)) ?_
      rw [chain_ahead hn]
      obtain ⟨h3, h4⟩ := kOf_pOf (n := n) (t := t) (k := n - d) (by omega) (by omega)
      unfold chainAh
      rw [List.getD_eq_getElem?_getD, List.getElem?_map, List.getElem?_range h4]
      show _ ∈ if kOf n t (pOf n t (n - d)) = 1 then [] else [pOf n t (kOf n t (pOf n t (n - d)) - 1)]
      rw [h3, if_neg (by omega)]
      exact List.mem_singleton.2 (by rw [Nat.sub_sub])
  refine rise_ext (r := fun a b : Nat => a < b) (fun a h => Nat.lt_irrefl a h) (fun a b h1 h2 => by omega) _ _ h.up List.pairwise_lt_range fun x => ?_
  rw [h.mem, List.mem_range]
  constructor
  · intro hr
    have := reach_lt (fun y hy => by rw [List.mem_singleton.1 hy, ahead_len, chainEs_len]; exact (kOf_pOf h1 (Nat.le_refl n)).2) (fun r hr k hk => by rw [ahead_len]; exact ahead_lt _ r hr k hk) hr
    rwa [ahead_len, chainEs_len] at this
  · intro hx
    have h5 := kOf_lt (n := n) (t := t) hx
    have h6 := key (n - kOf n t x) (by omega)
    have e : n - (n - kOf n t x) = kOf n t x := by omega
    rw [e, pOf_kOf hx] at h6
    exact h6
/-- The needs of a row. -/
theorem needs_mem {n : Nat} {t : Bool} {s : ByteArray} : s ∈ allNeeds (chainEs n t n) ↔ ∃ k, 1 ≤ k ∧ k ≤ n ∧ s = nameV (k - 1) := by
  unfold allNeeds chainEs
  rw [List.mem_flatten]
  constructor
  · rintro ⟨r, hr, hs⟩
    obtain ⟨e, he, rfl⟩ := List.mem_map.1 hr
    obtain ⟨j, hj, rfl⟩ := List.mem_map.1 he
    have h := kOf_lt (t := t) (List.mem_range.1 hj)
    have hs : s ∈ [nameV (kOf n t j - 1)] := hs
    exact ⟨_, h.1, h.2, List.mem_singleton.1 hs⟩
  · rintro ⟨k, h1, h2, rfl⟩
    obtain ⟨h3, h4⟩ := kOf_pOf (t := t) h1 h2
    refine ⟨_, List.mem_map.2 ⟨_, List.mem_map.2 ⟨pOf n t k, List.mem_range.2 h4, rfl⟩, rfl⟩, ?_⟩
    show _ ∈ [nameV (kOf n t (pOf n t k) - 1)]
    rw [h3]
    exact .head _
theorem len_one {α : Type} [DecidableEq α] {l : List α} {a : α} (hn : l.Nodup) (h : ∀ x, x ∈ l ↔ x = a) : l.length = 1 := by
  have h1 := nodup_sub_len' hn (m := [a]) (fun x hx => List.mem_singleton.2 ((h x).1 hx))
  have h2 := List.length_pos_of_mem ((h a).2 rfl)
  simp only [List.length_singleton] at h1
  omega
theorem chain_sources {n : Nat} (h1 : 1 ≤ n) (hn : n ≤ 30) (t : Bool) : (sourcesV (chainEs n t n)).length = 1 := by
  refine len_one (a := nameV 0) ((sources_up _).imp fun {a b} h e => by rw [e, slt_irrefl] at h; cases h) fun s => ?_
  rw [mem_sources, needs_mem]
  constructor
  · rintro ⟨⟨k, h2, h3, rfl⟩, h4⟩
    by_cases hk : k = 1
    · rw [hk]
    · rw [chain_maker hn (by omega) (by omega)] at h4
      cases h4
  · rintro rfl
    exact ⟨⟨1, Nat.le_refl 1, h1, rfl⟩, chain_maker0 hn⟩
theorem chain_targets {n : Nat} (h1 : 1 ≤ n) (hn : n ≤ 30) (t : Bool) : (targF (chainEs n t n) (allOuts (chainEs n t n))).length = 1 := by
  unfold targF
  refine len_one (a := nameV n) ((outs_nodup hn t).filter _) fun s => ?_
  rw [List.mem_filter, outs_mem, decide_eq_true_iff, needs_mem]
  constructor
  · rintro ⟨⟨k, h2, h3, rfl⟩, h4⟩
    by_cases hk : k = n
    · rw [hk]
    · exact absurd ⟨k + 1, by omega, by omega, rfl⟩ h4
  · rintro rfl
    refine ⟨⟨n, h1, Nat.le_refl n, rfl⟩, ?_⟩
    rintro ⟨k, h2, h3, h4⟩
    have := nameV_inj (by omega) (by omega) h4
    omega
/-- A row that is closed. -/
def ringEs (n : Nat) (t : Bool) : List EdgeV := chainEs n t n ++ [⟨[nameV 0], [], [], [nameV n], ⟨#[]⟩, ⟨#[]⟩⟩]
theorem ring_nodup {n : Nat} (hn : n ≤ 30) (t : Bool) : (allOuts (ringEs n t)).Nodup := by
  unfold ringEs
  rw [allOuts_snoc]
  refine List.nodup_append.2 ⟨outs_nodup hn t, by simp, fun a ha b hb e => ?_⟩
  subst e
  have hb : a ∈ [nameV 0] := hb
  rw [List.mem_singleton.1 hb] at ha
  obtain ⟨k, h3, h4, h5⟩ := outs_mem.1 ha
  have := nameV_inj (by omega) (by omega) h5
  omega
theorem ring_maker {n : Nat} (hn : n ≤ 30) {t : Bool} {k : Nat} (h2 : k ≤ n) : makerOf (ringEs n t) (nameV k) = some (if k = 0 then n else pOf n t k) := by
  unfold ringEs
  rw [makerOf_snoc, chainEs_len]
  by_cases hk : k = 0
  · subst hk
    rw [chain_maker0 hn, if_pos rfl]
    simp
  · rw [chain_maker hn (by omega) h2, if_neg hk]
    rfl
theorem ring_cycle {n : Nat} (h1 : 1 ≤ n) (hn : n ≤ 30) (t : Bool) : (orderV (aheadV (ringEs n t)) (List.range (ringEs n t).length)).length < (ringEs n t).length := by
  have hlen : (ringEs n t).length = n + 1 := by unfold ringEs; rw [List.length_append, chainEs_len]; rfl
  have h := ring_iff (ah := aheadV (ringEs n t)) (fun r hr k hk => by rw [ahead_len]; exact ahead_lt _ r hr k hk)
  rw [ahead_len] at h
  refine h.2 ⟨n, by omega, ?_⟩
  -- from the last edge down the row, and back to it
  have hah : ∀ j, j < n → (aheadV (ringEs n t)).getD j [] = [if kOf n t j = 1 then n else pOf n t (kOf n t j - 1)] := fun j hj => by
    rw [ahead_at (by omega)]
    have e : (ringEs n t).getD j zedge = chainE n t j := by
      unfold ringEs
      rw [List.getD_eq_getElem?_getD, List.getElem?_append_left (by rw [chainEs_len]; exact hj), ← List.getD_eq_getElem?_getD, chainEs_get hj]
    rw [e]
    have h3 := kOf_lt (t := t) hj
    show (match makerOf (ringEs n t) (nameV (kOf n t j - 1)) with | some n => if n ∈ ([] : List Nat) then [] else [] ++ [n] | none => []) = _
    rw [ring_maker hn (by omega)]
    by_cases h4 : kOf n t j = 1
    · rw [if_pos h4, if_pos (by omega)]; simp
    · rw [if_neg h4, if_neg (by omega)]; simp
  have hn_ : (aheadV (ringEs n t)).getD n [] = [pOf n t n] := by
    rw [ahead_at (by omega)]
    have e : (ringEs n t).getD n zedge = ⟨[nameV 0], [], [], [nameV n], ⟨#[]⟩, ⟨#[]⟩⟩ := by
      unfold ringEs
      rw [List.getD_eq_getElem?_getD, List.getElem?_append_right (by rw [chainEs_len]; omega), chainEs_len]
      simp
    rw [e]
    show (match makerOf (ringEs n t) (nameV n) with | some n => if n ∈ ([] : List Nat) then [] else [] ++ [n] | none => []) = _
    rw [ring_maker hn (Nat.le_refl n), if_neg (by omega)]
    simp
  have key : ∀ d, d < n → TC (Ed (aheadV (ringEs n t))) n (pOf n t (n - d)) := by
    intro d
    induction d with
    | zero => intro _; exact .base _ _ (by unfold Ed; rw [hn_]; exact .head _)
    | succ d ih =>
      intro hd
      obtain ⟨h3, h4⟩ := kOf_pOf (n := n) (t := t) (k := n - d) (by omega) (by omega)
      refine .step _ _ _ (ih (by omega)) ?_
      unfold Ed
      rw [hah _ h4, h3, if_neg (by omega), Nat.sub_sub]
      exact .head _
  have h8 := key (n - 1) (by omega)
  have e8 : n - (n - 1) = 1 := by omega
  rw [e8] at h8
  obtain ⟨h3, h4⟩ := kOf_pOf (n := n) (t := t) (k := 1) (Nat.le_refl 1) h1
  refine .step _ _ _ h8 ?_
  unfold Ed
  rw [hah _ h4, h3, if_pos rfl]
  exact .head _
end Go.Proofs.Ytifbkojapfighaa.Gr
