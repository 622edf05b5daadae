/- Books of names, and what was found, plainly: taking records, planning them, looking. -/
import Derived.Test.YtinonkakpgiblaaRdPut
namespace Go.Proofs.Ytinonkakpgiblaa.Nam
open Go.RowKit Go.Proofs.YtinonkakpgiblaaW.PrintWords Go.Proofs.Ytinonkakpgiblaa.Base Go.Proofs.Ytinonkakpgiblaa.Pack
set_option linter.unusedVariables false
set_option linter.unusedSimpArgs false

/-- What was found, by numbers. -/
structure FndV where
  time : Int
  deps : List Nat
/-- A book: its names, and what was found of each number. -/
structure BookV where
  ns : List ByteArray
  os : Nat → Option FndV
def book0 : BookV := ⟨[], fun _ => none⟩
/-- What was found of an output. -/
structure DepV where
  out : ByteArray
  time : Int
  deps : List ByteArray
def zdep : DepV := ⟨⟨#[]⟩, 0, []⟩
/-- The number of a name. -/
def idx : List ByteArray → ByteArray → Option Nat
  | [], _ => none
  | x :: l, s => if x = s then some 0 else (idx l s).map (· + 1)
theorem idx_none {l : List ByteArray} {s : ByteArray} : idx l s = none ↔ s ∉ l := by
  induction l with
  | nil => simp [idx]
  | cons x l ih =>
    unfold idx
    by_cases h : x = s
    · simp [h]
    · rw [if_neg h, Option.map_eq_none_iff, ih, List.mem_cons]
      constructor
      · rintro h1 (h2 | h2)
        · exact h h2.symm
        · exact h1 h2
      · exact fun h1 h2 => h1 (Or.inr h2)
theorem idx_some {l : List ByteArray} {s : ByteArray} {n : Nat} (h : idx l s = some n) : n < l.length ∧ l.getD n ⟨#[]⟩ = s := by
  induction l generalizing n with
  | nil => cases h
  | cons x l ih =>
    unfold idx at h
    by_cases hx : x = s
    · rw [if_pos hx] at h
      cases h
      exact ⟨by simp, by simpa using hx⟩
    · rw [if_neg hx, Option.map_eq_some_iff] at h
      obtain ⟨m, hm, rfl⟩ := h
      have := ih hm
      exact ⟨by simp only [List.length_cons]; omega, by simpa using this.2⟩
theorem idx_isSome {l : List ByteArray} {s : ByteArray} : (idx l s).isSome = true ↔ s ∈ l := by
  cases h : idx l s with
  | none => simp [idx_none.1 h]
  | some n =>
    have := idx_some h
    refine ⟨fun _ => ?_, fun _ => rfl⟩
    rw [← this.2, List.getD_eq_getElem?_getD, List.getElem?_eq_getElem this.1]
    exact List.getElem_mem _
instance (s : ByteArray) (l : List ByteArray) : Decidable (s ∈ l) := decidable_of_iff _ idx_isSome
theorem idx_app {l : List ByteArray} {s : ByteArray} {n : Nat} (h : idx l s = some n) (m : List ByteArray) : idx (l ++ m) s = some n := by
  induction l generalizing n with
  | nil => cases h
  | cons x l ih =>
    rw [List.cons_append]
    unfold idx at h ⊢
    by_cases hx : x = s
    · rw [if_pos hx] at h ⊢; exact h
    · rw [if_neg hx, Option.map_eq_some_iff] at h
      obtain ⟨k, hk, rfl⟩ := h
      rw [if_neg hx, ih hk]; rfl
theorem idx_app_none {l : List ByteArray} {s : ByteArray} (h : idx l s = none) (m : List ByteArray) : idx (l ++ m) s = (idx m s).map (· + l.length) := by
  induction l with
  | nil => cases hm : idx m s <;> simp [hm]
  | cons x l ih =>
    unfold idx at h
    by_cases hx : x = s
    · rw [if_pos hx] at h; cases h
    · rw [if_neg hx, Option.map_eq_none_iff] at h
      rw [List.cons_append, idx, if_neg hx, ih h, Option.map_map]
      congr 1
theorem idx_new {l : List ByteArray} {s : ByteArray} (h : idx l s = none) : idx (l ++ [s]) s = some l.length := by
  rw [idx_app_none h]
  simp [idx]
theorem idx_at {l : List ByteArray} (hn : l.Nodup) {n : Nat} (h : n < l.length) : idx l (l.getD n ⟨#[]⟩) = some n := by
  have hm : l.getD n ⟨#[]⟩ ∈ l := by rw [List.getD_eq_getElem?_getD, List.getElem?_eq_getElem h]; exact List.getElem_mem _
  cases e : idx l (l.getD n ⟨#[]⟩) with
  | none => exact absurd hm (idx_none.1 e)
  | some m =>
    have := idx_some e
    have e2 : l[m] = l[n] := by
      have h1 := this.1
      have h2 := this.2
      rw [List.getD_eq_getElem?_getD, List.getD_eq_getElem?_getD, List.getElem?_eq_getElem h1, List.getElem?_eq_getElem h] at h2
      exact h2
    rw [(List.getElem_inj hn).1 e2]

/-! ### taking -/
def depL : Nat → RS → List Int
  | 0, _ => []
  | n + 1, s => num 4 s :: depL n (numS 4 s)
/-- The reader behind so many numbers. -/
def depS : Nat → RS → RS
  | 0, s => s
  | n + 1, s => depS n (numS 4 s)
theorem depL_snoc : ∀ (n : Nat) (s : RS), depL (n + 1) s = depL n s ++ [num 4 (depS n s)] ∧ depS (n + 1) s = numS 4 (depS n s)
  | 0, s => ⟨rfl, rfl⟩
  | n + 1, s => by
    have ih := depL_snoc n (numS 4 s)
    refine ⟨?_, ?_⟩
    · rw [depL, ih.1]; rfl
    · rw [depS, ih.2]; rfl
theorem depL_length : ∀ (n : Nat) (s : RS), (depL n s).length = n
  | 0, _ => rfl
  | n + 1, s => by rw [depL, List.length_cons, depL_length]
theorem depS_bytes : ∀ (n : Nat) {s : RS}, Bytes s.1 → Bytes (depS n s).1
  | 0, _, h => h
  | n + 1, s, h => depS_bytes n (numS_bytes h)
theorem depL_range : ∀ (n : Nat) {s : RS}, Bytes s.1 → ∀ x ∈ depL n s, 0 ≤ x ∧ x < 4294967296
  | 0, _, _ => fun _ h => by cases h
  | n + 1, s, hb => fun x hx => by
    rcases List.mem_cons.1 hx with rfl | hx
    · exact num4_range hb
    · exact depL_range n (numS_bytes hb) x hx
theorem depL_take : ∀ (n k : Nat) (s : RS), k ≤ n → (depL n s).take k = depL k s
  | n, 0, s, _ => by rw [List.take_zero]; rfl
  | 0, k + 1, s, h => by omega
  | n + 1, k + 1, s, h => by rw [depL, List.take_succ_cons, depL_take n k _ (by omega)]; rfl
def takeName (b : BookV) (s : RS) : Option BookV :=
  if txt s ∈ b.ns ∨ (txtS s).2 = true ∨ 0 < (txtS s).1.length then none else some ⟨b.ns ++ [txt s], b.os⟩
def oOwn (s : RS) : Nat := (num 4 s).toNat
def oTime (s : RS) : Int := num 8 (numS 4 s)
def oMany (s : RS) : Nat := (num 4 (numS 8 (numS 4 s))).toNat
def oRest (s : RS) : RS := numS 4 (numS 8 (numS 4 s))
def oDeps (s : RS) : List Int := depL (oMany s) (oRest s)
/-- An output's record does not fit by its head. -/
def oBad (b : BookV) (s : RS) : Prop := (oRest s).2 = true ∨ b.ns.length ≤ oOwn s ∨ 4611686018427387904 ≤ oTime s ∨ (oRest s).1.length ≠ 4 * oMany s
instance (b : BookV) (s : RS) : Decidable (oBad b s) := by unfold oBad; infer_instance
def putO (os : Nat → Option FndV) (n : Nat) (f : FndV) : Nat → Option FndV := fun k => if k = n then some f else os k
def takeOut (b : BookV) (s : RS) : Option BookV :=
  if oBad b s then none else if ∀ n ∈ oDeps s, n.toNat < b.ns.length then some ⟨b.ns, putO b.os (oOwn s) ⟨oTime s, (oDeps s).map Int.toNat⟩⟩ else none
def takeV (b : BookV) : List Int → Option BookV
  | [] => none
  | k :: rest => if k = 1 then takeName b (rest, false) else if k = 2 then takeOut b (rest, false) else none
theorem takeV_cons (b : BookV) (k : Int) (rest : List Int) : takeV b (k :: rest) = if k = 1 then takeName b (rest, false) else if k = 2 then takeOut b (rest, false) else none := rfl
/-- All that a book tells is of its names. -/
structure Good (b : BookV) : Prop where
  nodup : b.ns.Nodup
  at_ : ∀ n f, b.os n = some f → n < b.ns.length ∧ (∀ k ∈ f.deps, k < b.ns.length) ∧ 0 ≤ f.time ∧ f.time < 4611686018427387904
theorem good0 : Good book0 := ⟨List.nodup_nil, fun _ _ h => by cases h⟩
theorem takeName_good {b b' : BookV} {s : RS} (h : Good b) (e : takeName b s = some b') : Good b' := by
  unfold takeName at e
  split at e
  · cases e
  · rename_i hn
    cases e
    simp only [not_or] at hn
    refine ⟨List.nodup_append.2 ⟨h.nodup, (List.pairwise_singleton _ _), fun x hx y hy he => ?_⟩, fun n f hf => ?_⟩
    · rw [List.mem_singleton.1 hy] at he
      exact hn.1 (he ▸ hx)
    · obtain ⟨h1, h2, h3⟩ := h.at_ n f hf
      simp only [List.length_append, List.length_singleton]
      exact ⟨by omega, fun k hk => by have := h2 k hk; omega, h3⟩
theorem takeOut_good {b b' : BookV} {s : RS} (h : Good b) (hb : Bytes s.1) (e : takeOut b s = some b') : Good b' := by
  unfold takeOut at e
  split at e
  · cases e
  · rename_i hn
    split at e
    · rename_i hd
      cases e
      unfold oBad at hn
      simp only [not_or] at hn
      refine ⟨h.nodup, fun n f hf => ?_⟩
      simp only [putO] at hf
      split at hf
      · rename_i hk
        cases hf
        refine ⟨by simp only; omega, fun k hk => ?_, (num_range (numS_bytes hb) (by omega)).1, by simp only; omega⟩
        obtain ⟨x, hx, rfl⟩ := List.mem_map.1 hk
        exact hd x hx
      · exact h.at_ n f hf
    · cases e
theorem takeV_good {b b' : BookV} {xs : List Int} (h : Good b) (hb : Bytes xs) (e : takeV b xs = some b') : Good b' := by
  cases xs with
  | nil => cases e
  | cons k rest =>
    have hr : Bytes rest := fun x hx => hb x (List.mem_cons_of_mem _ hx)
    rw [takeV_cons] at e
    split at e
    · exact takeName_good h e
    · split at e
      · exact takeOut_good h hr e
      · cases e
theorem takeV_ns {b b' : BookV} {xs : List Int} (e : takeV b xs = some b') : b'.ns.length ≤ b.ns.length + 1 ∧ ∃ m, b'.ns = b.ns ++ m := by
  cases xs with
  | nil => cases e
  | cons k rest =>
    rw [takeV_cons] at e
    split at e
    · unfold takeName at e
      split at e
      · cases e
      · cases e
        exact ⟨by simp, _, rfl⟩
    · split at e
      · unfold takeOut at e
        split at e
        · cases e
        · split at e
          · cases e
            exact ⟨by simp, [], by simp⟩
          · cases e
      · cases e

/-! ### planning -/
/-- A row of names with one more, if it is not there. -/
def withN (l : List ByteArray) (s : ByteArray) : List ByteArray := if s ∈ l then l else l ++ [s]
def allN (ns : List ByteArray) (d : DepV) : List ByteArray := (d.out :: d.deps).foldl withN ns
def freshN (ns : List ByteArray) (d : DepV) : List ByteArray := (allN ns d).drop ns.length
def numOf (l : List ByteArray) (s : ByteArray) : Nat := (idx l s).getD 0
def nameRec (s : ByteArray) : List Int := 1 :: textBytes s
def idsB (l : List ByteArray) (deps : List ByteArray) : List Int := (deps.map fun s => Pack.leBytes (numOf l s) 4).flatten
def outRec (l : List ByteArray) (d : DepV) : List Int := 2 :: (Pack.leBytes (numOf l d.out) 4 ++ (Pack.leBytes d.time 8 ++ (Pack.leBytes d.deps.length 4 ++ idsB l d.deps)))
def badTime (d : DepV) : Prop := d.time < 0 ∨ 4611686018427387904 ≤ d.time
instance (d : DepV) : Decidable (badTime d) := by unfold badTime; infer_instance
def long (d : DepV) : Prop := 1000 < d.deps.length ∨ 4000 < d.out.size ∨ ∃ s ∈ d.deps, 4000 < s.size
instance (d : DepV) : Decidable (long d) := by unfold long; infer_instance
def planE (d : DepV) : Int := if badTime d then 1 else if long d then 3 else 0
def planL (ns : List ByteArray) (d : DepV) : List (List Int) := if planE d = 0 then (freshN ns d).map nameRec ++ [outRec (allN ns d) d] else []
theorem withN_app (l : List ByteArray) (s : ByteArray) : ∃ m, withN l s = l ++ m ∧ ∀ x ∈ m, x = s := by
  unfold withN
  split
  · exact ⟨[], by simp, fun x hx => by cases hx⟩
  · exact ⟨[s], rfl, fun x hx => List.mem_singleton.1 hx⟩
theorem withN_mem (l : List ByteArray) (s : ByteArray) : s ∈ withN l s := by
  unfold withN
  split
  · assumption
  · simp
theorem withN_nodup {l : List ByteArray} (h : l.Nodup) (s : ByteArray) : (withN l s).Nodup := by
  unfold withN
  split
  · exact h
  · rename_i hs
    exact List.nodup_append.2 ⟨h, (List.pairwise_singleton _ _), fun x hx y hy he => hs (by rw [List.mem_singleton.1 hy] at he; exact he ▸ hx)⟩
theorem withN_len (l : List ByteArray) (s : ByteArray) : (withN l s).length ≤ l.length + 1 := by
  unfold withN
  split <;> simp
theorem foldN_app (q : List ByteArray) : ∀ l, ∃ m, q.foldl withN l = l ++ m ∧ ∀ x ∈ m, x ∈ q := by
  induction q with
  | nil => exact fun l => ⟨[], by simp, fun x hx => by cases hx⟩
  | cons s q ih =>
    intro l
    obtain ⟨m, h1, h2⟩ := withN_app l s
    obtain ⟨m', h3, h4⟩ := ih (withN l s)
    refine ⟨m ++ m', by rw [List.foldl_cons, h3, h1, List.append_assoc], fun x hx => ?_⟩
    rcases List.mem_append.1 hx with h | h
    · rw [h2 x h]; simp
    · exact List.mem_cons_of_mem _ (h4 x h)
theorem foldN_mem (q : List ByteArray) : ∀ l, ∀ s ∈ q, s ∈ q.foldl withN l := by
  induction q with
  | nil => exact fun l s hs => by cases hs
  | cons t q ih =>
    intro l s hs
    rw [List.foldl_cons]
    rcases List.mem_cons.1 hs with rfl | h
    · obtain ⟨m, h1, _⟩ := foldN_app q (withN l s)
      rw [h1]
      exact List.mem_append_left _ (withN_mem l s)
    · exact ih _ s h
theorem foldN_nodup (q : List ByteArray) : ∀ l, l.Nodup → (q.foldl withN l).Nodup := by
  induction q with
  | nil => exact fun l h => h
  | cons t q ih => exact fun l h => ih _ (withN_nodup h t)
theorem foldN_len (q : List ByteArray) : ∀ l, (q.foldl withN l).length ≤ l.length + q.length := by
  induction q with
  | nil => exact fun l => by simp
  | cons t q ih =>
    intro l
    rw [List.foldl_cons, List.length_cons]
    have h1 := ih (withN l t)
    have h2 := withN_len l t
    omega
theorem foldN_old (q : List ByteArray) : ∀ l, (∀ s ∈ q, s ∈ l) → q.foldl withN l = l := by
  induction q with
  | nil => exact fun l _ => rfl
  | cons t q ih =>
    intro l h
    have e : withN l t = l := if_pos (h t (by simp))
    rw [List.foldl_cons, e]
    exact ih l fun s hs => h s (List.mem_cons_of_mem _ hs)
theorem allN_app (ns : List ByteArray) (d : DepV) : allN ns d = ns ++ freshN ns d := by
  obtain ⟨m, h1, _⟩ := foldN_app (d.out :: d.deps) ns
  unfold freshN allN
  rw [h1, List.drop_left]
theorem allN_nodup {ns : List ByteArray} (h : ns.Nodup) (d : DepV) : (allN ns d).Nodup := foldN_nodup _ _ h
theorem allN_len (ns : List ByteArray) (d : DepV) : (allN ns d).length ≤ ns.length + d.deps.length + 1 := by
  have := foldN_len (d.out :: d.deps) ns
  rw [List.length_cons] at this
  unfold allN
  omega
theorem allN_out (ns : List ByteArray) (d : DepV) : d.out ∈ allN ns d := foldN_mem _ _ _ (by simp)
theorem allN_deps (ns : List ByteArray) (d : DepV) : ∀ s ∈ d.deps, s ∈ allN ns d := fun s hs => foldN_mem _ _ _ (List.mem_cons_of_mem _ hs)
theorem freshN_sub (ns : List ByteArray) (d : DepV) : ∀ s ∈ freshN ns d, s = d.out ∨ s ∈ d.deps := by
  obtain ⟨m, h1, h2⟩ := foldN_app (d.out :: d.deps) ns
  intro s hs
  unfold freshN allN at hs
  rw [h1, List.drop_left] at hs
  exact List.mem_cons.1 (h2 s hs)
theorem numOf_lt {l : List ByteArray} {s : ByteArray} (h : s ∈ l) : numOf l s < l.length ∧ l.getD (numOf l s) ⟨#[]⟩ = s := by
  cases e : idx l s with
  | none => exact absurd h (idx_none.1 e)
  | some n =>
    have := idx_some e
    unfold numOf
    rw [e]
    exact this
theorem numOf_app {l : List ByteArray} {s : ByteArray} (h : s ∈ l) (m : List ByteArray) : numOf (l ++ m) s = numOf l s := by
  cases e : idx l s with
  | none => exact absurd h (idx_none.1 e)
  | some n =>
    unfold numOf
    rw [idx_app e, e]
theorem idsB_bytes (l deps : List ByteArray) : Bytes (idsB l deps) := fun x hx => by
  unfold idsB at hx
  obtain ⟨y, hy, hxy⟩ := List.mem_flatten.1 hx
  obtain ⟨s, _, rfl⟩ := List.mem_map.1 hy
  exact leBytes_bytes _ _ x hxy
theorem idsB_length (l : List ByteArray) : ∀ deps : List ByteArray, (idsB l deps).length = 4 * deps.length
  | [] => rfl
  | s :: deps => by
    have ih := idsB_length l deps
    unfold idsB at ih ⊢
    rw [List.map_cons, List.flatten_cons, List.length_append, leBytes_length, ih, List.length_cons]
    omega
theorem nameRec_bytes (s : ByteArray) : Bytes (nameRec s) := fun x hx => by
  rcases List.mem_cons.1 hx with rfl | h
  · omega
  · exact textBytes_bytes s x h
theorem outRec_bytes (l : List ByteArray) (d : DepV) : Bytes (outRec l d) := fun x hx => by
  rcases List.mem_cons.1 hx with rfl | h
  · omega
  · exact ((leBytes_bytes _ _).append ((leBytes_bytes _ _).append ((leBytes_bytes _ _).append (idsB_bytes _ _)))) x h
theorem planL_bytes (ns : List ByteArray) (d : DepV) : ∀ r ∈ planL ns d, Bytes r := by
  intro r hr
  unfold planL at hr
  split at hr
  · rcases List.mem_append.1 hr with h | h
    · obtain ⟨s, _, rfl⟩ := List.mem_map.1 h
      exact nameRec_bytes s
    · rw [List.mem_singleton.1 h]
      exact outRec_bytes _ _
  · cases hr
theorem take_nameRec (b : BookV) (s : ByteArray) (hs : s ∉ b.ns) (hl : s.size ≤ 65535) : takeV b (nameRec s) = some ⟨b.ns ++ [s], b.os⟩ := by
  obtain ⟨e1, e2⟩ := txt_put s [] hl
  rw [List.append_nil] at e1 e2
  unfold nameRec
  rw [takeV_cons, if_pos rfl]
  unfold takeName
  rw [e1, e2, if_neg]
  simpa using hs
theorem depL_ids (l : List ByteArray) : ∀ deps : List ByteArray, (∀ s ∈ deps, numOf l s < 4294967296) → depL deps.length (idsB l deps, false) = deps.map fun s => ((numOf l s : Nat) : Int)
  | [], _ => rfl
  | s :: deps, h => by
    have ih := depL_ids l deps fun t ht => h t (List.mem_cons_of_mem _ ht)
    have h0 := h s (by simp)
    have e : idsB l (s :: deps) = Pack.leBytes (numOf l s) 4 ++ idsB l deps := by unfold idsB; rw [List.map_cons, List.flatten_cons]
    have p4 : ((256 : Int) ^ 4) = 4294967296 := by decide
    obtain ⟨e1, e2⟩ := num_put 4 (numOf l s) (idsB l deps) (by omega) (by omega)
    rw [List.length_cons, depL, e, e1, e2, ih, List.map_cons]
/-- What an output's record tells. -/
theorem take_outRec (b : BookV) (d : DepV) (ho : d.out ∈ b.ns) (hd : ∀ s ∈ d.deps, s ∈ b.ns) (hn : b.ns.length ≤ 4294967296) (hk : d.deps.length < 4294967296) (ht : ¬ badTime d) :
    takeV b (outRec b.ns d) = some ⟨b.ns, putO b.os (numOf b.ns d.out) ⟨d.time, d.deps.map (numOf b.ns)⟩⟩ := by
  unfold badTime at ht
  simp only [not_or, Int.not_lt, Int.not_le] at ht
  have p4 : ((256 : Int) ^ 4) = 4294967296 := by decide
  have p8 : ((256 : Int) ^ 8) = 18446744073709551616 := by decide
  have h1 := numOf_lt ho
  obtain ⟨a1, a2⟩ := num_put 4 (numOf b.ns d.out) (Pack.leBytes d.time 8 ++ (Pack.leBytes d.deps.length 4 ++ idsB b.ns d.deps)) (by omega) (by omega)
  obtain ⟨b1, b2⟩ := num_put 8 d.time (Pack.leBytes d.deps.length 4 ++ idsB b.ns d.deps) (by omega) (by omega)
  obtain ⟨c1, c2⟩ := num_put 4 d.deps.length (idsB b.ns d.deps) (by omega) (by omega)
  have d1 := depL_ids b.ns d.deps fun s hs => by have := (numOf_lt (hd s hs)).1; omega
  obtain ⟨s, hs⟩ : ∃ s : RS, s = (Pack.leBytes (numOf b.ns d.out) 4 ++ (Pack.leBytes d.time 8 ++ (Pack.leBytes d.deps.length 4 ++ idsB b.ns d.deps)), false) := ⟨_, rfl⟩
  have e1 : oOwn s = numOf b.ns d.out := by unfold oOwn; rw [hs, a1, Int.toNat_natCast]
  have e2 : oTime s = d.time := by unfold oTime; rw [hs, a2, b1]
  have e3 : oMany s = d.deps.length := by unfold oMany; rw [hs, a2, b2, c1, Int.toNat_natCast]
  have e4 : oRest s = (idsB b.ns d.deps, false) := by unfold oRest; rw [hs, a2, b2, c2]
  have e5 : oDeps s = d.deps.map fun s => ((numOf b.ns s : Nat) : Int) := by unfold oDeps; rw [e3, e4, d1]
  have e6 : ¬ oBad b s := by
    unfold oBad
    rw [e1, e2, e3, e4, idsB_length]
    simp only [Bool.false_eq_true, false_or, not_or]
    omega
  have e7 : ∀ n ∈ oDeps s, n.toNat < b.ns.length := by
    rw [e5]
    intro n hn'
    obtain ⟨t, ht', rfl⟩ := List.mem_map.1 hn'
    rw [Int.toNat_natCast]
    exact (numOf_lt (hd t ht')).1
  have e8 : (oDeps s).map Int.toNat = d.deps.map (numOf b.ns) := by
    rw [e5, List.map_map]
    apply List.map_congr_left
    intro t _
    simp
  unfold outRec
  rw [takeV_cons, if_neg (by decide), if_pos rfl, ← hs]
  unfold takeOut
  rw [if_neg e6, if_pos e7, e1, e2, e8]
/-- Taking records one by one; those that do not fit are left out. -/
def takesV (b : BookV) (l : List (List Int)) : Option BookV := l.foldlM takeV b
theorem takes_names : ∀ (l : List ByteArray) (b : BookV), (∀ s ∈ l, s ∉ b.ns) → l.Nodup → (∀ s ∈ l, s.size ≤ 65535) → takesV b (l.map nameRec) = some ⟨b.ns ++ l, b.os⟩
  | [], b, _, _, _ => by simp [takesV]
  | s :: l, b, h1, h2, h3 => by
    obtain ⟨h4, h5⟩ := List.nodup_cons.1 h2
    unfold takesV
    rw [List.map_cons, List.foldlM_cons, take_nameRec b s (h1 s (by simp)) (h3 s (by simp))]
    show takesV ⟨b.ns ++ [s], b.os⟩ (l.map nameRec) = _
    rw [takes_names l ⟨b.ns ++ [s], b.os⟩ (fun t ht => ?_) h5 (fun t ht => h3 t (List.mem_cons_of_mem _ ht))]
    · simp only [List.append_assoc, List.singleton_append]
    · intro hm
      rcases List.mem_append.1 hm with h | h
      · exact h1 t (List.mem_cons_of_mem _ ht) h
      · rw [List.mem_singleton.1 h] at ht
        exact h4 ht
/-- The book behind what was planned. -/
def toldV (b : BookV) (d : DepV) : BookV := ⟨allN b.ns d, putO b.os (numOf (allN b.ns d) d.out) ⟨d.time, d.deps.map (numOf (allN b.ns d))⟩⟩
theorem takes_plan (b : BookV) (d : DepV) (hb : Good b) (h : planE d = 0) (hn : b.ns.length ≤ 4000000000) : takesV b (planL b.ns d) = some (toldV b d) := by
  have hd : ¬ badTime d ∧ ¬ long d := by
    unfold planE at h
    split at h
    · cases h
    · split at h
      · cases h
      · exact ⟨by assumption, by assumption⟩
  obtain ⟨ht, hl⟩ := hd
  have hl2 := hl
  unfold long at hl2
  simp only [not_or, not_exists, not_and, Nat.not_lt] at hl2
  unfold planL
  rw [if_pos h]
  have hnd := allN_nodup hb.nodup d
  have ha := allN_app b.ns d
  rw [ha] at hnd
  obtain ⟨n1, n2, n3⟩ := List.nodup_append.1 hnd
  unfold takesV
  rw [List.foldlM_append]
  have e1 := takes_names (freshN b.ns d) b (fun s hs hm => n3 s hm s hs rfl) n2 (fun s hs => by
    rcases freshN_sub b.ns d s hs with rfl | h
    · omega
    · have := hl2.2.2 s h; omega)
  unfold takesV at e1
  rw [e1, ← ha]
  have := take_outRec ⟨allN b.ns d, b.os⟩ d (allN_out _ _) (allN_deps _ _) (by have := allN_len b.ns d; simp only; omega) (by omega) ht
  simp only [Option.bind_eq_bind, Option.bind_some, List.foldlM_cons, List.foldlM_nil, this]
  rfl
theorem toldV_good {b : BookV} (hb : Good b) {d : DepV} (h : planE d = 0) : Good (toldV b d) := by
  have hd : ¬ badTime d := by
    unfold planE at h
    split at h
    · cases h
    · assumption
  unfold badTime at hd
  simp only [not_or, Int.not_lt, Int.not_le] at hd
  have ha := allN_app b.ns d
  refine ⟨allN_nodup hb.nodup d, fun n f hf => ?_⟩
  simp only [toldV, putO] at hf ⊢
  split at hf
  · rename_i hk
    cases hf
    rw [hk]
    refine ⟨(numOf_lt (allN_out _ _)).1, fun k hk => ?_, hd.1, hd.2⟩
    obtain ⟨s, hs, rfl⟩ := List.mem_map.1 hk
    exact (numOf_lt (allN_deps _ _ s hs)).1
  · obtain ⟨h1, h2, h3⟩ := hb.at_ n f hf
    rw [ha, List.length_append]
    exact ⟨by omega, fun k hk => by have := h2 k hk; omega, h3⟩

/-! ### looking -/
def depV (b : BookV) (n : Nat) (f : FndV) : DepV := ⟨b.ns.getD n ⟨#[]⟩, f.time, f.deps.map fun k => b.ns.getD k ⟨#[]⟩⟩
def lookV (b : BookV) (s : ByteArray) : Option DepV := (idx b.ns s).bind fun n => (b.os n).map (depV b n)
theorem look_told_same {b : BookV} {d : DepV} : lookV (toldV b d) d.out = some d := by
  have ho := allN_out b.ns d
  have e : idx (toldV b d).ns d.out = some (numOf (allN b.ns d) d.out) := by
    cases e : idx (allN b.ns d) d.out with
    | none => exact absurd ho (idx_none.1 e)
    | some n =>
      show idx (allN b.ns d) d.out = _
      rw [e]
      unfold numOf
      rw [e]
      rfl
  unfold lookV
  rw [e]
  simp only [Option.bind_some, toldV, putO, if_true, Option.map_some, depV]
  have h1 := (numOf_lt ho).2
  have h2 : (d.deps.map (numOf (allN b.ns d))).map (fun k => (allN b.ns d).getD k ⟨#[]⟩) = d.deps := by
    rw [List.map_map]
    conv => rhs; rw [← List.map_id d.deps]
    apply List.map_congr_left
    intro s hs
    exact (numOf_lt (allN_deps _ _ s hs)).2
  rw [h1, h2]
theorem getD_app {l m : List ByteArray} {k : Nat} (h : k < l.length) : (l ++ m).getD k ⟨#[]⟩ = l.getD k ⟨#[]⟩ := by
  rw [List.getD_eq_getElem?_getD, List.getD_eq_getElem?_getD, List.getElem?_append_left h]
theorem look_told_other {b : BookV} (hb : Good b) {d : DepV} {s : ByteArray} (hs : s ≠ d.out) : lookV (toldV b d) s = lookV b s := by
  have ha := allN_app b.ns d
  unfold lookV
  cases e : idx b.ns s with
  | some n =>
    have e2 : idx (toldV b d).ns s = some n := by show idx (allN b.ns d) s = _; rw [ha]; exact idx_app e _
    rw [e2]
    simp only [Option.bind_some, toldV, putO]
    have hne : n ≠ numOf (allN b.ns d) d.out := by
      intro he
      have h1 := (numOf_lt (allN_out b.ns d)).2
      have h2 := (idx_some e2).2
      rw [← he] at h1
      exact hs (h2.symm.trans h1)
    rw [if_neg hne]
    cases hf : b.os n with
    | none => rfl
    | some f =>
      obtain ⟨h1, h2, _⟩ := hb.at_ n f hf
      simp only [Option.map_some, depV]
      rw [ha, getD_app h1]
      congr 2
      apply List.map_congr_left
      intro k hk
      exact getD_app (h2 k hk)
  | none =>
    simp only [Option.bind_none]
    cases e2 : idx (toldV b d).ns s with
    | none => rfl
    | some n =>
      simp only [Option.bind_some, toldV, putO]
      have e3 : idx (allN b.ns d) s = some n := e2
      have hn := idx_some e3
      have hge : b.ns.length ≤ n := by
        rcases Nat.lt_or_ge n b.ns.length with h | h
        · have h2 := hn.2
          rw [ha, getD_app h] at h2
          have := idx_none.1 e
          refine absurd ?_ this
          rw [← h2, List.getD_eq_getElem?_getD, List.getElem?_eq_getElem h]
          exact List.getElem_mem _
        · exact h
      have hne : n ≠ numOf (allN b.ns d) d.out := by
        intro he
        have h1 := (numOf_lt (allN_out b.ns d)).2
        rw [← he] at h1
        exact hs (hn.2.symm.trans h1)
      rw [if_neg hne]
      cases hf : b.os n with
      | none => rfl
      | some f =>
        have := (hb.at_ n f hf).1
        omega
end Go.Proofs.Ytinonkakpgiblaa.Nam
