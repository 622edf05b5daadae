/- What a map of runs holds, and the sorted fold (plain). -/
import Derived.Test.YtehndlafbbpofaaRunClones
import Derived.Test.YtehndlafbbpofaaIter
import Derived.Maps.Own
import Derived.Maps.Ext
import Derived.Sort.KeysCollected
import Derived.Sort.Walk0
namespace Go.Proofs.Ytehndlafbbpofaa.Run
open Go.RowKit Go.Proofs.YtehndlafbbpofaaW.PrintWords Go.Proofs.YtehndlafbbpofaaW.PrintLast Go.Proofs.Ytehndlafbbpofaa.Base Go.Proofs.Ytehndlafbbpofaa.Pack Go.Maps
set_option linter.unusedVariables false
set_option linter.unusedSimpArgs false

/-- A map's value is told by itself. -/
def RH (v : Value) : Option (DataW Value × List MemPlace) := some (.held v, [])
theorem cell_map {W W' : World} {b : Nat} {es : Array MapEntry} {clk : Nat} {a : Addr} {u : Value} (hb : W.heap[b]? = some (.map es clk)) (hg : W.grownBy W' (some b)) (h : W.cell? a = some u) : W'.cell? a = some u := by
  refine hg.cell h ?_
  intro e
  injection e with e
  subst e
  simp [World.cell?, hb] at h
theorem Is.map {W W' : World} {b : Nat} {es : Array MapEntry} {clk : Nat} {v : Value} {l : List (ByteArray × Int)} (h : Is W v l) (hb : W.heap[b]? = some (.map es clk)) (hg : W.grownBy W' (some b)) : Is W' v l := by
  obtain ⟨A, c, h1, h2, h3, h4⟩ := h
  exact ⟨A, c, h1, h2, h3, fun hp => by
    obtain ⟨ad, e, hc⟩ := h4 hp
    exact ⟨ad, e, fun i hi => ⟨cell_map hb hg (hc i hi).1, cell_map hb hg (hc i hi).2⟩⟩⟩
theorem Fs.map {W W' : World} {b : Nat} {es : Array MapEntry} {clk : Nat} {v : Value} {l : List Int} (h : Fs W v l) (hb : W.heap[b]? = some (.map es clk)) (hg : W.grownBy W' (some b)) : Fs W' v l := by
  obtain ⟨A, c, h1, h2, h3, h4, h5⟩ := h
  exact ⟨A, c, h1, h2, h3, h4, fun hp => by
    obtain ⟨ad, e, hc⟩ := h5 hp
    exact ⟨ad, e, fun i hi => cell_map hb hg (hc i hi)⟩⟩
theorem RunIs.map {W W' : World} {b : Nat} {es : Array MapEntry} {clk : Nat} {v : Value} {r : RunV} (h : RunIs W v r) (hb : W.heap[b]? = some (.map es clk)) (hg : W.grownBy W' (some b)) : RunIs W' v r := by
  obtain ⟨vi, vf, h1, h2, h3⟩ := h
  exact ⟨vi, vf, h1, h2.map hb hg, h3.map hb hg⟩

/-- Of an output the last run. -/
def lastR (s : ByteArray) (l : List RunV) : Option RunV := l.foldl (fun a r => if r.out = s then some r else a) none
theorem lastR_snoc (s : ByteArray) (l : List RunV) (r : RunV) : lastR s (l ++ [r]) = if r.out = s then some r else lastR s l := by
  unfold lastR
  rw [List.foldl_append]
  rfl
theorem snoc_ind {α : Type} {P : List α → Prop} (h0 : P []) (h1 : ∀ l x, P l → P (l ++ [x])) (l : List α) : P l := by
  have key : ∀ n (l : List α), l.length = n → P l := by
    intro n
    induction n with
    | zero => intro l hl; rw [List.eq_nil_of_length_eq_zero hl]; exact h0
    | succ n ih =>
      intro l hl
      have e : l = l.dropLast ++ [l.getLast (by intro h; rw [h] at hl; simp at hl)] := (List.dropLast_concat_getLast _).symm
      rw [e]
      exact h1 _ _ (ih _ (by rw [List.length_dropLast]; omega))
  exact key _ l rfl
theorem lastR_out {s : ByteArray} {l : List RunV} : ∀ {r : RunV}, lastR s l = some r → r.out = s ∧ r ∈ l := by
  refine snoc_ind (P := fun l => ∀ {r : RunV}, lastR s l = some r → r.out = s ∧ r ∈ l) (fun h => by cases h) (fun l x ih r h => ?_) l
  rw [lastR_snoc] at h
  split at h
  · rename_i hx
    cases h
    exact ⟨hx, by simp⟩
  · have := ih h
    exact ⟨this.1, by simp [this.2]⟩
theorem lastR_some {s : ByteArray} {l : List RunV} (h : ∃ r ∈ l, r.out = s) : (lastR s l).isSome = true := by
  revert h
  refine snoc_ind (P := fun l => (∃ r ∈ l, r.out = s) → (lastR s l).isSome = true) (fun ⟨_, h, _⟩ => by cases h) (fun l x ih h => ?_) l
  rw [lastR_snoc]
  split
  · rfl
  · rename_i hx
    obtain ⟨r, hr, he⟩ := h
    rcases List.mem_append.1 hr with h1 | h1
    · exact ih ⟨r, h1, he⟩
    · rw [List.mem_singleton.1 h1] at he
      exact absurd he hx

/-- The map D holds the last runs of ls, read in w. -/
structure Dm (w : World) (D : DataW Value) (ls : List RunV) : Prop where
  isMap : IsMap D
  has : ∀ s : ByteArray, has D (.string s.data.toList) = (lastR s ls).isSome
  at_ : ∀ s r, lastR s ls = some r → ∃ v, RunIs w v r ∧ ∀ z, D.atKey (.string s.data.toList) z = .held v
theorem Dm.nil (w : World) : Dm w (.map []) [] := ⟨isMap_empty, fun _ => rfl, fun _ _ h => by cases h⟩
theorem Dm.move {w w' : World} {D : DataW Value} {ls : List RunV} (h : Dm w D ls) (hm : ∀ v r, RunIs w v r → RunIs w' v r) : Dm w' D ls :=
  ⟨h.isMap, h.has, fun s r e => let ⟨v, h1, h2⟩ := h.at_ s r e; ⟨v, hm v r h1, h2⟩⟩
theorem str_ne {a b : ByteArray} (h : a ≠ b) : Lit.string a.data.toList ≠ Lit.string b.data.toList := by
  intro e
  injection e with e
  refine h ?_
  cases a
  cases b
  exact congrArg ByteArray.mk (Array.toList_inj.1 e)
theorem key_str {x : List UInt8} : WideAt.IsKeyLit (.string x) := by simp [WideAt.IsKeyLit]
theorem le_cases {a b : List UInt8} (h : a ≤ b) : a < b ∨ a = b := by
  by_cases e : a < b
  · exact Or.inl e
  · exact Or.inr (List.le_antisymm h (List.not_lt.1 e))
theorem Dm.put {w : World} {D : DataW Value} {ls : List RunV} (h : Dm w D ls) {v : Value} {r : RunV} (hv : RunIs w v r) : Dm w (D.put (.string r.out.data.toList) (.held v)) (ls ++ [r]) := by
  refine ⟨h.isMap.put _ _, fun s => ?_, fun s r' e => ?_⟩
  · rw [lastR_snoc]
    by_cases hs : r.out = s
    · rw [if_pos hs, ← hs, has_put_same h.isMap key_str]; rfl
    · rw [if_neg hs, has_put_other (str_ne (Ne.symm hs)), h.has s]
  · rw [lastR_snoc] at e
    by_cases hs : r.out = s
    · rw [if_pos hs] at e
      cases e
      rw [← hs]
      exact ⟨v, hv, fun z => atKey_put_same h.isMap key_str _ _⟩
    · rw [if_neg hs] at e
      obtain ⟨v', h1, h2⟩ := h.at_ s r' e
      exact ⟨v', h1, fun z => by rw [atKey_put_other (str_ne (Ne.symm hs)), h2 z]⟩

/-! ### the order -/
theorem bl_iff (a b : ByteArray) : bl a b = true ↔ a.data.toList < b.data.toList := by
  unfold bl
  rw [bytesLess_eq, ByteArray.toList_eq, ByteArray.toList_eq, decide_eq_true_eq]
theorem bl_irr (a : ByteArray) : ¬ bl a a = true := by
  rw [bl_iff]
  exact List.lt_irrefl _
theorem bl_trans {a b c : ByteArray} (h1 : bl a b = true) (h2 : bl b c = true) : bl a c = true := by
  rw [bl_iff] at *
  exact List.lt_trans h1 h2
theorem bl_tot {a b : ByteArray} (h1 : ¬ bl a b = true) (h2 : a ≠ b) : bl b a = true := by
  rw [bl_iff] at *
  rcases le_cases (List.not_lt.1 h1) with h | h
  · exact h
  · refine absurd ?_ h2
    cases a
    cases b
    exact congrArg ByteArray.mk (Array.toList_inj.1 h.symm)
def ins' (r : RunV) : List RunV → List RunV
  | [] => [r]
  | x :: l => if bl x.out r.out = true then x :: ins' r l else if x.out = r.out then r :: l else r :: x :: l
theorem insR_eq (r : RunV) : ∀ l, insR r l = ins' r l
  | [] => by
    unfold insR ins' posR
    simp
  | x :: l => by
    have ih := insR_eq r l
    by_cases h1 : bl x.out r.out = true
    · have e : posR r.out (x :: l) = posR r.out l + 1 := by rw [posR, if_pos h1]
      rw [ins', if_pos h1, ← ih]
      unfold insR
      rw [e]
      simp only [List.length_cons, List.getD_cons_succ, List.set_cons_succ, List.take_succ_cons, List.drop_succ_cons, Nat.add_lt_add_iff_right, List.cons_append]
      split <;> rfl
    · have e : posR r.out (x :: l) = 0 := by rw [posR, if_neg h1]
      rw [ins', if_neg h1]
      unfold insR
      rw [e]
      simp
def Rising (l : List RunV) : Prop := l.Pairwise (fun a b => bl a.out b.out = true)
theorem mem_ins' {r : RunV} : ∀ {l : List RunV}, Rising l → ∀ y, y ∈ ins' r l ↔ y = r ∨ (y ∈ l ∧ y.out ≠ r.out)
  | [], _, y => by simp [ins']
  | x :: l, h, y => by
    obtain ⟨hx, hl⟩ := List.pairwise_cons.1 h
    have ih := mem_ins' (r := r) hl y
    unfold ins'
    split
    · rename_i h1
      have hne : x.out ≠ r.out := fun e => bl_irr r.out (by rw [e] at h1; exact h1)
      rw [List.mem_cons, ih, List.mem_cons]
      constructor
      · rintro (rfl | h | h)
        · exact Or.inr ⟨Or.inl rfl, hne⟩
        · exact Or.inl h
        · exact Or.inr ⟨Or.inr h.1, h.2⟩
      · rintro (h | ⟨h | h, h2⟩)
        · exact Or.inr (Or.inl h)
        · exact Or.inl h
        · exact Or.inr (Or.inr ⟨h, h2⟩)
    · rename_i h1
      split
      · rename_i h2
        rw [List.mem_cons, List.mem_cons]
        constructor
        · rintro (h | h)
          · exact Or.inl h
          · exact Or.inr ⟨Or.inr h, fun e => bl_irr r.out (by have := hx y h; rw [h2, e] at this; exact this)⟩
        · rintro (h | ⟨h | h, h3⟩)
          · exact Or.inl h
          · rw [h] at h3; exact absurd h2 h3
          · exact Or.inr h
      · rename_i h2
        have h3 := bl_tot h1 h2
        rw [List.mem_cons]
        constructor
        · rintro (h | h)
          · exact Or.inl h
          · refine Or.inr ⟨h, fun e => bl_irr r.out ?_⟩
            rcases List.mem_cons.1 h with h4 | h4
            · rw [h4] at e; exact absurd e h2
            · have := bl_trans h3 (hx y h4)
              rw [e] at this
              exact this
        · rintro (h | ⟨h, _⟩)
          · exact Or.inl h
          · exact Or.inr h
theorem rising_ins' {r : RunV} : ∀ {l : List RunV}, Rising l → Rising (ins' r l)
  | [], _ => List.pairwise_singleton _ _
  | x :: l, h => by
    obtain ⟨hx, hl⟩ := List.pairwise_cons.1 h
    unfold ins'
    split
    · rename_i h1
      refine List.pairwise_cons.2 ⟨fun y hy => ?_, rising_ins' hl⟩
      rcases (mem_ins' hl y).1 hy with rfl | ⟨h2, _⟩
      · exact h1
      · exact hx y h2
    · rename_i h1
      split
      · rename_i h2
        refine List.pairwise_cons.2 ⟨fun y hy => ?_, hl⟩
        rw [← h2]
        exact hx y hy
      · rename_i h2
        refine List.pairwise_cons.2 ⟨fun y hy => ?_, h⟩
        have h3 := bl_tot h1 h2
        rcases List.mem_cons.1 hy with rfl | h4
        · exact h3
        · exact bl_trans h3 (hx y h4)
theorem foldR_rising (l : List RunV) : Rising (foldR l) ∧ ∀ y, y ∈ foldR l ↔ lastR y.out l = some y := by
  refine snoc_ind (P := fun l => Rising (foldR l) ∧ ∀ y, y ∈ foldR l ↔ lastR y.out l = some y) ⟨List.Pairwise.nil, fun y => ⟨fun h => (by cases h), fun h => (by cases h)⟩⟩ (fun l x ih => ?_) l
  obtain ⟨h1, h2⟩ := ih
  rw [foldR_snoc, insR_eq]
  refine ⟨rising_ins' h1, fun y => ?_⟩
  rw [mem_ins' h1, lastR_snoc, h2]
  by_cases e : x.out = y.out
  · rw [if_pos e]
    constructor
    · rintro (h | ⟨_, h⟩)
      · rw [h]
      · exact absurd e.symm h
    · intro h
      cases h
      exact Or.inl rfl
  · rw [if_neg e]
    constructor
    · rintro (h | ⟨h, _⟩)
      · rw [h] at e; exact absurd rfl e
      · exact h
    · intro h
      exact Or.inr ⟨h, fun h' => e h'.symm⟩
theorem eq_of_rising : ∀ {l₁ l₂ : List RunV}, Rising l₁ → Rising l₂ → (∀ x, x ∈ l₁ ↔ x ∈ l₂) → l₁ = l₂
  | [], [], _, _, _ => rfl
  | [], b :: l₂, _, _, h => by
    have := (h b).2 (by simp)
    cases this
  | a :: l₁, [], _, _, h => by
    have := (h a).1 (by simp)
    cases this
  | a :: l₁, b :: l₂, h1, h2, h => by
    obtain ⟨p1, q1⟩ := List.pairwise_cons.1 h1
    obtain ⟨p2, q2⟩ := List.pairwise_cons.1 h2
    have e : a = b := by
      rcases List.mem_cons.1 ((h a).1 (by simp)) with h3 | h3
      · exact h3
      · rcases List.mem_cons.1 ((h b).2 (by simp)) with h4 | h4
        · exact h4.symm
        · exact absurd (bl_trans (p1 b h4) (p2 a h3)) (bl_irr _)
    subst e
    rw [eq_of_rising q1 q2 (fun x => ?_)]
    constructor
    · intro hx
      rcases List.mem_cons.1 ((h x).1 (by simp [hx])) with h3 | h3
      · rw [h3] at hx; exact absurd (p1 a hx) (bl_irr _)
      · exact h3
    · intro hx
      rcases List.mem_cons.1 ((h x).2 (by simp [hx])) with h3 | h3
      · rw [h3] at hx; exact absurd (p2 a hx) (bl_irr _)
      · exact h3
/-- The runs of the names K. -/
def runsOf (l : List RunV) (K : List (List UInt8)) : List RunV := K.map (fun x => (lastR ⟨x.toArray⟩ l).getD zv)
theorem runsOf_foldR (l : List RunV) (K : List (List UInt8)) (hs : K.Pairwise (fun a b => a < b)) (hm : ∀ x : List UInt8, x ∈ K ↔ (lastR ⟨x.toArray⟩ l).isSome = true) : runsOf l K = foldR l := by
  obtain ⟨r1, m1⟩ := foldR_rising l
  have key : ∀ x ∈ K, ∃ r, lastR ⟨x.toArray⟩ l = some r ∧ r.out = ⟨x.toArray⟩ := by
    intro x hx
    obtain ⟨r, hr⟩ := Option.isSome_iff_exists.1 ((hm x).1 hx)
    exact ⟨r, hr, (lastR_out hr).1⟩
  refine eq_of_rising ?_ r1 (fun y => ?_)
  · unfold runsOf Rising
    rw [List.pairwise_map]
    refine hs.imp_of_mem (fun {a b} ha hb hab => ?_)
    obtain ⟨ra, e1, o1⟩ := key a ha
    obtain ⟨rb, e2, o2⟩ := key b hb
    rw [e1, e2]
    show bl ra.out rb.out = true
    rw [o1, o2, bl_iff]
    simpa using hab
  · rw [m1 y]
    unfold runsOf
    rw [List.mem_map]
    constructor
    · rintro ⟨x, hx, rfl⟩
      obtain ⟨r, e1, o1⟩ := key x hx
      rw [e1]
      show lastR r.out l = some r
      rw [o1]
      exact e1
    · intro h
      refine ⟨y.out.data.toList, (hm _).2 ?_, ?_⟩
      · simp only [Array.toArray_toList]
        rw [h]; rfl
      · simp only [Array.toArray_toList]
        rw [h]; rfl
/-- The names of a map's runs, sorted. -/
theorem sorted_keys {w0 w : World} {D : DataW Value} {ls : List RunV} {b n : Nat} (h : Dm w D ls) (hown : w0.ownsMap Try.prog 9 RH b n D) {ss : List (List UInt8)} (hp : ss.Perm (strKeys D)) :
    runsOf ls (ss.mergeSort (fun x y => decide (x ≤ y))) = foldR ls := by
  obtain ⟨es, rfl, hr, hk⟩ := hown.canon (string_keyed Try.underlying9)
  obtain ⟨es', e', hkeys⟩ := hown.keysOf
  injection e' with e'
  subst e'
  have hstr : ∀ p ∈ es, ∃ x, p.1 = Lit.string x := by
    intro p hp
    obtain ⟨v, hv⟩ := hkeys p hp
    obtain ⟨x, _, e, _⟩ := keyOf_str Try.underlying9 hv
    exact ⟨x, e⟩
  have hap := apart_of_rising hr
  have hnd : (strKeys (DataW.map es)).Nodup := by
    show (es.map fun p => strOf p.1).Nodup
    refine List.pairwise_map.2 (hap.imp_of_mem fun {p q} hp' hq' hne e => hne ?_)
    obtain ⟨a, ha⟩ := hstr p hp'
    obtain ⟨c, hc⟩ := hstr q hq'
    rw [ha, hc] at e ⊢
    exact congrArg _ e
  have tr : ∀ a b c : List UInt8, leB a b = true → leB b c = true → leB a c = true := fun a b c h1 h2 => by simp only [leB, decide_eq_true_eq] at *; exact List.le_trans h1 h2
  have tt : ∀ a b : List UInt8, (leB a b || leB b a) = true := fun a b => by simp only [leB, Bool.or_eq_true, decide_eq_true_eq]; exact List.le_total a b
  have hq : (ss.mergeSort leB).Perm (strKeys (DataW.map es)) := (List.mergeSort_perm ss leB).trans hp
  refine runsOf_foldR ls _ ?_ (fun x => ?_)
  · have h1 := List.pairwise_mergeSort tr tt ss
    have h2 : (ss.mergeSort leB).Nodup := hq.nodup_iff.2 hnd
    refine (h1.and h2).imp (fun {a b} ⟨hab, hne⟩ => ?_)
    rcases le_cases (of_decide_eq_true hab) with h3 | h3
    · exact h3
    · exact absurd h3 hne
  · rw [hq.mem_iff, ← h.has, has_eq, List.any_eq_true]
    show x ∈ es.map (fun p => strOf p.1) ↔ _
    rw [List.mem_map]
    constructor
    · rintro ⟨p, hp', rfl⟩
      obtain ⟨a, ha⟩ := hstr p hp'
      exact ⟨p, hp', by rw [ha]; simp [Lit.sameKey, strOf]⟩
    · rintro ⟨p, hp', hs⟩
      obtain ⟨a, ha⟩ := hstr p hp'
      rw [ha] at hs
      exact ⟨p, hp', by rw [ha]; simpa [Lit.sameKey, strOf] using hs⟩
end Go.Proofs.Ytehndlafbbpofaa.Run
