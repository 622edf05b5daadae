/- A disk, plainly: directories as rows that rise, files by numbers, what each deed does. -/
import Derived.Test.YtononoakdebjeaaGreatDoorBase
import Derived.Sort.Walk0
import Derived.Sort.LotA
namespace Go.Proofs.YtononoakdebjeaaGreatDoor.Dk
open Go.RowKit Go.Proofs.YtononoakdebjeaaGreatDoorW.PrintWords Go.Proofs.YtononoakdebjeaaGreatDoor.Base Go.Sort
set_option linter.unusedVariables false
set_option linter.unusedSimpArgs false

structure FileV where
  b : List Int
  sure : Nat
  time : Nat
structure ChV where
  name : ByteArray
  dst : Option Nat
  gone : ByteArray
abbrev Dir := List (ByteArray × Nat)
abbrev noName : ByteArray := ⟨#[]⟩
/-- The order of names. -/
def nlt (x y : ByteArray) : Bool := Op.bytesLess x.toList y.toList
def look : Dir → ByteArray → Option Nat
  | [], _ => none
  | p :: L, x => if p.1 = x then some p.2 else look L x
def delD (L : Dir) (x : ByteArray) : Dir := L.filter fun p => !decide (p.1 = x)
def putD (L : Dir) (x : ByteArray) (i : Nat) : Dir := (delD L x).takeWhile (fun p => nlt p.1 x) ++ [(x, i)] ++ (delD L x).dropWhile (fun p => nlt p.1 x)
def UpD (L : Dir) : Prop := L.Pairwise fun p q => nlt p.1 q.1 = true
/-- A change to a directory. -/
def chDo (L : Dir) (c : ChV) : Dir :=
  let L1 := if c.gone = noName then L else delD L c.gone
  if c.name = noName then L1 else match c.dst with
    | some i => putD L1 c.name i
    | none => L1
structure DiskV where
  quota : Nat
  clock : Nat
  deeds : Nat
  armed : Int
  down : Bool
  dir : Dir
  sure : Dir
  pend : List ChV
  fs : Nat → FileV
def upd (fs : Nat → FileV) (i : Nat) (f : FileV) : Nat → FileV := fun j => if j = i then f else fs j
/-- Does anything lead to this file? -/
def Has (D : DiskV) (i : Nat) : Prop := (∃ s, (s, i) ∈ D.dir) ∨ (∃ s, (s, i) ∈ D.sure) ∨ ∃ c ∈ D.pend, c.dst = some i
def usedV (D : DiskV) : Nat := (D.dir.map fun p => (D.fs p.2).b.length).sum
/-- May a name have so many bytes, in place of its own? -/
def fitsV (D : DiskV) (name : ByteArray) (size : Nat) : Nat :=
  if 65536 < size ∨ (look D.dir name = none ∧ D.dir.length = 200) then 3
  else if D.quota < usedV D - (match look D.dir name with | some i => (D.fs i).b.length | none => 0) + size then 7
  else 0
def tickV (D : DiskV) : DiskV := { D with clock := D.clock + 1 }
def turnsV (D : DiskV) (c : ChV) : DiskV := { D with dir := chDo D.dir c, pend := D.pend ++ [c] }
def countV (D : DiskV) : DiskV := { D with armed := if 0 < D.armed then D.armed - 1 else D.armed, deeds := D.deeds + 1 }
/-- A deed: what it does where the disk is up. -/
def DeedR (D : DiskV) (ok : Bool) (body : DiskV → DiskV → Nat → Prop) (D' : DiskV) (k : Nat) : Prop :=
  (D.down = true ∧ D' = D ∧ k = 8) ∨ (D.down = false ∧ D.armed = 0 ∧ D' = { D with down := true } ∧ k = 8) ∨
  (D.down = false ∧ D.armed ≠ 0 ∧ ((ok = false ∧ D' = countV D ∧ k = 5) ∨ (ok = true ∧ body (countV D) D' k)))
def FreshR (name : ByteArray) (b : List Int) (D D' : DiskV) (k : Nat) : Prop :=
  (fitsV D name b.length ≠ 0 ∧ D' = D ∧ k = fitsV D name b.length) ∨
  (fitsV D name b.length = 0 ∧ k = 0 ∧ ∃ i, ¬ Has D i ∧ D' = turnsV (tickV { D with fs := upd D.fs i ⟨b, 0, D.clock⟩ }) ⟨name, some i, noName⟩)
def AppendR (name : ByteArray) (b : List Int) (D D' : DiskV) (k : Nat) : Prop :=
  match look D.dir name with
  | none => FreshR name b D D' k
  | some i => (fitsV D name ((D.fs i).b.length + b.length) ≠ 0 ∧ D' = D ∧ k = fitsV D name ((D.fs i).b.length + b.length)) ∨
      (fitsV D name ((D.fs i).b.length + b.length) = 0 ∧ k = 0 ∧ D' = tickV { D with fs := upd D.fs i ⟨(D.fs i).b ++ b, (D.fs i).sure, D.clock⟩ })
def ThereR (name : ByteArray) (body : Nat → DiskV → DiskV → Nat → Prop) (D D' : DiskV) (k : Nat) : Prop :=
  match look D.dir name with
  | none => D' = D ∧ k = 6
  | some i => body i D D' k
def CutR (n : Int) (i : Nat) (D D' : DiskV) (k : Nat) : Prop :=
  ((n < 0 ∨ ((D.fs i).b.length : Int) < n) ∧ D' = D ∧ k = 1) ∨
  (0 ≤ n ∧ n ≤ ((D.fs i).b.length : Int) ∧ k = 0 ∧ D' = tickV { D with fs := upd D.fs i ⟨(D.fs i).b.take n.toNat, min (D.fs i).sure n.toNat, D.clock⟩ })
def RenameR (name dest : ByteArray) (i : Nat) (D D' : DiskV) (k : Nat) : Prop := D' = turnsV D ⟨dest, some i, name⟩ ∧ k = 0
def RemoveR (name : ByteArray) (i : Nat) (D D' : DiskV) (k : Nat) : Prop := D' = turnsV D ⟨noName, none, name⟩ ∧ k = 0
def SyncR (i : Nat) (D D' : DiskV) (k : Nat) : Prop := D' = { D with fs := upd D.fs i ⟨(D.fs i).b, (D.fs i).b.length, (D.fs i).time⟩ } ∧ k = 0
def SyncDirR (D D' : DiskV) (k : Nat) : Prop := D' = { D with sure := D.dir, pend := [] } ∧ k = 0
/-- What is left of a file behind a restart. -/
def cutsV (D : DiskV) (i : Nat) (tail : Int) : DiskV :=
  let f := D.fs i
  let n := f.sure + min (max tail 0).toNat (f.b.length - f.sure)
  if n < f.b.length then { D with fs := upd D.fs i ⟨f.b.take n, n, D.clock⟩, clock := D.clock + 1 }
  else { D with fs := upd D.fs i ⟨f.b, f.b.length, f.time⟩ }
def tailOf (tails : List Int) (k : Nat) : Int := if tails.length = 0 then 0 else tails.getD (k % tails.length) 0
def cutsAll (D : DiskV) (tails : List Int) : List (ByteArray × Nat) → Nat → DiskV
  | [], _ => D
  | p :: L, k => cutsAll (cutsV D p.2 (tailOf tails k)) tails L (k + 1)
def keptV (D : DiskV) (dir : Int) : Dir := (D.pend.take (min (max dir 0).toNat D.pend.length)).foldl chDo D.sure
def restartV (D : DiskV) (dir : Int) (tails : List Int) : DiskV :=
  let D1 := cutsAll { D with dir := keptV D dir } tails (keptV D dir) 0
  { D1 with sure := D1.dir, pend := [], armed := -1, down := false }
def armV (D : DiskV) (n : Int) : DiskV := { D with armed := max n (-1) }
def newV (quota : Nat) (fs : Nat → FileV) : DiskV := ⟨quota, 1, 0, -1, false, [], [], [], fs⟩

/-! ### The order of names -/
theorem nlt_eq (x y : ByteArray) : nlt x y = ltStr x.toList y.toList := bytesLess_eq _ _
theorem nlt_irrefl (x : ByteArray) : nlt x x = false := by rw [nlt_eq]; exact swo_ltStr.irrefl _
theorem nlt_trans (x y z : ByteArray) (h1 : nlt x y = true) (h2 : nlt y z = true) : nlt x z = true := by rw [nlt_eq] at *; exact swo_ltStr.trans _ _ _ h1 h2
theorem nlt_total (x y : ByteArray) (h1 : nlt x y = false) (h2 : nlt y x = false) : x = y := by
  rw [nlt_eq] at *
  simp only [ltStr, decide_eq_false_iff_not, List.not_lt] at h1 h2
  have h3 := List.le_antisymm h2 h1
  rw [ByteArray.toList_eq, ByteArray.toList_eq] at h3
  cases x
  cases y
  exact congrArg ByteArray.mk (Array.toList_inj.1 h3)
/-! ### Directories -/
theorem look_mem {L : Dir} {x : ByteArray} {i : Nat} (h : look L x = some i) : (x, i) ∈ L := by
  induction L with
  | nil => cases h
  | cons p L ih =>
    unfold look at h
    by_cases e : p.1 = x
    · rw [if_pos e] at h
      have h := Option.some.inj h
      rw [← e, ← h]
      exact .head _
    · rw [if_neg e] at h
      exact .tail _ (ih h)
theorem look_none {L : Dir} {x : ByteArray} : look L x = none ↔ ∀ i, (x, i) ∉ L := by
  induction L with
  | nil => simp [look]
  | cons p L ih =>
    unfold look
    by_cases e : p.1 = x
    · rw [if_pos e]
      constructor
      · intro h; cases h
      · intro h; exact absurd (by rw [← e]; exact .head _) (h p.2)
    · rw [if_neg e, ih]
      constructor
      · intro h i hi
        rcases List.mem_cons.1 hi with h2 | h2
        · exact e (by rw [← h2])
        · exact h i h2
      · intro h i hi
        exact h i (.tail _ hi)
theorem look_of_mem {L : Dir} (hu : UpD L) {x : ByteArray} {i : Nat} (h : (x, i) ∈ L) : look L x = some i := by
  induction L with
  | nil => cases h
  | cons p L ih =>
    unfold UpD at hu
    rw [List.pairwise_cons] at hu
    unfold look
    rcases List.mem_cons.1 h with h2 | h2
    · subst h2
      rw [if_pos rfl]
    · by_cases e : p.1 = x
      · have := hu.1 _ h2
        rw [e, nlt_irrefl] at this
        cases this
      · rw [if_neg e]
        exact ih hu.2 h2
theorem mem_delD {L : Dir} {x : ByteArray} {p : ByteArray × Nat} : p ∈ delD L x ↔ p ∈ L ∧ p.1 ≠ x := by
  unfold delD
  rw [List.mem_filter]
  simp
theorem delD_up {L : Dir} (h : UpD L) (x : ByteArray) : UpD (delD L x) := h.filter _
theorem mem_putD {L : Dir} {x : ByteArray} {i : Nat} {p : ByteArray × Nat} : p ∈ putD L x i ↔ (p ∈ L ∧ p.1 ≠ x) ∨ p = (x, i) := by
  unfold putD
  have e : delD L x = (delD L x).takeWhile (fun p => nlt p.1 x) ++ (delD L x).dropWhile (fun p => nlt p.1 x) := (List.takeWhile_append_dropWhile).symm
  rw [← mem_delD, List.mem_append, List.mem_append, List.mem_singleton]
  constructor
  · rintro ((h | h) | h)
    · exact .inl (by rw [e]; exact List.mem_append_left _ h)
    · exact .inr h
    · exact .inl (by rw [e]; exact List.mem_append_right _ h)
  · rintro (h | h)
    · rw [e] at h
      rcases List.mem_append.1 h with h | h
      · exact .inl (.inl h)
      · exact .inr h
    · exact .inl (.inr h)
theorem drop_after {x : ByteArray} : ∀ {L : Dir}, UpD L → (∀ p ∈ L, p.1 ≠ x) → ∀ p ∈ L.dropWhile (fun p => nlt p.1 x), nlt x p.1 = true
  | [], _, _, p, hp => by simp at hp
  | a :: L, hu, hs, p, hp => by
    unfold UpD at hu
    rw [List.pairwise_cons] at hu
    rw [List.dropWhile_cons] at hp
    cases ha : nlt a.1 x with
    | true =>
      rw [ha] at hp
      exact drop_after (L := L) hu.2 (fun q hq => hs q (List.mem_cons_of_mem _ hq)) p hp
    | false =>
      rw [ha] at hp
      have h1 : nlt x a.1 = true := by
        cases h2 : nlt x a.1 with
        | true => rfl
        | false => exact absurd (nlt_total a.1 x ha h2) (hs a (.head _))
      rcases List.mem_cons.1 hp with rfl | hp
      · exact h1
      · exact nlt_trans x a.1 p.1 h1 (hu.1 p hp)
theorem putD_up {L : Dir} (h : UpD L) (x : ByteArray) (i : Nat) : UpD (putD L x i) := by
  have h0 := delD_up h x
  have hd := drop_after h0 (fun p hp => (mem_delD.1 hp).2)
  have h1 : UpD ((delD L x).takeWhile fun p => nlt p.1 x) := h0.sublist (List.takeWhile_sublist _)
  have h2 : UpD ((delD L x).dropWhile fun p => nlt p.1 x) := h0.sublist (List.dropWhile_sublist _)
  have ht : ∀ p ∈ (delD L x).takeWhile (fun p => nlt p.1 x), nlt p.1 x = true := fun p hp => by
    have h3 := List.all_takeWhile (p := fun p => nlt p.1 x) (l := delD L x)
    exact List.all_eq_true.1 h3 p hp
  unfold putD UpD
  rw [List.append_assoc, List.pairwise_append]
  refine ⟨h1, ?_, fun a ha b hb => ?_⟩
  · rw [List.singleton_append, List.pairwise_cons]
    exact ⟨hd, h2⟩
  · rw [List.singleton_append, List.mem_cons] at hb
    rcases hb with rfl | hb
    · exact ht a ha
    · exact nlt_trans a.1 x b.1 (ht a ha) (hd b hb)
theorem look_delD {L : Dir} (h : UpD L) (x y : ByteArray) : look (delD L x) y = if y = x then none else look L y := by
  by_cases e : y = x
  · rw [if_pos e, look_none]
    intro i hi
    exact (mem_delD.1 hi).2 e
  · rw [if_neg e]
    cases hl : look L y with
    | none =>
      rw [look_none] at hl ⊢
      exact fun i hi => hl i (mem_delD.1 hi).1
    | some i => exact look_of_mem (delD_up h x) (mem_delD.2 ⟨look_mem hl, e⟩)
theorem look_putD {L : Dir} (h : UpD L) (x y : ByteArray) (i : Nat) : look (putD L x i) y = if y = x then some i else look L y := by
  by_cases e : y = x
  · rw [if_pos e, e]
    exact look_of_mem (putD_up h x i) (mem_putD.2 (.inr rfl))
  · rw [if_neg e]
    cases hl : look L y with
    | none =>
      rw [look_none] at hl ⊢
      intro j hj
      rcases mem_putD.1 hj with h2 | h2
      · exact hl j h2.1
      · exact e (congrArg Prod.fst h2)
    | some j => exact look_of_mem (putD_up h x i) (mem_putD.2 (.inl ⟨look_mem hl, e⟩))
theorem delD_len {L : Dir} (h : UpD L) (x : ByteArray) : (delD L x).length = if (look L x).isSome = true then L.length - 1 else L.length := by
  induction L with
  | nil => simp [delD, look]
  | cons p L ih =>
    unfold UpD at h
    rw [List.pairwise_cons] at h
    have ih := ih h.2
    unfold delD at ih ⊢
    unfold look
    rw [List.filter_cons]
    by_cases e : p.1 = x
    · have hn : L.filter (fun q => !decide (q.1 = x)) = L := List.filter_eq_self.2 fun q hq => by
        have h2 := h.1 q hq
        have h3 : q.1 ≠ x := fun h4 => by rw [e, h4, nlt_irrefl] at h2; cases h2
        simp [h3]
      rw [hn]
      simp [e]
    · simp only [e, decide_false, Bool.not_false, if_true, if_false, List.length_cons]
      rw [ih]
      cases hl : look L x with
      | none => simp
      | some i =>
        have := List.length_pos_of_mem (look_mem hl)
        simp
        omega
theorem putD_len {L : Dir} (h : UpD L) (x : ByteArray) (i : Nat) : (putD L x i).length = if (look L x).isSome = true then L.length else L.length + 1 := by
  have h1 := delD_len h x
  have e := congrArg List.length (List.takeWhile_append_dropWhile (p := fun p : ByteArray × Nat => nlt p.1 x) (l := delD L x))
  unfold putD
  simp only [List.length_append, List.length_singleton] at e ⊢
  cases hl : look L x with
  | none => rw [hl] at h1; simp at h1 ⊢; omega
  | some j =>
    have := List.length_pos_of_mem (look_mem hl)
    rw [hl] at h1
    simp at h1 ⊢
    omega
theorem chDo_up {L : Dir} (h : UpD L) (c : ChV) : UpD (chDo L c) := by
  unfold chDo
  have h1 : UpD (if c.gone = noName then L else delD L c.gone) := by split; exact h; exact delD_up h _
  simp only
  split
  · exact h1
  · split
    · exact putD_up h1 _ _
    · exact h1
end Go.Proofs.YtononoakdebjeaaGreatDoor.Dk
