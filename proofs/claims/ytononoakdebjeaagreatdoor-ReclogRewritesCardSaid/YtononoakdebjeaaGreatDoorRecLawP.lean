/- A log over a disk, plainly: what opening and the deeds of a log do to a disk with one file, and where it is down. -/
import Derived.Test.YtononoakdebjeaaGreatDoorRecOpen
namespace Go.Proofs.YtononoakdebjeaaGreatDoor.Rec
open Go.RowKit Go.Proofs.YtononoakdebjeaaGreatDoorW.PrintWords Go.Proofs.YtononoakdebjeaaGreatDoorW.PrintLast Go.Proofs.YtononoakdebjeaaGreatDoor.Base Go.Proofs.YtononoakdebjeaaGreatDoor.Path Go.Proofs.YtononoakdebjeaaGreatDoor.Pack Go.Proofs.YtononoakdebjeaaGreatDoor.Dk Go.Maps
set_option linter.unusedVariables false
set_option linter.unusedSimpArgs false
abbrev logN : ByteArray := ⟨#[108, 111, 103]⟩
abbrev newN : ByteArray := ⟨#[108, 111, 103, 46, 110, 101, 119]⟩
theorem newName_log : newName logN = newN := by decide +kernel
theorem logN_no : logN ≠ noName := by decide
theorem newN_no : newN ≠ noName := by decide
theorem newN_log : newN ≠ logN := by decide
theorem scanRes_nil (kd : Int) : scanRes kd [] = ([], 0, 0) := scanRes_short (by simp) (by simp)
theorem open_none {q : Nat} {D D' : DiskV} {kd : Int} {nm : ByteArray} {k : Nat} {rs : List (List Int)} (h : NoneI q D) (ha : D.armed ≠ 0) (hr : rightB nm = true) (hn : nm ≠ noName) (hq : 8 ≤ q) (ho : OpenR kd nm D D' k rs) :
    k = 0 ∧ rs = [] ∧ ∃ j, OneI q nm j ⟨headBytes kd, 0, D.clock⟩ false D' ∧ D'.armed = (countV D).armed ∧ D'.deeds = D.deeds + 1 := by
  have hl : ∀ s, Dk.look D.dir s = none := fun s => by rw [h.dir]; rfl
  obtain ⟨D1, k1, hs, ho⟩ := ho
  rcases hs with ⟨_, rfl, rfl⟩ | ⟨_, ⟨i, hi⟩, _⟩
  · rcases ho with ⟨h1, _⟩ | ⟨_, ho⟩
    · exact absurd rfl h1
    · have hb : bytesAt D1 nm = [] := by unfold bytesAt; rw [hl nm]
      unfold OpenB at ho
      rw [hb, scanRes_nil] at ho
      rcases ho with ⟨h1, _⟩ | ⟨_, h1, _⟩ | ⟨_, _, rfl, ⟨_, ho⟩ | ⟨h1, _⟩ | ⟨h1, _⟩⟩
      · rw [h.down] at h1; cases h1
      · exact absurd rfl h1
      · obtain ⟨a1, j, a2, a3, a4⟩ := h.writeD ha hr (by show (8 : Nat) ≤ _; omega) (by show (8 : Nat) ≤ _; omega) hn ho
        exact ⟨a1, rfl, j, a2, a3, a4⟩
      · exact absurd rfl h1
      · exact absurd rfl h1
  · rw [hl] at hi; cases hi
/-- Where the disk is down, or down at the next deed. -/
def Dead (D : DiskV) : Prop := D.down = true ∨ D.armed = 0
theorem Dead.deed {D D' : DiskV} {ok : Bool} {body : DiskV → DiskV → Nat → Prop} {k : Nat} (h : Dead D) (hd : DeedR D ok body D' k) : D'.down = true ∧ k = 8 := by
  obtain ⟨rfl, hk⟩ := hd.dead h
  exact ⟨rfl, hk⟩
theorem Dead.sync {D D' : DiskV} {nm : ByteArray} {k : Nat} (h : Dead D) (hd : SyncAllR nm D D' k) : D'.down = true ∧ k = 8 := by
  obtain ⟨D1, k1, h1, ⟨_, rfl, rfl⟩ | ⟨h2, _⟩⟩ := hd
  · exact h.deed h1
  · have := (h.deed h1).2
    omega
theorem Dead.rewrite {D D' : DiskV} {nm fr : ByteArray} {xs : List Int} {k : Nat} (h : Dead D) (hd : RewR nm fr xs D D' k) : D'.down = true ∧ k = 8 := by
  obtain ⟨D1, k1, h1, ⟨_, rfl, rfl⟩ | ⟨h2, _⟩⟩ := hd
  · exact h.deed h1
  · have := (h.deed h1).2
    omega
theorem open_down {D D' : DiskV} {kd : Int} {nm : ByteArray} {k : Nat} {rs : List (List Int)} (h : D.down = true) (ho : OpenR kd nm D D' k rs) : D' = D ∧ k = 8 := by
  obtain ⟨D1, k1, hs, ho⟩ := ho
  rcases hs with ⟨_, rfl, rfl⟩ | ⟨h1, _⟩
  · rcases ho with ⟨h1, _⟩ | ⟨_, ho⟩
    · exact absurd rfl h1
    · rcases ho with ⟨_, rfl, rfl⟩ | ⟨h1, _⟩ | ⟨h1, _⟩
      · exact ⟨rfl, rfl⟩
      · rw [h] at h1; cases h1
      · rw [h] at h1; cases h1
  · rw [h] at h1; cases h1
/-! ### Deeds of a disk that is up, name by name -/
structure UpA (D : DiskV) : Prop where
  down : D.down = false
  armed : D.armed = -1
theorem UpA.count {D : DiskV} (h : UpA D) : UpA (countV D) := ⟨h.down, count_minus h.armed⟩
theorem UpA.deed {D D' : DiskV} {ok : Bool} {body : DiskV → DiskV → Nat → Prop} {k : Nat} (h : UpA D) (hk : ok = true) (hd : DeedR D ok body D' k) : body (countV D) D' k := by
  subst hk
  exact hd.up h.down (by rw [h.armed]; decide)
theorem bytesAt_some {D : DiskV} {s : ByteArray} {i : Nat} (h : Dk.look D.dir s = some i) : bytesAt D s = (D.fs i).b := by unfold bytesAt; rw [h]
theorem bytesAt_none {D : DiskV} {s : ByteArray} (h : Dk.look D.dir s = none) : bytesAt D s = [] := by unfold bytesAt; rw [h]
/-- A directory that rises, of files that are short enough. -/
structure Plain (D : DiskV) : Prop where
  up : UpD D.dir
  small : ∀ p ∈ D.dir, (D.fs p.2).b.length ≤ 65536
theorem Plain.of {c : Nat} {D : DiskV} (h : OkD c D) : Plain D := ⟨h.dirUp, fun p hp => (h.file p.2 (.inl ⟨p.1, hp⟩)).1⟩
theorem Plain.del {D : DiskV} (h : Plain D) (s : ByteArray) (D' : DiskV) (hd : D'.dir = delD D.dir s) (hf : D'.fs = D.fs) : Plain D' :=
  ⟨by rw [hd]; exact delD_up h.up _, fun p hp => by rw [hf]; rw [hd] at hp; exact h.small p (mem_delD.1 hp).1⟩
theorem used_le {D : DiskV} (h : Plain D) : usedV D ≤ 65536 * D.dir.length := by
  unfold usedV
  have hf := h.small
  generalize D.dir = L at hf
  induction L with
  | nil => exact Nat.le_refl _
  | cons p L ih =>
    have h1 := hf p (.head _)
    have h2 := ih (fun q hq => hf q (.tail _ hq))
    simp only [List.map_cons, List.sum_cons, List.length_cons]
    omega
theorem fits_zero {n : Nat} {D : DiskV} {s : ByteArray} (h : Plain D) (hn : n ≤ 65536) (hd : D.dir.length ≤ 10) (hq : 1048576 ≤ D.quota) : fitsV D s n = 0 := by
  have hu := used_le h
  unfold fitsV
  rw [if_neg (by rintro (h1 | ⟨_, h1⟩) <;> omega), if_neg]
  have h3 : usedV D - (match Dk.look D.dir s with | some i => (D.fs i).b.length | none => 0) ≤ usedV D := Nat.sub_le _ _
  omega
/-- What a fresh file turns. -/
structure FreshT (s : ByteArray) (xs : List Int) (D D' : DiskV) (j : Nat) : Prop where
  no : ¬ Has D j
  at_ : Dk.look D'.dir s = some j
  file : D'.fs j = ⟨xs, 0, D.clock⟩
  other : ∀ x, x ≠ s → Dk.look D'.dir x = Dk.look D.dir x
  fs : ∀ i, i ≠ j → D'.fs i = D.fs i
  len : D'.dir.length ≤ D.dir.length + 1
  down : D'.down = D.down
  armed : D'.armed = D.armed
  quota : D'.quota = D.quota
  sure : D'.sure = D.sure
  pend : D'.pend = D.pend ++ [⟨s, some j, noName⟩]
theorem fresh_told {D D' : DiskV} {s : ByteArray} {xs : List Int} {k : Nat} (hk : Plain D) (hs : s ≠ noName) (hf : fitsV D s xs.length = 0) (h : FreshR s xs D D' k) : k = 0 ∧ ∃ j, FreshT s xs D D' j := by
  rcases h with ⟨h1, _⟩ | ⟨_, h2, j, hj, rfl⟩
  · exact absurd hf h1
  · have hl : ∀ x, Dk.look (chDo D.dir ⟨s, some j, noName⟩) x = if x = s then some j else Dk.look D.dir x := fun x => by
      unfold chDo
      simp only [if_true]
      rw [if_neg hs]
      rw [look_putD hk.up]
    refine ⟨h2, j, hj, ?_, upd_same, fun x hx => ?_, fun i hi => upd_other hi, chDo_len hk.up _, rfl, rfl, rfl, rfl, rfl⟩
    · show Dk.look (chDo D.dir _) s = _
      rw [hl, if_pos rfl]
    · show Dk.look (chDo D.dir _) x = _
      rw [hl, if_neg hx]
theorem FreshT.bytes {s : ByteArray} {xs : List Int} {D D' : DiskV} {j : Nat} (h : FreshT s xs D D' j) : bytesAt D' s = xs := by rw [bytesAt_some h.at_, h.file]
theorem FreshT.others {s x : ByteArray} {xs : List Int} {D D' : DiskV} {j : Nat} (h : FreshT s xs D D' j) (hx : x ≠ s) : bytesAt D' x = bytesAt D x := by
  unfold bytesAt
  rw [h.other x hx]
  cases hl : Dk.look D.dir x with
  | none => rfl
  | some i =>
    show (D'.fs i).b = _
    rw [h.fs i (fun e => h.no (e ▸ has_dir hl))]
/-- What opening turns, where the disk is up and has room. -/
structure SpareT (nm : ByteArray) (D D1 : DiskV) : Prop where
  up : UpA D1
  none_ : Dk.look D1.dir (newName nm) = none
  plain : Plain D1
  len : D1.dir.length ≤ D.dir.length
  quota : D1.quota = D.quota
  other : ∀ x, x ≠ newName nm → Dk.look D1.dir x = Dk.look D.dir x
  fs : D1.fs = D.fs
theorem spare_told {D D1 : DiskV} {nm : ByteArray} {k : Nat} (hk : Plain D) (hu : UpA D) (hr2 : rightB (newName nm) = true) (hs : SpareR (newName nm) D D1 k) : k = 0 ∧ SpareT nm D D1 := by
  rcases hs with ⟨h1 | h1, rfl, h2⟩ | ⟨_, ⟨i, hi⟩, hs⟩
  · rw [hu.down] at h1; cases h1
  · exact ⟨h2, hu, h1, hk, Nat.le_refl _, rfl, fun _ _ => rfl, rfl⟩
  · have hs := hu.deed hr2 hs
    unfold ThereR at hs
    have hi' : Dk.look (countV D).dir (newName nm) = some i := hi
    rw [hi'] at hs
    obtain ⟨rfl, h2⟩ := hs
    have h3 : (turnsV (countV D) ⟨noName, none, newName nm⟩).dir = delD D.dir (newName nm) := by
      show chDo D.dir ⟨noName, none, newName nm⟩ = _
      unfold chDo
      simp only [if_true]
      rw [if_neg (newName_no nm)]
    refine ⟨h2, ⟨hu.down, count_minus hu.armed⟩, by rw [h3, look_delD hk.up, if_pos rfl], hk.del _ _ h3 rfl, ?_, rfl, fun x hx => by rw [h3, look_delD hk.up, if_neg hx], rfl⟩
    rw [h3]
    exact List.length_filter_le _ _
theorem open_told {D D' : DiskV} {kd : Int} {nm : ByteArray} {k : Nat} {rs : List (List Int)} (hk : Plain D) (hu : UpA D) (hd : D.dir.length ≤ 10) (hq : 1048576 ≤ D.quota) (hr : rightB nm = true) (hr2 : rightB (newName nm) = true) (hn : nm ≠ noName) (h : OpenR kd nm D D' k rs) :
    Dk.look D'.dir (newName nm) = none ∧ UpA D' ∧
    (((scanRes kd (bytesAt D nm)).2.2 ≠ 0 ∧ k = 9 ∧ Dk.look D'.dir nm = Dk.look D.dir nm ∧ bytesAt D' nm = bytesAt D nm) ∨
     ((scanRes kd (bytesAt D nm)).2.2 = 0 ∧ k = 0 ∧ rs = (scanRes kd (bytesAt D nm)).1 ∧ ∃ i, Dk.look D'.dir nm = some i ∧ (D'.fs i).b = if (scanRes kd (bytesAt D nm)).2.1 = 0 then headBytes kd else (bytesAt D nm).take (scanRes kd (bytesAt D nm)).2.1)) := by
  obtain ⟨D1, k1, hs, h⟩ := h
  have hnn := newName_ne nm
  obtain ⟨rfl, h1⟩ := spare_told hk hu hr2 hs
  have hb : bytesAt D1 nm = bytesAt D nm := by unfold bytesAt; rw [h1.other nm (Ne.symm hnn), h1.fs]
  have hl := h1.other nm (Ne.symm hnn)
  rcases h with ⟨h2, _⟩ | ⟨_, h⟩
  · exact absurd rfl h2
  unfold OpenB at h
  rw [hb] at h
  rcases h with ⟨h2, _⟩ | ⟨_, h2, rfl, h3⟩ | ⟨_, h2, rfl, h⟩
  · rw [h1.up.down] at h2; cases h2
  · exact ⟨h1.none_, h1.up, .inl ⟨h2, h3, hl, hb⟩⟩
  · rcases h with ⟨h3, h⟩ | ⟨h3, h4, h⟩ | ⟨h3, h4, rfl, h5⟩
    · have h := h1.up.deed hr h
      have hp : Plain (countV D1) := ⟨h1.plain.up, h1.plain.small⟩
      obtain ⟨hk0, j, hj⟩ := fresh_told hp hn (fits_zero hp (by show (8 : Nat) ≤ _; omega) (Nat.le_trans h1.len hd) (by show _ ≤ D1.quota; rw [h1.quota]; exact hq)) h
      refine ⟨(hj.other _ hnn).trans h1.none_, ⟨hj.down.trans h1.up.down, hj.armed.trans (count_minus h1.up.armed)⟩, .inr ⟨h2, hk0, rfl, j, hj.at_, ?_⟩⟩
      rw [if_pos h3, hj.file]
    · have h := h1.up.deed hr h
      have hlen : bytesAt D nm ≠ [] := fun e => by rw [e] at h4; simp at h4
      obtain ⟨i, hi⟩ : ∃ i, Dk.look D.dir nm = some i := by
        cases hi : Dk.look D.dir nm with
        | none => exact absurd (bytesAt_none hi) hlen
        | some i => exact ⟨i, rfl⟩
      have hi1 : Dk.look (countV D1).dir nm = some i := hl.trans hi
      unfold ThereR at h
      rw [hi1] at h
      have hbi : ((countV D1).fs i).b = bytesAt D nm := by rw [bytesAt_some hi, ← h1.fs]; rfl
      rcases h with ⟨h5, _⟩ | ⟨_, _, h5, rfl⟩
      · rw [hbi] at h5; omega
      · refine ⟨h1.none_, ⟨h1.up.down, count_minus h1.up.armed⟩, .inr ⟨h2, h5, rfl, i, hi1, ?_⟩⟩
        rw [if_neg h3]
        show (upd (countV D1).fs i _ i).b = _
        rw [upd_same]
        show ((countV D1).fs i).b.take _ = _
        rw [hbi]
        rfl
    · refine ⟨h1.none_, h1.up, .inr ⟨h2, h5, rfl, ?_⟩⟩
      have hle := scanRes_end kd (bytesAt D nm)
      have hlen : bytesAt D nm ≠ [] := fun e => by rw [e, scanRes_nil] at h3; exact h3 rfl
      obtain ⟨i, hi⟩ : ∃ i, Dk.look D.dir nm = some i := by
        cases hi : Dk.look D.dir nm with
        | none => exact absurd (bytesAt_none hi) hlen
        | some i => exact ⟨i, rfl⟩
      refine ⟨i, hl.trans hi, ?_⟩
      rw [if_neg h3, List.take_of_length_le (by omega), ← hb]
      exact (bytesAt_some (hl.trans hi)).symm
end Go.Proofs.YtononoakdebjeaaGreatDoor.Rec
