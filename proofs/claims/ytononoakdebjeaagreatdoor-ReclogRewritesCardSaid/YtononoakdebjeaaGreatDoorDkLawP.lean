/- A disk, plainly: what was synced stays, times differ, a disk with one file, a renaming. -/
import Derived.Test.YtononoakdebjeaaGreatDoorDkFresh
namespace Go.Proofs.YtononoakdebjeaaGreatDoor.Dk
open Go.RowKit Go.Proofs.YtononoakdebjeaaGreatDoorW.PrintWords Go.Proofs.YtononoakdebjeaaGreatDoor.Base Go.Sort
set_option linter.unusedVariables false
set_option linter.unusedSimpArgs false
/-! ### What was synced -/
/-- A name leads to a file, and no other name does. -/
structure OwnD (L : Dir) (nm : ByteArray) (i : Nat) : Prop where
  up : UpD L
  at_ : look L nm = some i
  only : ∀ s, (s, i) ∈ L → s = nm
theorem OwnD.del {L : Dir} {nm : ByteArray} {i : Nat} (h : OwnD L nm i) {x : ByteArray} (hx : x ≠ nm) : OwnD (delD L x) nm i :=
  ⟨delD_up h.up _, by rw [look_delD h.up, if_neg (Ne.symm hx)]; exact h.at_, fun s hs => h.only s (mem_delD.1 hs).1⟩
theorem OwnD.chDo {L : Dir} {nm : ByteArray} {i : Nat} (h : OwnD L nm i) {c : ChV} (h1 : c.name ≠ nm) (h2 : c.gone ≠ nm) (h3 : c.dst ≠ some i) : OwnD (chDo L c) nm i := by
  have h0 : OwnD (if c.gone = noName then L else delD L c.gone) nm i := by
    split
    · exact h
    · exact h.del h2
  unfold Dk.chDo
  simp only
  split
  · exact h0
  · cases hd : c.dst with
    | none => exact h0
    | some j =>
      refine ⟨putD_up h0.up _ _, by simp only; rw [look_putD h0.up, if_neg (Ne.symm h1)]; exact h0.at_, fun s hs => ?_⟩
      rcases mem_putD.1 hs with h4 | h4
      · exact h0.only s h4.1
      · have e : i = j := congrArg Prod.snd h4
        exact absurd (by rw [hd, e]) h3
theorem OwnD.foldl {nm : ByteArray} {i : Nat} {cs : List ChV} : ∀ {L : Dir}, OwnD L nm i → (∀ c ∈ cs, c.name ≠ nm ∧ c.gone ≠ nm ∧ c.dst ≠ some i) → OwnD (cs.foldl Dk.chDo L) nm i := by
  induction cs with
  | nil => intro L h _; exact h
  | cons c cs ih =>
    intro L h hc
    obtain ⟨h1, h2, h3⟩ := hc c (.head _)
    exact ih (h.chDo h1 h2 h3) (fun d hd => hc d (.tail _ hd))
structure SureI (nm : ByteArray) (b : List Int) (t i : Nat) (D : DiskV) : Prop where
  ne : noName ≠ nm
  own : OwnD D.sure nm i
  dir : OwnD D.dir nm i
  pend : ∀ c ∈ D.pend, c.name ≠ nm ∧ c.gone ≠ nm ∧ c.dst ≠ some i
  file : D.fs i = ⟨b, b.length, t⟩
section
variable {nm : ByteArray} {b : List Int} {t i : Nat} {D D' : DiskV} {k : Nat}
theorem SureI.has (h : SureI nm b t i D) : Has D i := .inl ⟨nm, look_mem h.dir.at_⟩
theorem SureI.deed (h : SureI nm b t i D) {ok : Bool} {body : DiskV → DiskV → Nat → Prop} (hb : ∀ D1 D2 k, SureI nm b t i D1 → body D1 D2 k → SureI nm b t i D2) (hd : DeedR D ok body D' k) : SureI nm b t i D' := by
  rcases hd with ⟨_, rfl, _⟩ | ⟨_, _, rfl, _⟩ | ⟨_, _, ⟨_, rfl, _⟩ | ⟨_, hd⟩⟩
  · exact h
  · exact ⟨h.ne, h.own, h.dir, h.pend, h.file⟩
  · exact ⟨h.ne, h.own, h.dir, h.pend, h.file⟩
  · exact hb (countV D) D' k ⟨h.ne, h.own, h.dir, h.pend, h.file⟩ hd
theorem SureI.turns (h : SureI nm b t i D) {c : ChV} (h1 : c.name ≠ nm) (h2 : c.gone ≠ nm) (h3 : c.dst ≠ some i) : SureI nm b t i (turnsV D c) :=
  ⟨h.ne, h.own, h.dir.chDo h1 h2 h3, fun d hd => by
    rcases List.mem_append.1 hd with hd | hd
    · exact h.pend d hd
    · rw [List.mem_singleton.1 hd]; exact ⟨h1, h2, h3⟩, h.file⟩
theorem SureI.upd (h : SureI nm b t i D) {j : Nat} (hj : j ≠ i) (f : FileV) : SureI nm b t i { D with fs := Dk.upd D.fs j f } :=
  ⟨h.ne, h.own, h.dir, h.pend, by show Dk.upd D.fs j f i = _; rw [upd_other (Ne.symm hj)]; exact h.file⟩
theorem SureI.tick (h : SureI nm b t i D) : SureI nm b t i (tickV D) := ⟨h.ne, h.own, h.dir, h.pend, h.file⟩
theorem SureI.fresh (h : SureI nm b t i D) {name : ByteArray} {xs : List Int} (hn : name ≠ nm) (hd : FreshR name xs D D' k) : SureI nm b t i D' := by
  rcases hd with ⟨_, rfl, _⟩ | ⟨_, _, j, hj, rfl⟩
  · exact h
  · have hji : j ≠ i := fun e => hj (e ▸ h.has)
    exact ((h.upd hji _).tick).turns hn h.ne (fun e => hji (Option.some.inj e))
theorem SureI.other (h : SureI nm b t i D) {name : ByteArray} (hn : name ≠ nm) {j : Nat} (hl : look D.dir name = some j) : j ≠ i := fun e => hn (h.dir.only name (e ▸ look_mem hl))
theorem SureI.there (h : SureI nm b t i D) {name : ByteArray} (hn : name ≠ nm) {body : Nat → DiskV → DiskV → Nat → Prop} (hb : ∀ j, j ≠ i → body j D D' k → SureI nm b t i D') (hd : ThereR name body D D' k) : SureI nm b t i D' := by
  unfold ThereR at hd
  split at hd
  · rw [hd.1]; exact h
  · rename_i j hj
    exact hb j (h.other hn hj) hd
theorem SureI.append (h : SureI nm b t i D) {name : ByteArray} {xs : List Int} (hn : name ≠ nm) (hd : AppendR name xs D D' k) : SureI nm b t i D' := by
  unfold AppendR at hd
  split at hd
  · exact h.fresh hn hd
  · rename_i j hj
    rcases hd with ⟨_, rfl, _⟩ | ⟨_, _, rfl⟩
    · exact h
    · exact (h.upd (h.other hn hj) _).tick
theorem SureI.cut (h : SureI nm b t i D) {j : Nat} (hj : j ≠ i) {n : Int} (hd : CutR n j D D' k) : SureI nm b t i D' := by
  rcases hd with ⟨_, rfl, _⟩ | ⟨_, _, _, rfl⟩
  · exact h
  · exact (h.upd hj _).tick
theorem SureI.syncDir (h : SureI nm b t i D) (hd : SyncDirR D D' k) : SureI nm b t i D' := by
  rw [hd.1]
  exact ⟨h.ne, h.dir, h.dir, (fun c hc => by cases hc), h.file⟩
end
/-! ### Restarts -/
theorem cutsV_dir (D : DiskV) (i : Nat) (t : Int) : (cutsV D i t).dir = D.dir ∧ (cutsV D i t).sure = D.sure ∧ (cutsV D i t).pend = D.pend ∧ (cutsV D i t).quota = D.quota ∧ (cutsV D i t).deeds = D.deeds ∧ D.clock ≤ (cutsV D i t).clock := by
  unfold cutsV
  simp only
  split
  · exact ⟨rfl, rfl, rfl, rfl, rfl, Nat.le_succ _⟩
  · exact ⟨rfl, rfl, rfl, rfl, rfl, Nat.le_refl _⟩
theorem cutsAll_dir (tails : List Int) : ∀ (L : Dir) (D : DiskV) (k : Nat), (cutsAll D tails L k).dir = D.dir ∧ (cutsAll D tails L k).sure = D.sure ∧ (cutsAll D tails L k).pend = D.pend ∧ (cutsAll D tails L k).quota = D.quota ∧ (cutsAll D tails L k).deeds = D.deeds ∧ D.clock ≤ (cutsAll D tails L k).clock
  | [], D, k => ⟨rfl, rfl, rfl, rfl, rfl, Nat.le_refl _⟩
  | p :: L, D, k => by
    obtain ⟨a1, a2, a3, a4, a5, a6⟩ := cutsAll_dir tails L (cutsV D p.2 (tailOf tails k)) (k + 1)
    obtain ⟨b1, b2, b3, b4, b5, b6⟩ := cutsV_dir D p.2 (tailOf tails k)
    exact ⟨a1.trans b1, a2.trans b2, a3.trans b3, a4.trans b4, a5.trans b5, Nat.le_trans b6 a6⟩
theorem cutsV_sure {D : DiskV} {i j : Nat} {t : Int} (h : (D.fs i).sure = (D.fs i).b.length) : (cutsV D j t).fs i = D.fs i := by
  unfold cutsV
  simp only
  by_cases e : i = j
  · subst e
    rw [if_neg (by omega)]
    show upd D.fs i _ i = _
    rw [upd_same, ← h]
  · split
    · exact upd_other e
    · exact upd_other e
theorem cutsAll_sure {tails : List Int} {i : Nat} : ∀ {L : Dir} {D : DiskV} {k : Nat}, (D.fs i).sure = (D.fs i).b.length → (cutsAll D tails L k).fs i = D.fs i
  | [], _, _, _ => rfl
  | p :: L, D, k, h => by
    have h1 := cutsV_sure (j := p.2) (t := tailOf tails k) h
    show (cutsAll (cutsV D p.2 (tailOf tails k)) tails L (k + 1)).fs i = _
    rw [cutsAll_sure (by rw [h1]; exact h), h1]
theorem restart_dir (D : DiskV) (n : Int) (tails : List Int) : (restartV D n tails).dir = keptV D n ∧ (restartV D n tails).sure = keptV D n ∧ (restartV D n tails).pend = [] ∧ (restartV D n tails).armed = -1 ∧ (restartV D n tails).down = false ∧ (restartV D n tails).quota = D.quota ∧ (restartV D n tails).deeds = D.deeds := by
  have h := cutsAll_dir tails (keptV D n) { D with dir := keptV D n } 0
  exact ⟨h.1, h.1, rfl, rfl, rfl, h.2.2.2.1, h.2.2.2.2.1⟩
theorem restart_fs {D : DiskV} {n : Int} {tails : List Int} {i : Nat} (h : (D.fs i).sure = (D.fs i).b.length) : (restartV D n tails).fs i = D.fs i := cutsAll_sure (D := { D with dir := keptV D n }) h
theorem SureI.restart {nm : ByteArray} {b : List Int} {t i : Nat} {D : DiskV} (h : SureI nm b t i D) (n : Int) (tails : List Int) : SureI nm b t i (restartV D n tails) := by
  have hk : OwnD (keptV D n) nm i := h.own.foldl (fun c hc => h.pend c (List.mem_of_mem_take hc))
  obtain ⟨e1, e2, e3, _⟩ := restart_dir D n tails
  exact ⟨h.ne, by rw [e2]; exact hk, by rw [e1]; exact hk, (by rw [e3]; exact fun c hc => by cases hc), by rw [restart_fs (by rw [h.file])]; exact h.file⟩
theorem SureI.arm {nm : ByteArray} {b : List Int} {t i : Nat} {D : DiskV} (h : SureI nm b t i D) (n : Int) : SureI nm b t i (armV D n) := ⟨h.ne, h.own, h.dir, h.pend, h.file⟩
/-! ### Times -/
structure TimesI (H : Nat → Option (List Int)) (D : DiskV) : Prop where
  lt : ∀ i, Has D i → (D.fs i).time < D.clock
  uniq : ∀ i j, Has D i → Has D j → (D.fs i).time = (D.fs j).time → i = j
  seen : ∀ i c, Has D i → H (D.fs i).time = some c → c = (D.fs i).b
  fut : ∀ t, D.clock ≤ t → H t = none
section
variable {H : Nat → Option (List Int)} {D D' : DiskV} {k : Nat}
theorem TimesI.same (h : TimesI H D) (h1 : ∀ j, Has D' j → Has D j) (h2 : ∀ j, Has D' j → (D'.fs j).b = (D.fs j).b ∧ (D'.fs j).time = (D.fs j).time) (h3 : D.clock ≤ D'.clock) : TimesI H D' :=
  ⟨fun i hi => by rw [(h2 i hi).2]; exact Nat.lt_of_lt_of_le (h.lt i (h1 i hi)) h3,
   fun i j hi hj e => by rw [(h2 i hi).2, (h2 j hj).2] at e; exact h.uniq i j (h1 i hi) (h1 j hj) e,
   fun i c hi e => by rw [(h2 i hi).2] at e; rw [(h2 i hi).1]; exact h.seen i c (h1 i hi) e,
   fun t ht => h.fut t (Nat.le_trans h3 ht)⟩
theorem TimesI.stamp (h : TimesI H D) {i : Nat} {f : FileV} (h1 : ∀ j, Has D' j → Has D j ∨ j = i) (h2 : D'.fs = upd D.fs i f) (h3 : f.time = D.clock) (h4 : D'.clock = D.clock + 1) : TimesI H D' := by
  have hs : D'.fs i = f := by rw [h2, upd_same]
  have ho : ∀ j, j ≠ i → D'.fs j = D.fs j := fun j hj => by rw [h2, upd_other hj]
  have hH : ∀ j, Has D' j → j ≠ i → Has D j := fun j hj hn => (h1 j hj).elim id (fun e => absurd e hn)
  refine ⟨fun j hj => ?_, fun j q hj hq e => ?_, fun j c hj e => ?_, fun t ht => h.fut t (by omega)⟩
  · by_cases hji : j = i
    · rw [hji, hs, h3, h4]; exact Nat.lt_succ_self _
    · rw [ho j hji, h4]; exact Nat.lt_succ_of_lt (h.lt j (hH j hj hji))
  · by_cases hji : j = i
    · by_cases hqi : q = i
      · rw [hji, hqi]
      · have := h.lt q (hH q hq hqi)
        rw [hji, hs, h3, ho q hqi] at e
        omega
    · have := h.lt j (hH j hj hji)
      by_cases hqi : q = i
      · rw [hqi, hs, h3, ho j hji] at e
        omega
      · rw [ho j hji, ho q hqi] at e
        exact h.uniq j q (hH j hj hji) (hH q hq hqi) e
  · by_cases hji : j = i
    · rw [hji, hs, h3, h.fut _ (Nat.le_refl _)] at e
      cases e
    · rw [ho j hji] at e ⊢
      exact h.seen j c (hH j hj hji) e
theorem TimesI.see (h : TimesI H D) {i : Nat} (hi : Has D i) : TimesI (fun t => if t = (D.fs i).time then some (D.fs i).b else H t) D := by
  refine ⟨h.lt, h.uniq, fun j c hj e => ?_, fun t ht => ?_⟩
  · by_cases ht : (D.fs j).time = (D.fs i).time
    · have e : (if (D.fs j).time = (D.fs i).time then some (D.fs i).b else H (D.fs j).time) = some c := e
      rw [if_pos ht] at e
      rw [h.uniq j i hj hi ht]
      exact (Option.some.inj e).symm
    · have e : (if (D.fs j).time = (D.fs i).time then some (D.fs i).b else H (D.fs j).time) = some c := e
      rw [if_neg ht] at e
      exact h.seen j c hj e
  · have := h.lt i hi
    show (if t = (D.fs i).time then some (D.fs i).b else H t) = none
    rw [if_neg (by omega)]
    exact h.fut t ht
theorem TimesI.deed (h : TimesI H D) {ok : Bool} {body : DiskV → DiskV → Nat → Prop} (hb : ∀ D1 D2 k, TimesI H D1 → body D1 D2 k → TimesI H D2) (hd : DeedR D ok body D' k) : TimesI H D' := by
  have hc : TimesI H (countV D) := ⟨h.lt, h.uniq, h.seen, h.fut⟩
  rcases hd with ⟨_, rfl, _⟩ | ⟨_, _, rfl, _⟩ | ⟨_, _, ⟨_, rfl, _⟩ | ⟨_, hd⟩⟩
  · exact h
  · exact ⟨h.lt, h.uniq, h.seen, h.fut⟩
  · exact hc
  · exact hb (countV D) D' k hc hd
theorem TimesI.turns (h : TimesI H D) {c : ChV} (hc : ∀ i, c.dst = some i → Has D i) : TimesI H (turnsV D c) :=
  h.same (fun j hj => (has_turns hj).elim id (hc j)) (fun _ _ => ⟨rfl, rfl⟩) (Nat.le_refl _)
theorem TimesI.fresh (h : TimesI H D) {name : ByteArray} {xs : List Int} (hd : FreshR name xs D D' k) : TimesI H D' := by
  rcases hd with ⟨_, rfl, _⟩ | ⟨_, _, j, hj, rfl⟩
  · exact h
  · exact h.stamp (i := j) (f := ⟨xs, 0, D.clock⟩) (fun q hq => (has_turns hq).elim .inl (fun e => .inr (Option.some.inj e).symm)) rfl rfl rfl
theorem TimesI.append (h : TimesI H D) {name : ByteArray} {xs : List Int} (hd : AppendR name xs D D' k) : TimesI H D' := by
  unfold AppendR at hd
  split at hd
  · exact h.fresh hd
  · rename_i j hj
    rcases hd with ⟨_, rfl, _⟩ | ⟨_, _, rfl⟩
    · exact h
    · exact h.stamp (i := j) (f := ⟨(D.fs j).b ++ xs, (D.fs j).sure, D.clock⟩) (fun q hq => .inl hq) rfl rfl rfl
theorem TimesI.there (h : TimesI H D) {name : ByteArray} {body : Nat → DiskV → DiskV → Nat → Prop} (hb : ∀ j, Has D j → body j D D' k → TimesI H D') (hd : ThereR name body D D' k) : TimesI H D' := by
  unfold ThereR at hd
  split at hd
  · rw [hd.1]; exact h
  · rename_i j hj
    exact hb j (has_dir hj) hd
theorem TimesI.cut (h : TimesI H D) {j : Nat} {n : Int} (hd : CutR n j D D' k) : TimesI H D' := by
  rcases hd with ⟨_, rfl, _⟩ | ⟨_, _, _, rfl⟩
  · exact h
  · exact h.stamp (i := j) (f := ⟨(D.fs j).b.take n.toNat, min (D.fs j).sure n.toNat, D.clock⟩) (fun q hq => .inl hq) rfl rfl rfl
theorem TimesI.sync (h : TimesI H D) {j : Nat} (hd : SyncR j D D' k) : TimesI H D' := by
  rw [hd.1]
  refine h.same (fun q hq => hq) (fun q _ => ?_) (Nat.le_refl _)
  show (upd D.fs j _ q).b = _ ∧ (upd D.fs j _ q).time = _
  by_cases e : q = j
  · rw [e, upd_same]; exact ⟨rfl, rfl⟩
  · rw [upd_other e]; exact ⟨rfl, rfl⟩
theorem TimesI.syncDir (h : TimesI H D) (hd : SyncDirR D D' k) : TimesI H D' := by
  rw [hd.1]
  exact h.same (fun q hq => by
    rcases hq with hq | hq | ⟨c, hc, _⟩
    · exact .inl hq
    · exact .inl hq
    · cases hc) (fun _ _ => ⟨rfl, rfl⟩) (Nat.le_refl _)
theorem has_kept {n : Int} {j : Nat} (h : Has { D with dir := keptV D n } j) : Has D j := by
  rcases h with ⟨s, hs⟩ | h | h
  · rcases mem_foldl hs with h1 | ⟨c, hc, _, h1⟩
    · exact .inr (.inl ⟨s, h1⟩)
    · exact .inr (.inr ⟨c, List.mem_of_mem_take hc, h1⟩)
  · exact .inr (.inl h)
  · exact .inr (.inr h)
theorem has_cutsV {i : Nat} {t : Int} {j : Nat} (h : Has (cutsV D i t) j) : Has D j := by
  obtain ⟨e1, e2, e3, _⟩ := cutsV_dir D i t
  unfold Has at h ⊢
  rwa [e1, e2, e3] at h
theorem TimesI.cutsV (h : TimesI H D) (i : Nat) (t : Int) : TimesI H (cutsV D i t) := by
  by_cases hc : (D.fs i).sure + min (max t 0).toNat ((D.fs i).b.length - (D.fs i).sure) < (D.fs i).b.length
  · exact h.stamp (i := i) (f := ⟨(D.fs i).b.take ((D.fs i).sure + min (max t 0).toNat ((D.fs i).b.length - (D.fs i).sure)), (D.fs i).sure + min (max t 0).toNat ((D.fs i).b.length - (D.fs i).sure), D.clock⟩) (fun q hq => .inl (has_cutsV hq)) (by unfold Dk.cutsV; simp only; rw [if_pos hc]) rfl (by unfold Dk.cutsV; simp only; rw [if_pos hc])
  · refine h.same (fun q hq => has_cutsV hq) (fun q _ => ?_) (cutsV_dir D i t).2.2.2.2.2
    have e : (Dk.cutsV D i t).fs = upd D.fs i ⟨(D.fs i).b, (D.fs i).b.length, (D.fs i).time⟩ := by unfold Dk.cutsV; simp only; rw [if_neg hc]
    rw [e]
    by_cases e : q = i
    · rw [e, upd_same]; exact ⟨rfl, rfl⟩
    · rw [upd_other e]; exact ⟨rfl, rfl⟩
theorem TimesI.cutsAll {tails : List Int} : ∀ {L : Dir} {D : DiskV} {k : Nat}, TimesI H D → TimesI H (cutsAll D tails L k)
  | [], _, _, h => h
  | p :: L, D, k, h => TimesI.cutsAll (L := L) (h.cutsV p.2 (tailOf tails k))
theorem TimesI.restart (h : TimesI H D) (n : Int) (tails : List Int) : TimesI H (restartV D n tails) := by
  have h1 : TimesI H { D with dir := keptV D n } := h.same (fun j hj => has_kept hj) (fun _ _ => ⟨rfl, rfl⟩) (Nat.le_refl _)
  have h2 : TimesI H (Dk.cutsAll { D with dir := keptV D n } tails (keptV D n) 0) := h1.cutsAll
  refine h2.same (fun j hj => ?_) (fun _ _ => ⟨rfl, rfl⟩) (Nat.le_refl _)
  rcases hj with hq | hq | ⟨c, hc, _⟩
  · exact .inl hq
  · exact .inl hq
  · cases hc
theorem TimesI.arm (h : TimesI H D) (n : Int) : TimesI H (armV D n) := ⟨h.lt, h.uniq, h.seen, h.fut⟩
theorem TimesI.new (q : Nat) (fs : Nat → FileV) : TimesI (fun _ => none) (newV q fs) := by
  have hno : ∀ i, ¬ Has (newV q fs) i := fun i hi => by
    rcases hi with ⟨s, hs⟩ | ⟨s, hs⟩ | ⟨d, hd, _⟩
    · cases hs
    · cases hs
    · cases hd
  exact ⟨fun i hi => absurd hi (hno i), fun i j hi => absurd hi (hno i), fun i c hi => absurd hi (hno i), fun _ _ => rfl⟩
end
/-! ### Acts -/
def ActR (right : ByteArray → Bool) (what : Nat) (name dest : ByteArray) (xs : List Int) (n : Int) (D D' : DiskV) (k : Nat) : Prop :=
  match what with
  | 0 => DeedR D (right name) (FreshR name xs) D' k
  | 1 => DeedR D (right name) (AppendR name xs) D' k
  | 2 => DeedR D (right name) (ThereR name (CutR n)) D' k
  | 3 => DeedR D (right name && right dest) (ThereR name (RenameR name dest)) D' k
  | 4 => DeedR D (right name) (ThereR name (RemoveR name)) D' k
  | 5 => DeedR D (right name) (ThereR name SyncR) D' k
  | _ => DeedR D true SyncDirR D' k
theorem TimesI.act {right : ByteArray → Bool} {H : Nat → Option (List Int)} {D D' : DiskV} {what k : Nat} {name dest : ByteArray} {xs : List Int} {n : Int} (h : TimesI H D) (hd : ActR right what name dest xs n D D' k) : TimesI H D' := by
  unfold ActR at hd
  split at hd
  · exact h.deed (fun _ _ _ h h2 => h.fresh h2) hd
  · exact h.deed (fun _ _ _ h h2 => h.append h2) hd
  · exact h.deed (fun _ _ _ h h2 => h.there (fun j _ h3 => h.cut h3) h2) hd
  · exact h.deed (fun _ _ _ h h2 => h.there (fun j hj h3 => by rw [h3.1]; exact h.turns fun i e => by rw [← Option.some.inj e]; exact hj) h2) hd
  · exact h.deed (fun _ _ _ h h2 => h.there (fun j _ h3 => by rw [h3.1]; exact h.turns fun i e => by cases e) h2) hd
  · exact h.deed (fun _ _ _ h h2 => h.there (fun j _ h3 => h.sync h3) h2) hd
  · exact h.deed (fun _ _ _ h h2 => h.syncDir h2) hd
theorem SureI.act {right : ByteArray → Bool} {nm : ByteArray} {b : List Int} {t i : Nat} {D D' : DiskV} {what k : Nat} {name dest : ByteArray} {xs : List Int} {n : Int} (h : SureI nm b t i D) (h1 : name ≠ nm) (h2 : dest ≠ nm) (hd : ActR right what name dest xs n D D' k) : SureI nm b t i D' := by
  unfold ActR at hd
  split at hd
  · exact h.deed (fun _ _ _ h h2 => h.fresh h1 h2) hd
  · exact h.deed (fun _ _ _ h h2 => h.append h1 h2) hd
  · exact h.deed (fun _ _ _ h h2 => h.there h1 (fun j hj h3 => h.cut hj h3) h2) hd
  · exact h.deed (fun _ _ _ h h3 => h.there h1 (fun j hj h4 => by rw [h4.1]; exact h.turns h2 h1 (fun e => hj (Option.some.inj e))) h3) hd
  · exact h.deed (fun _ _ _ h h3 => h.there h1 (fun j hj h4 => by rw [h4.1]; exact h.turns h.ne h1 (fun e => by cases e)) h3) hd
  · exact h.deed (fun _ _ _ h h3 => h.there h1 (fun j hj h4 => by rw [h4.1]; exact h.upd hj _) h3) hd
  · exact h.deed (fun _ _ _ h h3 => h.syncDir h3) hd
/-! ### A disk with one file -/
structure OneI (q : Nat) (f : ByteArray) (j : Nat) (v : FileV) (sy : Bool) (D : DiskV) : Prop where
  dir : D.dir = [(f, j)]
  file : D.fs j = v
  down : D.down = false
  quota : D.quota = q
  clock : v.time < D.clock
  sy : if sy = true then D.sure = [(f, j)] ∧ D.pend = [] else D.sure = [] ∧ D.pend = [⟨f, some j, noName⟩]
structure NoneI (q : Nat) (D : DiskV) : Prop where
  dir : D.dir = []
  sure : D.sure = []
  pend : D.pend = []
  down : D.down = false
  quota : D.quota = q
theorem look_one (f : ByteArray) (j : Nat) : look [(f, j)] f = some j := by unfold look; rw [if_pos rfl]
theorem used_one {D : DiskV} {f : ByteArray} {j : Nat} (h : D.dir = [(f, j)]) : usedV D = (D.fs j).b.length := by unfold usedV; rw [h]; simp
theorem chDo_one {f : ByteArray} (hf : f ≠ noName) (j : Nat) : chDo [] ⟨f, some j, noName⟩ = [(f, j)] := by
  unfold chDo
  simp only [if_true]
  rw [if_neg hf]
  rfl
theorem DeedR.up {D D' : DiskV} {body : DiskV → DiskV → Nat → Prop} {k : Nat} (h : DeedR D true body D' k) (h1 : D.down = false) (h2 : D.armed ≠ 0) : body (countV D) D' k := by
  rcases h with ⟨h, _⟩ | ⟨_, h, _⟩ | ⟨_, _, ⟨h, _⟩ | ⟨_, h⟩⟩
  · rw [h1] at h; cases h
  · exact absurd h h2
  · cases h
  · exact h
theorem DeedR.dead {D D' : DiskV} {ok : Bool} {body : DiskV → DiskV → Nat → Prop} {k : Nat} (h : DeedR D ok body D' k) (h1 : D.down = true ∨ D.armed = 0) : D' = { D with down := true } ∧ k = 8 := by
  rcases h with ⟨h, e, hk⟩ | ⟨_, _, e, hk⟩ | ⟨h, h2, _⟩
  · refine ⟨?_, hk⟩
    rw [e]
    cases D
    simp only at h
    rw [h]
  · exact ⟨e, hk⟩
  · rcases h1 with h1 | h1
    · rw [h] at h1; cases h1
    · exact absurd h1 h2
section
variable {q : Nat} {D D' : DiskV} {k : Nat} {f : ByteArray} {j : Nat} {v : FileV} {sy : Bool}
theorem fits_none (h : NoneI q D) {n : Nat} (hn : n ≤ 65536) (hq : n ≤ q) : fitsV D f n = 0 := by
  have hl : look D.dir f = none := by rw [h.dir]; rfl
  have hu : usedV D = 0 := by unfold usedV; rw [h.dir]; rfl
  unfold fitsV
  rw [if_neg (by rw [h.dir]; simp; omega), hl, hu, if_neg (by rw [h.quota]; omega)]
theorem fits_one (h : OneI q f j v sy D) {n : Nat} (hn : n ≤ 65536) (hq : n ≤ q) : fitsV D f n = 0 := by
  have hl : look D.dir f = some j := by rw [h.dir]; exact look_one f j
  unfold fitsV
  rw [if_neg (by rw [hl]; simp; omega), hl]
  simp only
  rw [used_one h.dir, if_neg (by rw [h.quota]; omega)]
theorem NoneI.fresh (h : NoneI q D) {xs : List Int} (hx : xs.length ≤ 65536) (hq : xs.length ≤ q) (hf : f ≠ noName) (hd : FreshR f xs D D' k) : k = 0 ∧ ∃ j, OneI q f j ⟨xs, 0, D.clock⟩ false D' ∧ D'.armed = D.armed ∧ D'.deeds = D.deeds := by
  rcases hd with ⟨h1, _⟩ | ⟨_, hk, j, hj, rfl⟩
  · exact absurd (fits_none h hx hq) h1
  · refine ⟨hk, j, ⟨?_, upd_same, h.down, h.quota, Nat.lt_succ_self _, ?_⟩, rfl, rfl⟩
    · show chDo D.dir ⟨f, some j, noName⟩ = _
      rw [h.dir, chDo_one hf]
    · rw [if_neg (by decide)]
      refine ⟨h.sure, ?_⟩
      show D.pend ++ _ = _
      rw [h.pend]
      rfl
theorem NoneI.append (h : NoneI q D) {xs : List Int} (hx : xs.length ≤ 65536) (hq : xs.length ≤ q) (hf : f ≠ noName) (hd : AppendR f xs D D' k) : k = 0 ∧ ∃ j, OneI q f j ⟨xs, 0, D.clock⟩ false D' ∧ D'.armed = D.armed ∧ D'.deeds = D.deeds := by
  unfold AppendR at hd
  have hl : look D.dir f = none := by rw [h.dir]; rfl
  rw [hl] at hd
  exact h.fresh hx hq hf hd
theorem OneI.append (h : OneI q f j v sy D) {xs : List Int} (hx : v.b.length + xs.length ≤ 65536) (hq : v.b.length + xs.length ≤ q) (hd : AppendR f xs D D' k) : k = 0 ∧ OneI q f j ⟨v.b ++ xs, v.sure, D.clock⟩ sy D' ∧ D'.armed = D.armed ∧ D'.deeds = D.deeds := by
  unfold AppendR at hd
  have hl : look D.dir f = some j := by rw [h.dir]; exact look_one f j
  rw [hl] at hd
  simp only at hd
  rw [h.file] at hd
  rcases hd with ⟨h1, _⟩ | ⟨_, hk, rfl⟩
  · exact absurd (fits_one h hx hq) h1
  · exact ⟨hk, ⟨h.dir, upd_same, h.down, h.quota, Nat.lt_succ_self _, h.sy⟩, rfl, rfl⟩
theorem OneI.sync (h : OneI q f j v sy D) (hd : ThereR f SyncR D D' k) : k = 0 ∧ OneI q f j ⟨v.b, v.b.length, v.time⟩ sy D' ∧ D'.armed = D.armed ∧ D'.deeds = D.deeds := by
  unfold ThereR at hd
  have hl : look D.dir f = some j := by rw [h.dir]; exact look_one f j
  rw [hl] at hd
  obtain ⟨rfl, hk⟩ := hd
  exact ⟨hk, ⟨h.dir, by show upd D.fs j _ j = _; rw [upd_same, h.file], h.down, h.quota, h.clock, h.sy⟩, rfl, rfl⟩
theorem OneI.syncDir (h : OneI q f j v sy D) (hd : SyncDirR D D' k) : k = 0 ∧ OneI q f j v true D' ∧ D'.armed = D.armed ∧ D'.deeds = D.deeds := by
  obtain ⟨rfl, hk⟩ := hd
  exact ⟨hk, ⟨h.dir, h.file, h.down, h.quota, h.clock, by rw [if_pos rfl]; exact ⟨h.dir, rfl⟩⟩, rfl, rfl⟩
theorem OneI.count (h : OneI q f j v sy D) : OneI q f j v sy (countV D) := ⟨h.dir, h.file, h.down, h.quota, h.clock, h.sy⟩
theorem NoneI.count (h : NoneI q D) : NoneI q (countV D) := ⟨h.dir, h.sure, h.pend, h.down, h.quota⟩
theorem OneI.arm (h : OneI q f j v sy D) (n : Int) : OneI q f j v sy (armV D n) := ⟨h.dir, h.file, h.down, h.quota, h.clock, h.sy⟩
theorem NoneI.arm (h : NoneI q D) (n : Int) : NoneI q (armV D n) := ⟨h.dir, h.sure, h.pend, h.down, h.quota⟩
theorem NoneI.new (q : Nat) (fs : Nat → FileV) : NoneI q (newV q fs) := ⟨rfl, rfl, rfl, rfl, rfl⟩
theorem OneI.toSure (h : OneI q f j v true D) (hf : noName ≠ f) (hv : v.sure = v.b.length) : SureI f v.b v.time j D := by
  have hs := h.sy
  rw [if_pos rfl] at hs
  have ho : OwnD [(f, j)] f j := ⟨List.pairwise_singleton _ _, look_one f j, fun s hs => by simpa using hs⟩
  refine ⟨hf, by rw [hs.1]; exact ho, by rw [h.dir]; exact ho, (by rw [hs.2]; exact fun c hc => by cases hc), by rw [h.file, ← hv]⟩
/-- What is kept of one file. -/
theorem OneI.restart (h : OneI q f j v sy D) (hf : f ≠ noName) (n : Int) (tails : List Int) (hn : sy = true ∨ 1 ≤ n) (m : Nat) (hm : m = v.sure + min (max (tailOf tails 0) 0).toNat (v.b.length - v.sure)) :
    OneI q f j (if m < v.b.length then ⟨v.b.take m, m, D.clock⟩ else ⟨v.b, v.b.length, v.time⟩) true (restartV D n tails) := by
  have hk : keptV D n = [(f, j)] := by
    have hs := h.sy
    unfold keptV
    cases sy with
    | true =>
      rw [if_pos rfl] at hs
      rw [hs.1, hs.2, List.take_nil]
      rfl
    | false =>
      rw [if_neg (by decide)] at hs
      rcases hn with hn | hn
      · cases hn
      · rw [hs.1, hs.2]
        have e : min (max n 0).toNat [(⟨f, some j, noName⟩ : ChV)].length = 1 := by simp; omega
        rw [e]
        show chDo [] _ = _
        exact chDo_one hf j
  obtain ⟨e1, e2, e3, e4, e5, e6, e7⟩ := restart_dir D n tails
  have hfs : (restartV D n tails).fs = (cutsV { D with dir := [(f, j)] } j (tailOf tails 0)).fs ∧ (restartV D n tails).clock = (cutsV { D with dir := [(f, j)] } j (tailOf tails 0)).clock := by
    unfold restartV
    rw [hk]
    exact ⟨rfl, rfl⟩
  have hc : (restartV D n tails).fs j = (if m < v.b.length then ⟨v.b.take m, m, D.clock⟩ else ⟨v.b, v.b.length, v.time⟩) ∧ (restartV D n tails).clock = (if m < v.b.length then D.clock + 1 else D.clock) := by
    rw [hfs.1, hfs.2]
    unfold cutsV
    simp only
    rw [h.file, ← hm]
    by_cases hl : m < v.b.length
    · rw [if_pos hl, if_pos hl, if_pos hl]
      exact ⟨upd_same, rfl⟩
    · rw [if_neg hl, if_neg hl, if_neg hl]
      exact ⟨upd_same, rfl⟩
  refine ⟨by rw [e1, hk], hc.1, e5, by rw [e6]; exact h.quota, ?_, ?_⟩
  · rw [hc.2]
    split
    · exact Nat.lt_succ_self _
    · exact h.clock
  · rw [if_pos rfl, e2, hk]
    exact ⟨rfl, e3⟩
theorem NoneI.restart (h : NoneI q D) (n : Int) (tails : List Int) : NoneI q (restartV D n tails) := by
  have hk : keptV D n = [] := by
    unfold keptV
    rw [h.sure, h.pend]
    simp
  obtain ⟨e1, e2, e3, e4, e5, e6, e7⟩ := restart_dir D n tails
  exact ⟨by rw [e1, hk], by rw [e2, hk], e3, e5, by rw [e6]; exact h.quota⟩
end
section
variable {q : Nat} {D D' : DiskV} {k : Nat} {f : ByteArray} {j : Nat} {v : FileV} {sy ok : Bool}
theorem NoneI.writeD (h : NoneI q D) (ha : D.armed ≠ 0) (hok : ok = true) {xs : List Int} (hx : xs.length ≤ 65536) (hq : xs.length ≤ q) (hf : f ≠ noName) (hd : DeedR D ok (FreshR f xs) D' k) : k = 0 ∧ ∃ j, OneI q f j ⟨xs, 0, D.clock⟩ false D' ∧ D'.armed = (countV D).armed ∧ D'.deeds = D.deeds + 1 := by
  subst hok
  exact h.count.fresh hx hq hf (hd.up h.down ha)
theorem NoneI.appendD (h : NoneI q D) (ha : D.armed ≠ 0) (hok : ok = true) {xs : List Int} (hx : xs.length ≤ 65536) (hq : xs.length ≤ q) (hf : f ≠ noName) (hd : DeedR D ok (AppendR f xs) D' k) : k = 0 ∧ ∃ j, OneI q f j ⟨xs, 0, D.clock⟩ false D' ∧ D'.armed = (countV D).armed ∧ D'.deeds = D.deeds + 1 := by
  subst hok
  exact h.count.append hx hq hf (hd.up h.down ha)
theorem OneI.appendD (h : OneI q f j v sy D) (ha : D.armed ≠ 0) (hok : ok = true) {xs : List Int} (hx : v.b.length + xs.length ≤ 65536) (hq : v.b.length + xs.length ≤ q) (hd : DeedR D ok (AppendR f xs) D' k) : k = 0 ∧ OneI q f j ⟨v.b ++ xs, v.sure, D.clock⟩ sy D' ∧ D'.armed = (countV D).armed ∧ D'.deeds = D.deeds + 1 := by
  subst hok
  exact h.count.append hx hq (hd.up h.down ha)
theorem OneI.syncD (h : OneI q f j v sy D) (ha : D.armed ≠ 0) (hok : ok = true) (hd : DeedR D ok (ThereR f SyncR) D' k) : k = 0 ∧ OneI q f j ⟨v.b, v.b.length, v.time⟩ sy D' ∧ D'.armed = (countV D).armed ∧ D'.deeds = D.deeds + 1 := by
  subst hok
  exact h.count.sync (hd.up h.down ha)
theorem OneI.syncDirD (h : OneI q f j v sy D) (ha : D.armed ≠ 0) (hd : DeedR D true SyncDirR D' k) : k = 0 ∧ OneI q f j v true D' ∧ D'.armed = (countV D).armed ∧ D'.deeds = D.deeds + 1 := h.count.syncDir (hd.up h.down ha)
theorem count_minus {D : DiskV} (h : D.armed = -1) : (countV D).armed = -1 := by
  unfold countV
  show (if 0 < D.armed then D.armed - 1 else D.armed) = -1
  rw [h]
  rfl
theorem count_plus {D : DiskV} (h : 0 < D.armed) : (countV D).armed = D.armed - 1 := by
  unfold countV
  show (if 0 < D.armed then D.armed - 1 else D.armed) = _
  rw [if_pos h]
end
/-! ### A renaming -/
/-- f leads to a whole old file, or (behind the last change alone) to a whole new one. -/
structure RenI (f : ByteArray) (b thn : List Int) (D : DiskV) : Prop where
  ex : ∃ i j P c t u, OwnD D.sure f i ∧ D.pend = P ++ [c] ∧ (∀ c ∈ P, c.name ≠ f ∧ c.gone ≠ f ∧ c.dst ≠ some i) ∧ c.name = f ∧ c.dst = some j ∧ D.fs i = ⟨b, b.length, t⟩ ∧ D.fs j = ⟨thn, thn.length, u⟩ ∧ f ≠ noName
theorem look_chDo_put {L : Dir} (h : UpD L) {c : ChV} {j : Nat} (hn : c.name ≠ noName) (hd : c.dst = some j) : look (chDo L c) c.name = some j := by
  unfold chDo
  simp only
  rw [if_neg hn, hd]
  simp only
  rw [look_putD (by split; exact h; exact delD_up h _), if_pos rfl]
theorem RenI.restart {f : ByteArray} {b thn : List Int} {D : DiskV} (h : RenI f b thn D) (n : Int) (tails : List Int) : ∃ i x, look (restartV D n tails).dir f = some i ∧ ((restartV D n tails).fs i).b = x ∧ (x = b ∨ x = thn) := by
  obtain ⟨i, j, P, c, t, u, ho, hp, hP, hc, hd, hi, hj, hf⟩ := h.ex
  obtain ⟨e1, _⟩ := restart_dir D n tails
  rw [e1]
  unfold keptV
  rw [hp]
  obtain ⟨m, hm⟩ : ∃ m, m = min (max n 0).toNat (P ++ [c]).length := ⟨_, rfl⟩
  rw [← hm]
  by_cases hl : m ≤ P.length
  · refine ⟨i, b, ?_, ?_, .inl rfl⟩
    · rw [List.take_append_of_le_length hl]
      exact (ho.foldl fun d hd => hP d (List.mem_of_mem_take hd)).at_
    · rw [restart_fs (by rw [hi]), hi]
  · refine ⟨j, thn, ?_, ?_, .inr rfl⟩
    · rw [List.take_of_length_le (by rw [List.length_append, List.length_singleton]; omega), List.foldl_append]
      show look (chDo _ c) f = _
      rw [← hc]
      exact look_chDo_put (foldl_up ho.up) (hc ▸ hf) hd
    · rw [restart_fs (by rw [hj]), hj]
/-- The new file is there, apart. -/
structure NewI (f g : ByteArray) (b thn : List Int) (s t i : Nat) (D : DiskV) : Prop where
  base : SureI f b t i D
  at_ : ∃ j u, look D.dir g = some j ∧ D.fs j = ⟨thn, s, u⟩
theorem NewI.write {f g : ByteArray} {b thn : List Int} {t i : Nat} {D D' : DiskV} {k : Nat} (h : SureI f b t i D) (hg : g ≠ f) (hg0 : g ≠ noName) (hk : k = 0) (hd : FreshR g thn D D' k) : NewI f g b thn 0 t i D' := by
  refine ⟨h.fresh hg hd, ?_⟩
  rcases hd with ⟨h1, _, h2⟩ | ⟨_, _, j, hj, rfl⟩
  · exact absurd (h2.symm.trans hk) h1
  · exact ⟨j, D.clock, look_chDo_put (c := ⟨g, some j, noName⟩) h.dir.up hg0 rfl, upd_same⟩
theorem NewI.sync {f g : ByteArray} {b thn : List Int} {t i s : Nat} {D D' : DiskV} {k : Nat} (h : NewI f g b thn s t i D) (hg : g ≠ f) (hd : ThereR g SyncR D D' k) : NewI f g b thn thn.length t i D' := by
  refine ⟨h.base.there hg (fun j hj h4 => by rw [h4.1]; exact h.base.upd hj _) hd, ?_⟩
  obtain ⟨j, u, hl, hf⟩ := h.at_
  unfold ThereR at hd
  rw [hl] at hd
  obtain ⟨rfl, _⟩ := hd
  exact ⟨j, u, hl, by show upd D.fs j _ j = _; rw [upd_same, hf]⟩
theorem NewI.rename {f g : ByteArray} {b thn : List Int} {t i : Nat} {D D' : DiskV} {k : Nat} (h : NewI f g b thn thn.length t i D) (hd : ThereR g (RenameR g f) D D' k) : RenI f b thn D' ∧ ∃ j u, look D'.dir f = some j ∧ D'.fs j = ⟨thn, thn.length, u⟩ := by
  obtain ⟨j, u, hl, hf⟩ := h.at_
  unfold ThereR at hd
  rw [hl] at hd
  obtain ⟨rfl, _⟩ := hd
  refine ⟨⟨i, j, D.pend, ⟨f, some j, g⟩, t, u, h.base.own, rfl, h.base.pend, rfl, rfl, h.base.file, hf, Ne.symm h.base.ne⟩, j, u, look_chDo_put (c := ⟨f, some j, g⟩) h.base.dir.up (Ne.symm h.base.ne) rfl, hf⟩
theorem RenI.down {f : ByteArray} {b thn : List Int} {D : DiskV} (h : RenI f b thn D) (x : Bool) : RenI f b thn { D with down := x } := ⟨h.ex⟩
end Go.Proofs.YtononoakdebjeaaGreatDoor.Dk
