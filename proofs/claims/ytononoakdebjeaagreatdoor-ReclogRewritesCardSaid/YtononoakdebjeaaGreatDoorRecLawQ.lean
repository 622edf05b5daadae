/- A log over a disk, plainly: names, rewriting, what is sure. -/
import Derived.Test.YtononoakdebjeaaGreatDoorRecLawP
import Derived.Test.YtononoakdebjeaaGreatDoorRecFile
namespace Go.Proofs.YtononoakdebjeaaGreatDoor.Rec
open Go.RowKit Go.Proofs.YtononoakdebjeaaGreatDoorW.PrintWords Go.Proofs.YtononoakdebjeaaGreatDoorW.PrintLast Go.Proofs.YtononoakdebjeaaGreatDoor.Base Go.Proofs.YtononoakdebjeaaGreatDoor.Path Go.Proofs.YtononoakdebjeaaGreatDoor.Pack Go.Proofs.YtononoakdebjeaaGreatDoor.Dk Go.Maps
set_option linter.unusedVariables false
set_option linter.unusedSimpArgs false
/-! ### All names are among a few -/
structure NamI (Ns : List ByteArray) (D : DiskV) : Prop where
  sure : ∀ p ∈ D.sure, p.1 ∈ Ns
  pend : ∀ c ∈ D.pend, c.name ∈ Ns
theorem up_len : ∀ {L : Dir} {Ns : List ByteArray}, UpD L → (∀ p ∈ L, p.1 ∈ Ns) → L.length ≤ Ns.length
  | [], Ns, _, _ => Nat.zero_le _
  | p :: L, Ns, hu, hs => by
    unfold UpD at hu
    rw [List.pairwise_cons] at hu
    have hp := hs p (.head _)
    have h : L.length ≤ (Ns.filter fun s => !decide (s = p.1)).length := up_len (L := L) hu.2 (fun q hq => by
      have h1 := hs q (.tail _ hq)
      have h2 : q.1 ≠ p.1 := fun e => by
        have h3 := hu.1 q hq
        rw [e, nlt_irrefl] at h3
        cases h3
      exact List.mem_filter.2 ⟨h1, by simp [h2]⟩)
    have h3 : (Ns.filter fun s => !decide (s = p.1)).length < Ns.length := List.length_filter_lt_length_iff_exists.2 ⟨p.1, hp, by simp⟩
    rw [List.length_cons]
    omega
section
variable {Ns : List ByteArray} {D D' : DiskV} {k : Nat} {c : Nat}
theorem NamI.dirs (h : NamI Ns D) (ho : OkD c D) : ∀ p ∈ D.dir, p.1 ∈ Ns := fun p hp => by
  rw [ho.dirE] at hp
  rcases mem_foldl hp with hp | ⟨d, hd, e, _⟩
  · exact h.sure p hp
  · rw [e]; exact h.pend d hd
theorem NamI.len (h : NamI Ns D) (ho : OkD c D) : D.dir.length ≤ Ns.length := up_len ho.dirUp (h.dirs ho)
theorem NamI.new (q : Nat) (fs : Nat → FileV) : NamI Ns (newV q fs) := ⟨fun p hp => (by cases hp), fun p hp => (by cases hp)⟩
theorem NamI.same (h : NamI Ns D) (h1 : D'.sure = D.sure) (h2 : D'.pend = D.pend) : NamI Ns D' := ⟨by rw [h1]; exact h.sure, by rw [h2]; exact h.pend⟩
theorem NamI.turns (h : NamI Ns D) {ch : ChV} (hc : ch.name ∈ Ns) : NamI Ns (turnsV D ch) := ⟨h.sure, fun d hd => by
  rcases List.mem_append.1 hd with hd | hd
  · exact h.pend d hd
  · rw [List.mem_singleton.1 hd]; exact hc⟩
theorem NamI.deed (h : NamI Ns D) {ok : Bool} {body : DiskV → DiskV → Nat → Prop} (hb : ∀ k, body (countV D) D' k → NamI Ns D') (hd : DeedR D ok body D' k) : NamI Ns D' := by
  rcases hd with ⟨_, rfl, _⟩ | ⟨_, _, rfl, _⟩ | ⟨_, _, ⟨_, rfl, _⟩ | ⟨_, hd⟩⟩
  · exact h
  · exact h.same rfl rfl
  · exact h.same rfl rfl
  · exact hb _ hd
theorem NamI.fresh (h : NamI Ns D) {s : ByteArray} {xs : List Int} (hs : s ∈ Ns) (hd : FreshR s xs D D' k) : NamI Ns D' := by
  rcases hd with ⟨_, rfl, _⟩ | ⟨_, _, j, _, rfl⟩
  · exact h
  · exact (h.same (D' := tickV { D with fs := upd D.fs j ⟨xs, 0, D.clock⟩ }) rfl rfl).turns (ch := ⟨s, some j, noName⟩) hs
theorem NamI.append (h : NamI Ns D) {s : ByteArray} {xs : List Int} (hs : s ∈ Ns) (hd : AppendR s xs D D' k) : NamI Ns D' := by
  unfold AppendR at hd
  split at hd
  · exact h.fresh hs hd
  · rcases hd with ⟨_, rfl, _⟩ | ⟨_, _, rfl⟩
    · exact h
    · exact h.same rfl rfl
theorem NamI.there (h : NamI Ns D) {s : ByteArray} {body : Nat → DiskV → DiskV → Nat → Prop} (hb : ∀ i, body i D D' k → NamI Ns D') (hd : ThereR s body D D' k) : NamI Ns D' := by
  unfold ThereR at hd
  split at hd
  · rw [hd.1]; exact h
  · exact hb _ hd
theorem NamI.cut (h : NamI Ns D) {n : Int} {i : Nat} (hd : CutR n i D D' k) : NamI Ns D' := by
  rcases hd with ⟨_, rfl, _⟩ | ⟨_, _, _, rfl⟩
  · exact h
  · exact h.same rfl rfl
theorem NamI.sync (h : NamI Ns D) {i : Nat} (hd : SyncR i D D' k) : NamI Ns D' := by
  rw [hd.1]; exact h.same rfl rfl
theorem NamI.syncDir (h : NamI Ns D) (ho : OkD c D) (hd : SyncDirR D D' k) : NamI Ns D' := by
  rw [hd.1]; exact ⟨h.dirs ho, fun d hd => (by cases hd)⟩
theorem NamI.restart (h : NamI Ns D) (n : Int) (tails : List Int) : NamI Ns (restartV D n tails) := by
  obtain ⟨_, e2, e3, _⟩ := restart_dir D n tails
  refine ⟨fun p hp => ?_, fun d hd => by rw [e3] at hd; cases hd⟩
  rw [e2] at hp
  rcases mem_foldl hp with hp | ⟨d, hd, e, _⟩
  · exact h.sure p hp
  · rw [e]; exact h.pend d (List.mem_of_mem_take hd)
theorem NamI.open_ (h : NamI Ns D) {kd : Int} {nm : ByteArray} {rs : List (List Int)} (h0 : noName ∈ Ns) (h1 : nm ∈ Ns) (ho : OpenR kd nm D D' k rs) : NamI Ns D' := by
  obtain ⟨D1, k1, hs, ho⟩ := ho
  have hn : NamI Ns D1 := by
    rcases hs with ⟨_, rfl, _⟩ | ⟨_, _, hs⟩
    · exact h
    · exact h.deed (fun k hb => (h.same (D' := countV D) rfl rfl).there (fun i hr => by rw [hr.1]; exact (h.same (D' := countV D) rfl rfl).turns h0) hb) hs
  rcases ho with ⟨_, rfl, _⟩ | ⟨_, ho⟩
  · exact hn
  · rcases ho with ⟨_, rfl, _⟩ | ⟨_, _, rfl, _⟩ | ⟨_, _, _, ⟨_, ho⟩ | ⟨_, _, ho⟩ | ⟨_, _, rfl, _⟩⟩
    · exact hn
    · exact hn
    · exact hn.deed (fun k hb => (hn.same (D' := countV D1) rfl rfl).fresh h1 hb) ho
    · exact hn.deed (fun k hb => (hn.same (D' := countV D1) rfl rfl).there (fun i hr => (hn.same (D' := countV D1) rfl rfl).cut hr) hb) ho
    · exact hn
end
/-! ### What is scanned -/
theorem frs_eq (rs : List (List Int)) : frs rs = frames rs := by
  unfold frs frames
  rw [List.flatMap_def]
theorem scan_file (kd : Int) (rs : List (List Int)) (h : ∀ r ∈ rs, r.length ≤ 4096) (hb : AllBytes rs) : scanRes kd (fileBytes kd rs) = (rs, (fileBytes kd rs).length, 0) := by
  have e0 : (fileBytes kd rs).take 8 = headBytes kd := List.take_left' rfl
  have e1 : (fileBytes kd rs).drop 8 = frames rs := List.drop_left' rfl
  obtain ⟨s1, s2⟩ := scan_frames rs [] h hb
  rw [List.append_nil] at s1 s2
  have n0 : ¬ good [] := nil_bad
  rw [(scanRes_good e0).2, e1, s1, s2, scanAll_bad n0, scanEnd_bad n0, List.append_nil]
  unfold fileBytes
  rw [List.length_append]
  rfl
theorem file_len (kd : Int) (rs : List (List Int)) : (fileBytes kd rs).length = 8 + (frames rs).length := by unfold fileBytes; rw [List.length_append]; rfl
theorem frames_len {rs : List (List Int)} {m : Nat} (h : ∀ r ∈ rs, r.length ≤ m) : (frames rs).length ≤ (m + 8) * rs.length := by
  induction rs with
  | nil => simp [frames]
  | cons r rs ih =>
    have h1 := h r (.head _)
    have h2 := ih (fun q hq => h q (.tail _ hq))
    have e : (frames (r :: rs)).length = (frameBytes r).length + (frames rs).length := by simp [frames]
    rw [e, frameBytes_length, List.length_cons, Nat.mul_succ]
    omega
/-! ### Rewriting, and opening what is sure -/
section
variable {D D' : DiskV} {k : Nat} {nm fr : ByteArray} {xs : List Int}
theorem UpA.plain (h : Plain D) : Plain (countV D) := ⟨h.up, h.small⟩
/-- What rewriting turns, where the disk is up and has room. -/
theorem rew_told {c : Nat} (ho : OkD c D) (hu : UpA D) (hd : D.dir.length ≤ 9) (hq : 1048576 ≤ D.quota) (hr : rightB nm = true) (hr2 : rightB fr = true) (hn : nm ≠ noName) (hn2 : fr ≠ noName) (hne : fr ≠ nm) (hx : xs.length ≤ 65536) (h : RewR nm fr xs D D' k) :
    k = 0 ∧ UpA D' ∧ D'.quota = D.quota ∧ ∃ j t, SureI nm xs t j D' ∧ D'.pend = [] ∧ D'.sure = D'.dir ∧ ∀ p ∈ D'.dir, p.1 = nm ∨ ∃ q ∈ D.dir, q.1 = p.1 := by
  have hp : Plain (countV D) := UpA.plain (Plain.of ho)
  obtain ⟨D1, k1, h1, h⟩ := h
  obtain ⟨e1, j, t1⟩ := fresh_told hp hn2 (fits_zero hp hx (by show D.dir.length ≤ 10; omega) hq) (hu.deed hr2 h1)
  have u1 : UpA D1 := ⟨t1.down.trans hu.down, t1.armed.trans (count_minus hu.armed)⟩
  rcases h with ⟨h, _⟩ | ⟨_, D2, k2, h2, h⟩
  · exact absurd e1 h
  have h2 := u1.deed hr2 h2
  unfold ThereR at h2
  have l1 : Dk.look (countV D1).dir fr = some j := t1.at_
  rw [l1] at h2
  obtain ⟨e2, k2e⟩ := h2
  have u2 : UpA D2 := by rw [e2]; exact ⟨u1.down, count_minus u1.armed⟩
  rcases h with ⟨h, _⟩ | ⟨_, D3, k3, h3, h⟩
  · exact absurd k2e h
  have h3 := u2.deed (by rw [hr, hr2]; rfl) h3
  unfold ThereR at h3
  have l2 : Dk.look (countV D2).dir fr = some j := by rw [e2]; exact t1.at_
  rw [l2] at h3
  obtain ⟨e3, k3e⟩ := h3
  have u3 : UpA D3 := by rw [e3]; exact ⟨u2.down, count_minus u2.armed⟩
  rcases h with ⟨h, _⟩ | ⟨_, h4⟩
  · exact absurd k3e h
  obtain ⟨e4, k4e⟩ := u3.deed rfl h4
  obtain ⟨hup1, hdir1⟩ : UpD D1.dir ∧ ∀ p ∈ D1.dir, p.1 ≠ fr → p ∈ D.dir := by
    have hfr := hu.deed hr2 h1
    rcases hfr with ⟨hb, _⟩ | ⟨_, _, j', _, rfl⟩
    · exact absurd (fits_zero hp hx (by show D.dir.length ≤ 10; omega) hq) hb
    · exact ⟨chDo_up ho.dirUp _, fun p hp hn => (mem_chDo hp).elim id (fun h => absurd h.1 hn)⟩
  have d2 : D2.dir = D1.dir := by rw [e2]; rfl
  have d3 : D3.dir = putD (delD D1.dir fr) nm j := by
    rw [e3]
    show chDo D2.dir ⟨nm, some j, fr⟩ = _
    unfold chDo
    simp only
    rw [if_neg hn2, if_neg hn, d2]
  have d4 : D'.dir = putD (delD D1.dir fr) nm j := by rw [e4]; exact d3
  have f4 : D'.fs j = ⟨xs, xs.length, D.clock⟩ := by
    rw [e4]
    show D3.fs j = _
    rw [e3]
    show D2.fs j = _
    rw [e2]
    show upd D1.fs j _ j = _
    rw [upd_same]
    show (⟨(D1.fs j).b, (D1.fs j).b.length, (D1.fs j).time⟩ : FileV) = _
    rw [t1.file]
    rfl
  have only1 : ∀ s, (s, j) ∈ D1.dir → s = fr := fun s hs => by
    by_cases e : s = fr
    · exact e
    · exfalso
      have h5 := look_of_mem hup1 hs
      rw [t1.other s e] at h5
      exact t1.no (has_dir h5)
  have ho4 : OwnD D'.dir nm j := by
    rw [d4]
    refine ⟨putD_up (delD_up hup1 _) _ _, by rw [look_putD (delD_up hup1 _), if_pos rfl], fun s hs => ?_⟩
    rcases mem_putD.1 hs with hs | hs
    · have h6 := mem_delD.1 hs.1
      exact absurd (only1 s h6.1) h6.2
    · exact congrArg Prod.fst hs
  have s4 : D'.sure = D'.dir := by rw [e4]
  have p4 : D'.pend = [] := by rw [e4]
  refine ⟨k4e, by rw [e4]; exact ⟨u3.down, count_minus u3.armed⟩, ?_, j, D.clock, ⟨Ne.symm hn, by rw [s4]; exact ho4, ho4, by rw [p4]; exact fun c hc => (by cases hc), f4⟩, p4, s4, fun p hp => ?_⟩
  rotate_left
  · rw [d4] at hp
    rcases mem_putD.1 hp with hp | hp
    · have h6 := mem_delD.1 hp.1
      exact .inr ⟨p, hdir1 p h6.1 h6.2, rfl⟩
    · exact .inl (congrArg Prod.fst hp)
  rw [e4]
  show D3.quota = _
  rw [e3]
  show D2.quota = _
  rw [e2]
  exact t1.quota
/-- What is sure stays so, whatever opening does. -/
theorem sure_open {kd : Int} {b : List Int} {t i : Nat} {rs rs0 : List (List Int)} (h : SureI nm b t i D) (hs : scanRes kd b = (rs0, b.length, 0)) (hb : 8 ≤ b.length) (ho : OpenR kd nm D D' k rs) : SureI nm b t i D' := by
  obtain ⟨D1, k1, hsp, ho⟩ := ho
  have hn := newName_ne nm
  have h1 : SureI nm b t i D1 := by
    rcases hsp with ⟨_, rfl, _⟩ | ⟨_, _, hsp⟩
    · exact h
    · exact h.deed (fun D2 D3 k h2 h3 => h2.there hn (fun j hj h4 => by rw [h4.1]; exact h2.turns h2.ne hn (fun e => by cases e)) h3) hsp
  have hba : bytesAt D1 nm = b := by rw [bytesAt_some h1.dir.at_, h1.file]
  rcases ho with ⟨_, rfl, _⟩ | ⟨_, ho⟩
  · exact h1
  · unfold OpenB at ho
    rw [hba, hs] at ho
    rcases ho with ⟨_, rfl, _⟩ | ⟨_, _, rfl, _⟩ | ⟨_, _, _, ⟨h2, _⟩ | ⟨_, h2, _⟩ | ⟨_, _, rfl, _⟩⟩
    · exact h1
    · exact h1
    · exfalso
      have h2 : b.length = 0 := h2
      omega
    · exact absurd h2 (Nat.lt_irrefl _)
    · exact h1
theorem sure_told {c : Nat} {kd : Int} {b : List Int} {t i : Nat} {rs rs0 : List (List Int)} (h : SureI nm b t i D) (hs : scanRes kd b = (rs0, b.length, 0)) (hok : OkD c D) (hu : UpA D) (hd : D.dir.length ≤ 10) (hq : 1048576 ≤ D.quota) (hr : rightB nm = true) (hr2 : rightB (newName nm) = true) (hn : nm ≠ noName) (ho : OpenR kd nm D D' k rs) :
    k = 0 ∧ rs = rs0 ∧ UpA D' ∧ Dk.look D'.dir (newName nm) = none := by
  have hba : bytesAt D nm = b := by rw [bytesAt_some h.dir.at_, h.file]
  obtain ⟨a1, a2, a3⟩ := open_told (Plain.of hok) hu hd hq hr hr2 hn ho
  rw [hba, hs] at a3
  rcases a3 with ⟨a3, _⟩ | ⟨_, a4, a5, _⟩
  · exact absurd rfl a3
  · exact ⟨a4, a5, a2, a1⟩
end
abbrev Ns3 : List ByteArray := [noName, logN, newN]
theorem up_restart (D : DiskV) (n : Int) (tails : List Int) : UpA (restartV D n tails) := by
  obtain ⟨_, _, _, e4, e5, _⟩ := restart_dir D n tails
  exact ⟨e5, e4⟩
theorem quota_restart (D : DiskV) (n : Int) (tails : List Int) : (restartV D n tails).quota = D.quota := by
  obtain ⟨_, _, _, _, _, e6, _⟩ := restart_dir D n tails
  exact e6
theorem quota_deed {D D' : DiskV} {ok : Bool} {body : DiskV → DiskV → Nat → Prop} {k : Nat} (hb : ∀ k, body (countV D) D' k → D'.quota = D.quota) (h : DeedR D ok body D' k) : D'.quota = D.quota := by
  rcases h with ⟨_, rfl, _⟩ | ⟨_, _, rfl, _⟩ | ⟨_, _, ⟨_, rfl, _⟩ | ⟨_, h⟩⟩
  · rfl
  · rfl
  · rfl
  · exact hb _ h
theorem quota_there {D D' : DiskV} {s : ByteArray} {body : Nat → DiskV → DiskV → Nat → Prop} {k : Nat} (hb : ∀ i, body i D D' k → D'.quota = D.quota) (h : ThereR s body D D' k) : D'.quota = D.quota := by
  unfold ThereR at h
  split at h
  · rw [h.1]
  · exact hb _ h
theorem quota_fresh {D D' : DiskV} {s : ByteArray} {xs : List Int} {k : Nat} (h : FreshR s xs D D' k) : D'.quota = D.quota := by
  rcases h with ⟨_, rfl, _⟩ | ⟨_, _, j, _, rfl⟩ <;> rfl
theorem quota_open {kd : Int} {nm : ByteArray} {D D' : DiskV} {k : Nat} {rs : List (List Int)} (ho : OpenR kd nm D D' k rs) : D'.quota = D.quota := by
  obtain ⟨D1, k1, hsp, ho⟩ := ho
  have h1 : D1.quota = D.quota := by
    rcases hsp with ⟨_, rfl, _⟩ | ⟨_, _, hsp⟩
    · rfl
    · exact quota_deed (fun k h => quota_there (D := countV D) (fun i h => by rw [h.1]; rfl) h) hsp
  rcases ho with ⟨_, rfl, _⟩ | ⟨_, ho⟩
  · exact h1
  · rcases ho with ⟨_, rfl, _⟩ | ⟨_, _, rfl, _⟩ | ⟨_, _, _, ⟨_, ho⟩ | ⟨_, _, ho⟩ | ⟨_, _, rfl, _⟩⟩
    · exact h1
    · exact h1
    · refine (quota_deed (fun k h => ?_) ho).trans h1
      exact quota_fresh (D := countV D1) h
    · refine (quota_deed (fun k h => ?_) ho).trans h1
      refine quota_there (D := countV D1) (fun i h => ?_) h
      rcases h with ⟨_, rfl, _⟩ | ⟨_, _, _, rfl⟩ <;> rfl
    · exact h1
end Go.Proofs.YtononoakdebjeaaGreatDoor.Rec
