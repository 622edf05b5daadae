/- A disk in memory. -/
import Derived.Test.YtononoakdebjeaaGreatDoorDkPure
import Derived.Test.YtononoakdebjeaaGreatDoorHeapAll
import Derived.Test.YtononoakdebjeaaGreatDoorArgs
namespace Go.Proofs.YtononoakdebjeaaGreatDoor.Dk
open Go.RowKit Go.Proofs.YtononoakdebjeaaGreatDoorW.PrintWords Go.Proofs.YtononoakdebjeaaGreatDoorW.PrintLast Go.Proofs.YtononoakdebjeaaGreatDoor.Base Go.Maps
set_option linter.unusedVariables false
set_option linter.unusedSimpArgs false

abbrev optr (o : Option Nat) : Value := .pointer (o.map fun i => ⟨i, 0, none⟩)
abbrev fptr (i : Nat) : Value := .pointer (some ⟨i, 0, none⟩)
def kptr : Kd (Option Nat) := Kd.scalar optr (fun _ => rfl)
def kch : Kd (ByteArray × (Option Nat × ByteArray)) := Kd.pair Kd.string (Kd.pair kptr Kd.string)
def ChV.x (c : ChV) : ByteArray × (Option Nat × ByteArray) := (c.name, c.dst, c.gone)
/-- A directory in memory. -/
def DirAt (w : World) (m : Nat) (L : Dir) : Prop := VMap 9 skey w m L.length (fun s => (look L s).map fptr)
/-- A file's bytes: a row of its own, or one that was cut. -/
def Dat (S : Nat → Prop) (w : World) (v : Value) (xs : List Int) : Prop :=
  (Kd.int .u8).R 5 w 0 S v xs ∨ ∃ k cs, v = .slice (some ⟨k, 0, none⟩) xs.length xs.length ∧ S k ∧ w.heap[k]? = some (.cells cs 5 (0, 0)) ∧ cs.toList.take xs.length = nums .u8 xs ∧ xs.length ≤ 9223372036854775807
/-- The block that a slice lies in. -/
def dblk : Value → Option Nat
  | .slice (some a) _ _ => some a.block
  | _ => none
/-- What holds of a disk, plainly. -/
structure OkD (c : Nat) (D : DiskV) : Prop where
  quota : D.quota ≤ 16777216
  clock1 : 1 ≤ D.clock
  clock : D.clock ≤ c
  deeds : D.deeds ≤ c
  armed : -1 ≤ D.armed ∧ D.armed ≤ 9223372036854775807
  up : UpD D.sure
  dirE : D.dir = D.pend.foldl chDo D.sure
  few : D.sure.length + D.pend.length ≤ c
  names : ∀ p ∈ D.sure, p.1.size ≤ maxLen
  chs : ∀ h ∈ D.pend, h.name.size ≤ maxLen ∧ h.gone.size ≤ maxLen ∧ (h.name ≠ noName → h.dst.isSome = true)
  file : ∀ i, Has D i → (D.fs i).b.length ≤ 65536 ∧ (D.fs i).sure ≤ (D.fs i).b.length ∧ 1 ≤ (D.fs i).time ∧ (D.fs i).time < D.clock
/-- The cells of a disk. -/
abbrev dcells (D : DiskV) (mf ms : Nat) (vp : Value) : Array Value := #[.int .i64 (D.quota : Int), .int .i64 (D.clock : Int), .int .i64 (D.deeds : Int), .int .i64 D.armed, .bool D.down, .map (some mf), .map (some ms), vp]
/-- Its files. -/
def FilesAt (S : Nat → Prop) (w : World) (D : DiskV) (dv : Nat → Value) : Prop :=
  (∀ i, Has D i → S i ∧ w.heap[i]? = some (.cells #[dv i, .int .i64 ((D.fs i).sure : Int), .int .i64 ((D.fs i).time : Int)] 74 (0, 0)) ∧ Dat S w (dv i) (D.fs i).b) ∧
  ∀ i j k, Has D i → Has D j → i ≠ j → dblk (dv i) = some k → dblk (dv j) ≠ some k
/-- A disk at block g, all its blocks in S. -/
structure Dk (S : Nat → Prop) (c : Nat) (w : World) (g : Nat) (D : DiskV) : Prop where
  lt : ∀ k, S k → k < w.heap.size
  sg : S g
  ok : OkD c D
  ex : ∃ mf ms vp, w.heap[g]? = some (.cells (dcells D mf ms vp) 80 (0, 0)) ∧ S mf ∧ S ms ∧ mf ≠ ms ∧ DirAt w mf D.dir ∧ DirAt w ms D.sure ∧ kch.R 84 w 0 S vp (D.pend.map ChV.x)
  fl : ∃ dv, FilesAt S w D dv
theorem Dat.bs {S : Nat → Prop} {w : World} {v : Value} {xs : List Int} (h : Dat S w v xs) : Bs w v xs := by
  rcases h with h | ⟨k, cs, rfl, _, hk, ht, hm⟩
  · exact Bs.of_own (Kd.own_of_R h) rfl
  · refine ⟨some ⟨k, 0, none⟩, xs.length, rfl, Nat.le_refl _, ⟨rfl, hm, fun hp => ⟨⟨k, 0, none⟩, rfl, fun i hi => ?_⟩⟩⟩
    have e : (⟨k, 0, none⟩ : Addr).add i = ⟨k, i, none⟩ := by
      by_cases h0 : i = 0
      · subst h0; rfl
      · simp [Addr.add, h0]
    rw [e, blk_cell hk i]
    have h1 := congrArg (·[i]?) ht
    simp only [List.getElem?_take, nums, List.getElem?_map] at h1
    rw [if_pos hi, List.getElem?_eq_getElem hi] at h1
    rw [← Array.getElem?_toList, h1, List.getD_eq_getElem?_getD, List.getElem?_eq_getElem hi]
    rfl
theorem Dat.move {S : Nat → Prop} {w w' : World} {v : Value} {xs : List Int} (h : Dat S w v xs) (hm : ∀ k, S k → w'.heap[k]? = w.heap[k]?) : Dat S w' v xs := by
  rcases h with h | ⟨k, cs, rfl, hs, hk, ht⟩
  · exact .inl (Kd.R_move h hm)
  · exact .inr ⟨k, cs, rfl, hs, (hm k hs).trans hk, ht⟩
theorem Dat.mono {S T : Nat → Prop} {w : World} {v : Value} {xs : List Int} (h : Dat S w v xs) (hs : ∀ k, S k → T k) : Dat T w v xs := by
  rcases h with h | ⟨k, cs, rfl, hk, h⟩
  · exact .inl (Kd.R_mono h hs)
  · exact .inr ⟨k, cs, rfl, hs k hk, h⟩
theorem DirAt.block {w w' : World} {m : Nat} {L : Dir} (h : DirAt w m L) (e : w'.heap[m]? = w.heap[m]?) : DirAt w' m L := VMap.block h e
theorem FilesAt.move {S : Nat → Prop} {w w' : World} {D : DiskV} {dv : Nat → Value} (h : FilesAt S w D dv) (hm : ∀ k, S k → w'.heap[k]? = w.heap[k]?) : FilesAt S w' D dv :=
  ⟨fun i hi => by obtain ⟨a, b, d⟩ := h.1 i hi; exact ⟨a, (hm i a).trans b, d.move hm⟩, h.2⟩
theorem FilesAt.mono {S T : Nat → Prop} {w : World} {D : DiskV} {dv : Nat → Value} (h : FilesAt S w D dv) (hs : ∀ k, S k → T k) : FilesAt T w D dv :=
  ⟨fun i hi => by obtain ⟨a, b, d⟩ := h.1 i hi; exact ⟨hs i a, b, d.mono hs⟩, h.2⟩
section
variable {S T : Nat → Prop} {c : Nat} {w w' : World} {g : Nat} {D : DiskV}
theorem Dk.move (h : Dk S c w g D) (hm : ∀ k, S k → w'.heap[k]? = w.heap[k]?) : Dk S c w' g D := by
  obtain ⟨lt, sg, ok, ⟨mf, ms, vp, h1, h2, h3, h4, h5, h6, h7⟩, ⟨dv, h8⟩⟩ := h
  refine ⟨fun k hk => ?_, sg, ok, ⟨mf, ms, vp, (hm g sg).trans h1, h2, h3, h4, h5.block (hm _ h2), h6.block (hm _ h3), Kd.R_move h7 hm⟩, ⟨dv, h8.move hm⟩⟩
  have h := lt k hk
  have e := hm k hk
  rw [Array.getElem?_eq_getElem h] at e
  exact (Array.getElem?_eq_some_iff.1 e).1
theorem Dk.foot (h : Dk S c w g D) (hf : Foot T w w') (hd : ∀ k, S k → ¬ T k) : Dk S c w' g D := h.move fun k hk => hf.block k (h.lt k hk) (hd k hk)
theorem Dk.below (h : Dk S c w g D) (hb : Below w.heap.size w w') : Dk S c w' g D := h.move fun k hk => hb.block k (h.lt k hk)
theorem Dk.mono (h : Dk S c w g D) (hs : ∀ k, S k → T k) (ht : ∀ k, T k → k < w.heap.size) : Dk T c w g D := by
  obtain ⟨lt, sg, ok, ⟨mf, ms, vp, h1, h2, h3, h4, h5, h6, h7⟩, ⟨dv, h8⟩⟩ := h
  exact ⟨ht, hs _ sg, ok, ⟨mf, ms, vp, h1, hs _ h2, hs _ h3, h4, h5, h6, Kd.R_mono h7 hs⟩, ⟨dv, h8.mono hs⟩⟩
theorem OkD.more {c' : Nat} (h : OkD c D) (hc : c ≤ c') : OkD c' D :=
  ⟨h.quota, h.clock1, Nat.le_trans h.clock hc, Nat.le_trans h.deeds hc, h.armed, h.up, h.dirE, Nat.le_trans h.few hc, h.names, h.chs, h.file⟩
theorem Dk.more {c' : Nat} (h : Dk S c w g D) (hc : c ≤ c') : Dk S c' w g D := ⟨h.lt, h.sg, h.ok.more hc, h.ex, h.fl⟩
theorem Dk.drewN (h : Dk S c w g D) (n : Nat) : Dk S c (w.drewN n) g D := h.move fun _ _ => rfl
end
/-- The blocks of S, and those that came between. -/
def Sx (S : Nat → Prop) (w w' : World) (k : Nat) : Prop := S k ∨ (w.heap.size ≤ k ∧ k < w'.heap.size)
/-! ### Plain facts -/
theorem foldl_up {cs : List ChV} : ∀ {L : Dir}, UpD L → UpD (cs.foldl chDo L) := by
  induction cs with
  | nil => intro L h; exact h
  | cons c cs ih => intro L h; exact ih (chDo_up h c)
theorem chDo_len {L : Dir} (h : UpD L) (c : ChV) : (chDo L c).length ≤ L.length + 1 := by
  unfold chDo
  have h1 : UpD (if c.gone = noName then L else delD L c.gone) := by split; exact h; exact delD_up h _
  have h2 : (if c.gone = noName then L else delD L c.gone).length ≤ L.length := by
    split
    · exact Nat.le_refl _
    · exact List.length_filter_le _ _
  generalize (if c.gone = noName then L else delD L c.gone) = L1 at h1 h2
  simp only
  split
  · omega
  · split
    · rename_i i _
      have h3 := putD_len h1 c.name i
      have h4 : (putD L1 c.name i).length ≤ L1.length + 1 := by rw [h3]; split <;> omega
      omega
    · omega
theorem foldl_len {cs : List ChV} : ∀ {L : Dir}, UpD L → (cs.foldl chDo L).length ≤ L.length + cs.length := by
  induction cs with
  | nil => intro L h; exact Nat.le_refl _
  | cons c cs ih =>
    intro L h
    have h1 := ih (chDo_up h c)
    have h2 := chDo_len h c
    rw [List.foldl_cons, List.length_cons]
    omega
theorem mem_chDo {L : Dir} {c : ChV} {p : ByteArray × Nat} (h : p ∈ chDo L c) : p ∈ L ∨ (p.1 = c.name ∧ c.dst = some p.2) := by
  unfold chDo at h
  have h1 : ∀ q, q ∈ (if c.gone = noName then L else delD L c.gone) → q ∈ L := fun q hq => by
    split at hq
    · exact hq
    · exact (mem_delD.1 hq).1
  simp only at h
  split at h
  · exact .inl (h1 p h)
  · split at h
    · rename_i i hi
      rcases mem_putD.1 h with h2 | h2
      · exact .inl (h1 p h2.1)
      · exact .inr (by rw [h2]; exact ⟨rfl, hi⟩)
    · exact .inl (h1 p h)
theorem mem_foldl {cs : List ChV} : ∀ {L : Dir} {p : ByteArray × Nat}, p ∈ cs.foldl chDo L → p ∈ L ∨ ∃ c ∈ cs, p.1 = c.name ∧ c.dst = some p.2 := by
  induction cs with
  | nil => intro L p h; exact .inl h
  | cons c cs ih =>
    intro L p h
    rcases ih h with h | ⟨d, hd, h⟩
    · rcases mem_chDo h with h | h
      · exact .inl h
      · exact .inr ⟨c, .head _, h⟩
    · exact .inr ⟨d, .tail _ hd, h⟩
section
variable {c : Nat} {D : DiskV}
theorem OkD.dirUp (h : OkD c D) : UpD D.dir := by rw [h.dirE]; exact foldl_up h.up
theorem OkD.dirLen (h : OkD c D) : D.dir.length ≤ c := by
  have h1 := foldl_len (cs := D.pend) h.up
  have h2 := h.few
  rw [h.dirE]
  omega
theorem OkD.dirNames (h : OkD c D) : ∀ p ∈ D.dir, p.1.size ≤ maxLen := fun p hp => by
  rw [h.dirE] at hp
  rcases mem_foldl hp with hp | ⟨d, hd, e, _⟩
  · exact h.names p hp
  · rw [e]; exact (h.chs d hd).1
theorem has_dir {s : ByteArray} {i : Nat} (h : look D.dir s = some i) : Has D i := .inl ⟨s, look_mem h⟩
end
end Go.Proofs.YtononoakdebjeaaGreatDoor.Dk
