/- A disk for those who use it: its blocks lie behind B. -/
import Derived.Test.YtononoakdebjeaaDoorDkRestart
namespace Go.Proofs.YtononoakdebjeaaDoor.Dk
open Go.RowKit Go.Proofs.YtononoakdebjeaaDoorW.PrintWords Go.Proofs.YtononoakdebjeaaDoorW.PrintLast Go.Proofs.YtononoakdebjeaaDoor.Base Go.Proofs.YtononoakdebjeaaDoor.Path Go.Maps
set_option linter.unusedVariables false
set_option linter.unusedSimpArgs false
/-- A disk at block g: all its blocks are B or more, and less than z. -/
def DQ (B z c : Nat) (w : World) (g : Nat) (D : DiskV) : Prop := ∃ S, Dk S c w g D ∧ (∀ k, S k → B ≤ k ∧ k < z) ∧ B ≤ w.heap.size ∧ z ≤ w.heap.size
/-- Bytes apart from such a disk. -/
def Ap (B z : Nat) (v : Value) : Prop := ∀ k, v.ownBlock = some k → k < B ∨ z ≤ k
def DeedQ (B c g : Nat) (D : DiskV) (ok : Bool) (body : DiskV → DiskV → Nat → Prop) (w : World) (e : Ending) (w' : World) : Prop :=
  ∃ D' k, e = .returned (.int .i64 ((k : Nat) : Int)) ∧ DQ B w'.heap.size (c + 3) w' g D' ∧ DeedR D ok body D' k ∧ Below B w w'
section
variable {B z c g : Nat} {w w' : World} {D : DiskV}
theorem DQ.below (h : DQ B z c w g D) (hb : Below w.heap.size w w') : DQ B z c w' g D := by
  obtain ⟨S, h1, h2, h3, h4⟩ := h
  exact ⟨S, h1.below hb, h2, Nat.le_trans h3 hb.size, Nat.le_trans h4 hb.size⟩
theorem DQ.belowZ (h : DQ B z c w g D) (hb : Below z w w') (hz : w.heap.size ≤ w'.heap.size) : DQ B z c w' g D := by
  obtain ⟨S, h1, h2, h3, h4⟩ := h
  exact ⟨S, h1.move (fun k hk => hb.block k (h2 k hk).2), h2, Nat.le_trans h3 hz, Nat.le_trans h4 hz⟩
theorem DQ.more {c' : Nat} (h : DQ B z c w g D) (hc : c ≤ c') : DQ B z c' w g D := by
  obtain ⟨S, h1, h2⟩ := h
  exact ⟨S, h1.more hc, h2⟩
theorem DQ.ok (h : DQ B z c w g D) : OkD c D := by
  obtain ⟨S, h1, _⟩ := h
  exact h1.ok
theorem DQ.base (h : DQ B z c w g D) : B ≤ w.heap.size := by
  obtain ⟨S, _, _, h, _⟩ := h
  exact h
theorem deedQ_of {S : Nat → Prop} {ok : Bool} {body : DiskV → DiskV → Nat → Prop} {e : Ending} (h2 : ∀ k, S k → B ≤ k ∧ k < z) (hB : B ≤ w.heap.size) (h : DeedP S c g D ok body w e w') : DeedQ B c g D ok body w e w' := by
  obtain ⟨D', k, h1, hd, hr, hf⟩ := h
  refine ⟨D', k, h1, ⟨_, hd, fun q hq => ⟨?_, hd.lt q hq⟩, Nat.le_trans hB hf.size, Nat.le_refl _⟩, hr, hf.below (fun q hq => (h2 q hq).1) hB⟩
  rcases hq with hq | hq
  · exact (h2 q hq).1
  · omega
theorem bsO_of {S : Nat → Prop} {v : Value} {xs : List Int} (h2 : ∀ k, S k → B ≤ k ∧ k < z) (hv : Bs w v xs) (ha : Ap B z v) : BsO S w v xs :=
  ⟨hv, fun k hk hl => ⟨fun hs => by have h1 := h2 k hs; have := ha k hk; omega, bs_lt hv hk hl⟩⟩
theorem bsO_e {S : Nat → Prop} {v : Value} {xs : List Int} (h2 : ∀ k, S k → B ≤ k ∧ k < z) (hv : Bs w v xs) (ha : 0 < xs.length → Ap B z v) : BsO S w v xs :=
  ⟨hv, fun k hk hl => ⟨fun hs => by have h1 := h2 k hs; have := ha hl k hk; omega, bs_lt hv hk hl⟩⟩
/-- What was there ahead of B. -/
theorem ap_old {w0 : World} {v : Value} {xs : List Int} (hv : Bs w0 v xs) (hl : 0 < xs.length) : Ap w0.heap.size z v := fun k hk => .inl (bs_lt hv hk hl)
theorem new_q (q : Nat) (hq : q ≤ 16777216) (w : World) (hB : B ≤ w.heap.size) :
    Calls Tryd.prog 8 #[.int .i64 q] w fun e w' => ∃ g, e = .returned (.tuple #[.pointer (some ⟨g, 0, none⟩), .int .i64 0]) ∧ DQ B w'.heap.size 1 w' g (newV q fun _ => ⟨[], 0, 0⟩) ∧ Below w.heap.size w w' :=
  (new_any q hq w).mono fun e w' ⟨g, h1, h2, h3⟩ => ⟨g, h1, ⟨_, h2, fun k hk => ⟨by omega, hk.2⟩, Nat.le_trans hB h3.size, Nat.le_refl _⟩, h3⟩
theorem write_q (s : ByteArray) (v : Value) (xs : List Int) (h : DQ B z c w g D) (hs : s.size ≤ maxLen) (hv : Bs w v xs) (ha : Ap B z v) (hl : xs.length ≤ 1000000) (hc : c ≤ 40000000) :
    Calls Tryd.prog 9 #[.pointer (some ⟨g, 0, none⟩), .string s, v] w (DeedQ B c g D (rightB s) (FreshR s xs) w) := by
  obtain ⟨S, h1, h2, h3, _⟩ := h
  exact (write_any S c g D s v xs w h1 hs (bsO_of h2 hv ha) hl hc).mono fun e w' h => deedQ_of h2 h3 h
theorem append_q (s : ByteArray) (v : Value) (xs : List Int) (h : DQ B z c w g D) (hs : s.size ≤ maxLen) (hv : Bs w v xs) (ha : Ap B z v) (hl : xs.length ≤ 1000000) (hc : c ≤ 40000000) :
    Calls Tryd.prog 22 #[.pointer (some ⟨g, 0, none⟩), .string s, v] w (DeedQ B c g D (rightB s) (AppendR s xs) w) := by
  obtain ⟨S, h1, h2, h3, _⟩ := h
  exact (append_any S c g D s v xs w h1 hs (bsO_of h2 hv ha) hl hc).mono fun e w' h => deedQ_of h2 h3 h
theorem write_e (s : ByteArray) (v : Value) (xs : List Int) (h : DQ B z c w g D) (hs : s.size ≤ maxLen) (hv : Bs w v xs) (ha : 0 < xs.length → Ap B z v) (hl : xs.length ≤ 1000000) (hc : c ≤ 40000000) :
    Calls Tryd.prog 9 #[.pointer (some ⟨g, 0, none⟩), .string s, v] w (DeedQ B c g D (rightB s) (FreshR s xs) w) := by
  obtain ⟨S, h1, h2, h3, _⟩ := h
  exact (write_any S c g D s v xs w h1 hs (bsO_e h2 hv ha) hl hc).mono fun e w' h => deedQ_of h2 h3 h
theorem append_e (s : ByteArray) (v : Value) (xs : List Int) (h : DQ B z c w g D) (hs : s.size ≤ maxLen) (hv : Bs w v xs) (ha : 0 < xs.length → Ap B z v) (hl : xs.length ≤ 1000000) (hc : c ≤ 40000000) :
    Calls Tryd.prog 22 #[.pointer (some ⟨g, 0, none⟩), .string s, v] w (DeedQ B c g D (rightB s) (AppendR s xs) w) := by
  obtain ⟨S, h1, h2, h3, _⟩ := h
  exact (append_any S c g D s v xs w h1 hs (bsO_e h2 hv ha) hl hc).mono fun e w' h => deedQ_of h2 h3 h
theorem cut_q (s : ByteArray) (n : Int) (h : DQ B z c w g D) (hs : s.size ≤ maxLen) (hn : -9223372036854775808 ≤ n ∧ n ≤ 9223372036854775807) (hc : c ≤ 40000000) :
    Calls Tryd.prog 36 #[.pointer (some ⟨g, 0, none⟩), .string s, .int .i64 n] w (DeedQ B c g D (rightB s) (ThereR s (CutR n)) w) := by
  obtain ⟨S, h1, h2, h3, _⟩ := h
  exact (cut_any S c g D s n w h1 hs hn hc).mono fun e w' h => deedQ_of h2 h3 h
theorem rename_q (s r : ByteArray) (h : DQ B z c w g D) (hs : s.size ≤ maxLen) (hr : r.size ≤ maxLen) (hc : c ≤ 40000000) :
    Calls Tryd.prog 27 #[.pointer (some ⟨g, 0, none⟩), .string s, .string r] w (DeedQ B c g D (rightB s && rightB r) (ThereR s (RenameR s r)) w) := by
  obtain ⟨S, h1, h2, h3, _⟩ := h
  exact (rename_any S c g D s r w h1 hs hr hc).mono fun e w' h => deedQ_of h2 h3 h
theorem remove_q (s : ByteArray) (h : DQ B z c w g D) (hs : s.size ≤ maxLen) (hc : c ≤ 40000000) :
    Calls Tryd.prog 33 #[.pointer (some ⟨g, 0, none⟩), .string s] w (DeedQ B c g D (rightB s) (ThereR s (RemoveR s)) w) := by
  obtain ⟨S, h1, h2, h3, _⟩ := h
  exact (remove_any S c g D s w h1 hs hc).mono fun e w' h => deedQ_of h2 h3 h
theorem sync_q (s : ByteArray) (h : DQ B z c w g D) (hs : s.size ≤ maxLen) (hc : c ≤ 40000000) :
    Calls Tryd.prog 23 #[.pointer (some ⟨g, 0, none⟩), .string s] w (DeedQ B c g D (rightB s) (ThereR s SyncR) w) := by
  obtain ⟨S, h1, h2, h3, _⟩ := h
  exact (sync_any S c g D s w h1 hs hc).mono fun e w' h => deedQ_of h2 h3 h
theorem syncDir_q (h : DQ B z c w g D) (hc : c ≤ 40000000) :
    Calls Tryd.prog 24 #[.pointer (some ⟨g, 0, none⟩)] w (DeedQ B c g D true SyncDirR w) := by
  obtain ⟨S, h1, h2, h3, _⟩ := h
  exact (syncDir_any S c g D w h1 hc).mono fun e w' h => deedQ_of h2 h3 h
theorem ti_blk {v : Value} {l : List Int} (h : Ti w v l) (hk : ∀ k, v.ownBlock = some k → k < w.heap.size → w'.heap[k]? = w.heap[k]?) : Ti w' v l := by
  obtain ⟨A, c, rfl, h1, h2, h3⟩ := h
  refine ⟨A, c, rfl, h1, h2, fun hl => ?_⟩
  obtain ⟨ad, rfl, h4⟩ := h3 hl
  refine ⟨ad, rfl, fun i hi => ?_⟩
  have e := add_block ad i
  have hb : ad.block < w.heap.size := by
    have h5 := h4 i hi
    rw [← e]
    by_cases hlt : (ad.add i).block < w.heap.size
    · exact hlt
    · unfold World.cell? at h5
      rw [Array.getElem?_eq_none (by omega)] at h5
      cases h5
  rw [← h4 i hi]
  have h5 := hk ad.block rfl hb
  unfold World.cell?
  rw [e, h5]
def RestartQ (B c g : Nat) (D : DiskV) (w : World) (e : Ending) (w' : World) : Prop := e = .returned (.tuple #[]) ∧ DQ B w'.heap.size c w' g D ∧ Below B w w'
theorem restart_q (N : Nat) (dirN : Int) (vt : Value) (tails : List Int) (h : DQ B z c w g D) (hN : D.sure.length + D.pend.length ≤ N) (ht : Ti w vt tails) (ha : Ap B z vt) (hd : -9223372036854775808 ≤ dirN ∧ dirN ≤ 9223372036854775807) (htl : tails.length ≤ 1000000) (hc : c + N ≤ 10000000) :
    Calls Tryd.prog 25 #[.pointer (some ⟨g, 0, none⟩), .agg #[.int .i64 dirN, vt]] w (RestartQ B (c + N + 1) g (restartV D dirN tails) w) := by
  obtain ⟨S, h1, h2, h3, h4⟩ := h
  refine (restart_any S c N g D dirN vt tails w h1 hN (fun W hf => ti_blk ht (fun k hk hl => hf.block k hl (fun hs => by have := h2 k hs; have := ha k hk; omega))) hd htl hc).mono fun e w' ⟨e1, hd, hf⟩ => ⟨e1, ⟨_, hd, fun q hq => ⟨?_, hd.lt q hq⟩, Nat.le_trans h3 hf.size, Nat.le_refl _⟩, hf.below (fun q hq => (h2 q hq).1) h3⟩
  rcases hq with hq | hq
  · exact (h2 q hq).1
  · omega
def ArmQ (B z c g : Nat) (D : DiskV) (w : World) (e : Ending) (w' : World) : Prop := e = .returned (.tuple #[]) ∧ DQ B z c w' g D ∧ Below B w w' ∧ w.heap.size ≤ w'.heap.size
theorem arm_q (n : Int) (h : DQ B z c w g D) (hn : n ≤ 9223372036854775807) :
    Calls Tryd.prog 20 #[.pointer (some ⟨g, 0, none⟩), .int .i64 n] w (ArmQ B z c g (armV D n) w) := by
  obtain ⟨S, h1, h2, h3, h4⟩ := h
  exact (arm_any S c g D n w h1 hn).mono fun e w' ⟨e1, hd, hf⟩ => ⟨e1, ⟨S, hd, h2, Nat.le_trans h3 hf.size, Nat.le_trans h4 hf.size⟩, hf.below (fun q hq => (h2 q hq).1) h3, hf.size⟩
theorem read_q (s : ByteArray) (h : DQ B z c w g D) (hs : s.size ≤ maxLen) : Calls Tryd.prog 13 #[.pointer (some ⟨g, 0, none⟩), .string s] w (ReadP D s w) := by
  obtain ⟨S, h1, _⟩ := h
  exact read_any S c g D s w h1 hs
theorem stat_q (s : ByteArray) (h : DQ B z c w g D) (hs : s.size ≤ maxLen) : Calls Tryd.prog 12 #[.pointer (some ⟨g, 0, none⟩), .string s] w (StatP D s w) := by
  obtain ⟨S, h1, _⟩ := h
  exact stat_any S c g D s w h1 hs
theorem down_q (h : DQ B z c w g D) : Calls Tryd.prog 28 #[.pointer (some ⟨g, 0, none⟩)] w fun e w' => e = .returned (.bool D.down) ∧ w' = w := by
  obtain ⟨S, h1, _⟩ := h
  exact down_any S c g D w h1
theorem deeds_q (h : DQ B z c w g D) : Calls Tryd.prog 29 #[.pointer (some ⟨g, 0, none⟩)] w fun e w' => e = .returned (.int .i64 (D.deeds : Int)) ∧ w' = w := by
  obtain ⟨S, h1, _⟩ := h
  exact deeds_any S c g D w h1
end
/-! ### Names that are paths -/
theorem right_f : rightB ⟨#[102]⟩ = true := by decide +kernel
theorem right_g : rightB ⟨#[103]⟩ = true := by decide +kernel
theorem right_log : rightB ⟨#[108, 111, 103]⟩ = true := by decide +kernel
theorem right_lognew : rightB ⟨#[108, 111, 103, 46, 110, 101, 119]⟩ = true := by decide +kernel
theorem right_own : rightB ⟨#[111, 119, 110, 47, 102, 105, 108, 101]⟩ = true := by decide +kernel
end Go.Proofs.YtononoakdebjeaaDoor.Dk
