/- A disk for those who use it: its blocks lie behind B; Chapter 4's statements: what they share (a fresh disk; the chapter's examples); A disk, and bytes of one's own beside it; A disk, and blocks of one's own that stand while it works; A disk, and blocks of the caller's own that it leaves alone. -/
import Derived.Test.YtononoakdebjeaaGreatDoorDkRestart
import Derived.Test.YtononoakdebjeaaGreatDoorPackAll
import Derived.Test.YtononoakdebjeaaGreatDoorRecs
namespace Go.Proofs.YtononoakdebjeaaGreatDoor.Dk
open Go.RowKit Go.Proofs.YtononoakdebjeaaGreatDoorW.PrintWords Go.Proofs.YtononoakdebjeaaGreatDoorW.PrintLast Go.Proofs.YtononoakdebjeaaGreatDoor.Base Go.Proofs.YtononoakdebjeaaGreatDoor.Path Go.Maps
set_option linter.unusedVariables false
set_option linter.unusedSimpArgs false
/-- A disk at block g: all its blocks are B or more, and less than z. -/
def DQ (B z c : Nat) (w : World) (g : Nat) (D : DiskV) : Prop := ∃ S, Dk S c w g D ∧ (∀ k, S k → B ≤ k ∧ k < z) ∧ B ≤ w.heap.size ∧ z ≤ w.heap.size
/-- Bytes apart from such a disk. -/
def Ap (B z : Nat) (v : Value) : Prop := ∀ k, v.ownBlock = some k → k < B ∨ z ≤ k
def DeedQ (B c g : Nat) (D : DiskV) (ok : Bool) (body : DiskV → DiskV → Nat → Prop) (w : World) (e : Ending) (w' : World) : Prop :=
  ∃ D' k, e = .returned (.int .i64 ((k : Nat) : Int)) ∧ DQ B w'.heap.size (c + 3) w' g D' ∧ DeedR D ok body D' k ∧ Below B w w'
section
variable {B z c g : Nat} {w w' : World} {D : DiskV}
theorem DQ.below (h : DQ B z c w g D) (hb : Below w.heap.size w w') : DQ B z c w' g D := by
  obtain ⟨S, h1, h2, h3, h4⟩ := h
  exact ⟨S, h1.below hb, h2, Nat.le_trans h3 hb.size, Nat.le_trans h4 hb.size⟩
theorem DQ.belowZ (h : DQ B z c w g D) (hb : Below z w w') (hz : w.heap.size ≤ w'.heap.size) : DQ B z c w' g D := by
  obtain ⟨S, h1, h2, h3, h4⟩ := h
  exact ⟨S, h1.move (fun k hk => hb.block k (h2 k hk).2), h2, Nat.le_trans h3 hz, Nat.le_trans h4 hz⟩
theorem DQ.more {c' : Nat} (h : DQ B z c w g D) (hc : c ≤ c') : DQ B z c' w g D := by
  obtain ⟨S, h1, h2⟩ := h
  exact ⟨S, h1.more hc, h2⟩
theorem DQ.ok (h : DQ B z c w g D) : OkD c D := by
  obtain ⟨S, h1, _⟩ := h
  exact h1.ok
theorem DQ.base (h : DQ B z c w g D) : B ≤ w.heap.size := by
  obtain ⟨S, _, _, h, _⟩ := h
  exact h
theorem deedQ_of {S : Nat → Prop} {ok : Bool} {body : DiskV → DiskV → Nat → Prop} {e : Ending} (h2 : ∀ k, S k → B ≤ k ∧ k < z) (hB : B ≤ w.heap.size) (h : DeedP S c g D ok body w e w') : DeedQ B c g D ok body w e w' := by
  obtain ⟨D', k, h1, hd, hr, hf⟩ := h
  refine ⟨D', k, h1, ⟨_, hd, fun q hq => ⟨?_, hd.lt q hq⟩, Nat.le_trans hB hf.size, Nat.le_refl _⟩, hr, hf.below (fun q hq => (h2 q hq).1) hB⟩
  rcases hq with hq | hq
  · exact (h2 q hq).1
  · omega
theorem bsO_of {S : Nat → Prop} {v : Value} {xs : List Int} (h2 : ∀ k, S k → B ≤ k ∧ k < z) (hv : Bs w v xs) (ha : Ap B z v) : BsO S w v xs :=
  ⟨hv, fun k hk hl => ⟨fun hs => by have h1 := h2 k hs; have := ha k hk; omega, bs_lt hv hk hl⟩⟩
theorem bsO_e {S : Nat → Prop} {v : Value} {xs : List Int} (h2 : ∀ k, S k → B ≤ k ∧ k < z) (hv : Bs w v xs) (ha : 0 < xs.length → Ap B z v) : BsO S w v xs :=
  ⟨hv, fun k hk hl => ⟨fun hs => by have h1 := h2 k hs; have := ha hl k hk; omega, bs_lt hv hk hl⟩⟩
/-- What was there ahead of B. -/
theorem ap_old {w0 : World} {v : Value} {xs : List Int} (hv : Bs w0 v xs) (hl : 0 < xs.length) : Ap w0.heap.size z v := fun k hk => .inl (bs_lt hv hk hl)
theorem new_q (q : Nat) (hq : q ≤ 16777216) (w : World) (hB : B ≤ w.heap.size) :
    Calls Tryz.prog 25 #[.int .i64 q] w fun e w' => ∃ g, e = .returned (.tuple #[.pointer (some ⟨g, 0, none⟩), .int .i64 0]) ∧ DQ B w'.heap.size 1 w' g (newV q fun _ => ⟨[], 0, 0⟩) ∧ Below w.heap.size w w' :=
  (new_any q hq w).mono fun e w' ⟨g, h1, h2, h3⟩ => ⟨g, h1, ⟨_, h2, fun k hk => ⟨by omega, hk.2⟩, Nat.le_trans hB h3.size, Nat.le_refl _⟩, h3⟩
theorem write_q (s : ByteArray) (v : Value) (xs : List Int) (h : DQ B z c w g D) (hs : s.size ≤ maxLen) (hv : Bs w v xs) (ha : Ap B z v) (hl : xs.length ≤ 1000000) (hc : c ≤ 40000000) :
    Calls Tryz.prog 11 #[.pointer (some ⟨g, 0, none⟩), .string s, v] w (DeedQ B c g D (rightB s) (FreshR s xs) w) := by
  obtain ⟨S, h1, h2, h3, _⟩ := h
  exact (write_any S c g D s v xs w h1 hs (bsO_of h2 hv ha) hl hc).mono fun e w' h => deedQ_of h2 h3 h
theorem append_q (s : ByteArray) (v : Value) (xs : List Int) (h : DQ B z c w g D) (hs : s.size ≤ maxLen) (hv : Bs w v xs) (ha : Ap B z v) (hl : xs.length ≤ 1000000) (hc : c ≤ 40000000) :
    Calls Tryz.prog 45 #[.pointer (some ⟨g, 0, none⟩), .string s, v] w (DeedQ B c g D (rightB s) (AppendR s xs) w) := by
  obtain ⟨S, h1, h2, h3, _⟩ := h
  exact (append_any S c g D s v xs w h1 hs (bsO_of h2 hv ha) hl hc).mono fun e w' h => deedQ_of h2 h3 h
theorem write_e (s : ByteArray) (v : Value) (xs : List Int) (h : DQ B z c w g D) (hs : s.size ≤ maxLen) (hv : Bs w v xs) (ha : 0 < xs.length → Ap B z v) (hl : xs.length ≤ 1000000) (hc : c ≤ 40000000) :
    Calls Tryz.prog 11 #[.pointer (some ⟨g, 0, none⟩), .string s, v] w (DeedQ B c g D (rightB s) (FreshR s xs) w) := by
  obtain ⟨S, h1, h2, h3, _⟩ := h
  exact (write_any S c g D s v xs w h1 hs (bsO_e h2 hv ha) hl hc).mono fun e w' h => deedQ_of h2 h3 h
theorem append_e (s : ByteArray) (v : Value) (xs : List Int) (h : DQ B z c w g D) (hs : s.size ≤ maxLen) (hv : Bs w v xs) (ha : 0 < xs.length → Ap B z v) (hl : xs.length ≤ 1000000) (hc : c ≤ 40000000) :
    Calls Tryz.prog 45 #[.pointer (some ⟨g, 0, none⟩), .string s, v] w (DeedQ B c g D (rightB s) (AppendR s xs) w) := by
  obtain ⟨S, h1, h2, h3, _⟩ := h
  exact (append_any S c g D s v xs w h1 hs (bsO_e h2 hv ha) hl hc).mono fun e w' h => deedQ_of h2 h3 h
theorem cut_q (s : ByteArray) (n : Int) (h : DQ B z c w g D) (hs : s.size ≤ maxLen) (hn : -9223372036854775808 ≤ n ∧ n ≤ 9223372036854775807) (hc : c ≤ 40000000) :
    Calls Tryz.prog 46 #[.pointer (some ⟨g, 0, none⟩), .string s, .int .i64 n] w (DeedQ B c g D (rightB s) (ThereR s (CutR n)) w) := by
  obtain ⟨S, h1, h2, h3, _⟩ := h
  exact (cut_any S c g D s n w h1 hs hn hc).mono fun e w' h => deedQ_of h2 h3 h
theorem rename_q (s r : ByteArray) (h : DQ B z c w g D) (hs : s.size ≤ maxLen) (hr : r.size ≤ maxLen) (hc : c ≤ 40000000) :
    Calls Tryz.prog 47 #[.pointer (some ⟨g, 0, none⟩), .string s, .string r] w (DeedQ B c g D (rightB s && rightB r) (ThereR s (RenameR s r)) w) := by
  obtain ⟨S, h1, h2, h3, _⟩ := h
  exact (rename_any S c g D s r w h1 hs hr hc).mono fun e w' h => deedQ_of h2 h3 h
theorem remove_q (s : ByteArray) (h : DQ B z c w g D) (hs : s.size ≤ maxLen) (hc : c ≤ 40000000) :
    Calls Tryz.prog 48 #[.pointer (some ⟨g, 0, none⟩), .string s] w (DeedQ B c g D (rightB s) (ThereR s (RemoveR s)) w) := by
  obtain ⟨S, h1, h2, h3, _⟩ := h
  exact (remove_any S c g D s w h1 hs hc).mono fun e w' h => deedQ_of h2 h3 h
theorem sync_q (s : ByteArray) (h : DQ B z c w g D) (hs : s.size ≤ maxLen) (hc : c ≤ 40000000) :
    Calls Tryz.prog 12 #[.pointer (some ⟨g, 0, none⟩), .string s] w (DeedQ B c g D (rightB s) (ThereR s SyncR) w) := by
  obtain ⟨S, h1, h2, h3, _⟩ := h
  exact (sync_any S c g D s w h1 hs hc).mono fun e w' h => deedQ_of h2 h3 h
theorem syncDir_q (h : DQ B z c w g D) (hc : c ≤ 40000000) :
    Calls Tryz.prog 13 #[.pointer (some ⟨g, 0, none⟩)] w (DeedQ B c g D true SyncDirR w) := by
  obtain ⟨S, h1, h2, h3, _⟩ := h
  exact (syncDir_any S c g D w h1 hc).mono fun e w' h => deedQ_of h2 h3 h
theorem ti_blk {v : Value} {l : List Int} (h : Ti w v l) (hk : ∀ k, v.ownBlock = some k → k < w.heap.size → w'.heap[k]? = w.heap[k]?) : Ti w' v l := by
  obtain ⟨A, c, rfl, h1, h2, h3⟩ := h
  refine ⟨A, c, rfl, h1, h2, fun hl => ?_⟩
  obtain ⟨ad, rfl, h4⟩ := h3 hl
  refine ⟨ad, rfl, fun i hi => ?_⟩
  have e := add_block ad i
  have hb : ad.block < w.heap.size := by
    have h5 := h4 i hi
    rw [← e]
    by_cases hlt : (ad.add i).block < w.heap.size
    · exact hlt
    · unfold World.cell? at h5
      rw [Array.getElem?_eq_none (by omega)] at h5
      cases h5
  rw [← h4 i hi]
  have h5 := hk ad.block rfl hb
  unfold World.cell?
  rw [e, h5]
def RestartQ (B c g : Nat) (D : DiskV) (w : World) (e : Ending) (w' : World) : Prop := e = .returned (.tuple #[]) ∧ DQ B w'.heap.size c w' g D ∧ Below B w w'
theorem restart_q (N : Nat) (dirN : Int) (vt : Value) (tails : List Int) (h : DQ B z c w g D) (hN : D.sure.length + D.pend.length ≤ N) (ht : Ti w vt tails) (ha : Ap B z vt) (hd : -9223372036854775808 ≤ dirN ∧ dirN ≤ 9223372036854775807) (htl : tails.length ≤ 1000000) (hc : c + N ≤ 10000000) :
    Calls Tryz.prog 16 #[.pointer (some ⟨g, 0, none⟩), .agg #[.int .i64 dirN, vt]] w (RestartQ B (c + N + 1) g (restartV D dirN tails) w) := by
  obtain ⟨S, h1, h2, h3, h4⟩ := h
  refine (restart_any S c N g D dirN vt tails w h1 hN (fun W hf => ti_blk ht (fun k hk hl => hf.block k hl (fun hs => by have := h2 k hs; have := ha k hk; omega))) hd htl hc).mono fun e w' ⟨e1, hd, hf⟩ => ⟨e1, ⟨_, hd, fun q hq => ⟨?_, hd.lt q hq⟩, Nat.le_trans h3 hf.size, Nat.le_refl _⟩, hf.below (fun q hq => (h2 q hq).1) h3⟩
  rcases hq with hq | hq
  · exact (h2 q hq).1
  · omega
def ArmQ (B z c g : Nat) (D : DiskV) (w : World) (e : Ending) (w' : World) : Prop := e = .returned (.tuple #[]) ∧ DQ B z c w' g D ∧ Below B w w' ∧ w.heap.size ≤ w'.heap.size
theorem arm_q (n : Int) (h : DQ B z c w g D) (hn : n ≤ 9223372036854775807) :
    Calls Tryz.prog 15 #[.pointer (some ⟨g, 0, none⟩), .int .i64 n] w (ArmQ B z c g (armV D n) w) := by
  obtain ⟨S, h1, h2, h3, h4⟩ := h
  exact (arm_any S c g D n w h1 hn).mono fun e w' ⟨e1, hd, hf⟩ => ⟨e1, ⟨S, hd, h2, Nat.le_trans h3 hf.size, Nat.le_trans h4 hf.size⟩, hf.below (fun q hq => (h2 q hq).1) h3, hf.size⟩
theorem read_q (s : ByteArray) (h : DQ B z c w g D) (hs : s.size ≤ maxLen) : Calls Tryz.prog 18 #[.pointer (some ⟨g, 0, none⟩), .string s] w (ReadP D s w) := by
  obtain ⟨S, h1, _⟩ := h
  exact read_any S c g D s w h1 hs
theorem stat_q (s : ByteArray) (h : DQ B z c w g D) (hs : s.size ≤ maxLen) : Calls Tryz.prog 14 #[.pointer (some ⟨g, 0, none⟩), .string s] w (StatP D s w) := by
  obtain ⟨S, h1, _⟩ := h
  exact stat_any S c g D s w h1 hs
theorem down_q (h : DQ B z c w g D) : Calls Tryz.prog 23 #[.pointer (some ⟨g, 0, none⟩)] w fun e w' => e = .returned (.bool D.down) ∧ w' = w := by
  obtain ⟨S, h1, _⟩ := h
  exact down_any S c g D w h1
theorem deeds_q (h : DQ B z c w g D) : Calls Tryz.prog 22 #[.pointer (some ⟨g, 0, none⟩)] w fun e w' => e = .returned (.int .i64 (D.deeds : Int)) ∧ w' = w := by
  obtain ⟨S, h1, _⟩ := h
  exact deeds_any S c g D w h1
end
/-! ### Names that are paths -/
theorem right_f : rightB ⟨#[102]⟩ = true := by decide +kernel
theorem right_g : rightB ⟨#[103]⟩ = true := by decide +kernel
theorem right_log : rightB ⟨#[108, 111, 103]⟩ = true := by decide +kernel
theorem right_lognew : rightB ⟨#[108, 111, 103, 46, 110, 101, 119]⟩ = true := by decide +kernel
theorem right_own : rightB ⟨#[111, 119, 110, 47, 102, 105, 108, 101]⟩ = true := by decide +kernel
end Go.Proofs.YtononoakdebjeaaGreatDoor.Dk
namespace Go.Proofs.YtononoakdebjeaaGreatDoor.Dk
open Go.RowKit Go.Proofs.YtononoakdebjeaaGreatDoorW.PrintWords Go.Proofs.YtononoakdebjeaaGreatDoorW.PrintLast Go.Proofs.YtononoakdebjeaaGreatDoor.Base Go.Proofs.YtononoakdebjeaaGreatDoor.Path Go.Proofs.YtononoakdebjeaaGreatDoor.Pack Go.Maps
set_option linter.unusedVariables false
set_option linter.unusedSimpArgs false
theorem fresh04 {B : Nat} (w : World) (hB : B ≤ w.heap.size) :
    Calls Tryz.prog 10 #[] w fun e w' => ∃ g, e = .returned (.tuple #[.pointer (some ⟨g, 0, none⟩), .bool true]) ∧ DQ B w'.heap.size 1 w' g (newV 16777216 fun _ => ⟨[], 0, 0⟩) ∧ Below w.heap.size w w' := by
  go_enter Tryz.func10, Tryz.ntmps10
  go_wp2_with fail
  refine (new_q (B := B) 16777216 (Nat.le_refl _) w hB).mono ?_
  rintro e w1 ⟨g, rfl, d1, b1⟩
  have HD1 := Lib.hid d1
  have HB1 := Lib.hid b1
  clear d1 b1
  go_wp2
  go_ret2
  exact ⟨g, rfl, HD1.out, HB1.out⟩
/-- string(b) for no bytes. -/
theorem str_nil (w : World) : (convert 23 9 (.slice none 0 0)).run Tryz.prog w = .ok (.string (strOfNums [])) w := str_of (Bs.nil w)
theorem read_none {D : DiskV} {s : ByteArray} {w w' : World} {e : Ending} (h : ReadP D s w e w') (h1 : D.down = false) (h2 : look D.dir s = none) : e = .returned (.tuple #[.slice none 0 0, .int .i64 6]) ∧ Below w.heap.size w w' := by
  rcases h with ⟨h, _⟩ | ⟨_, _, h⟩ | ⟨_, i, v, h, _⟩
  · rw [h1] at h; cases h
  · exact h
  · rw [h2] at h; cases h
theorem read_some {D : DiskV} {s : ByteArray} {w w' : World} {e : Ending} (h : ReadP D s w e w') (h1 : D.down = false) {i : Nat} (h2 : look D.dir s = some i) : ∃ v, e = .returned (.tuple #[v, .int .i64 0]) ∧ Ow w w' v (D.fs i).b := by
  rcases h with ⟨h, _⟩ | ⟨_, h, _⟩ | ⟨_, j, v, h, h3, h4⟩
  · rw [h1] at h; cases h
  · rw [h2] at h; cases h
  · rw [h2] at h
    obtain rfl := Option.some.inj h
    exact ⟨v, h3, h4⟩
theorem stat_down {D : DiskV} {s : ByteArray} {w w' : World} {e : Ending} (h : StatP D s w e w') (h1 : D.down = true) : e = .returned (.tuple #[.agg #[.int .i64 0, .int .i64 0], .int .i64 8]) ∧ Below w.heap.size w w' := by
  obtain ⟨hb, ⟨_, h⟩ | ⟨h, _⟩ | ⟨h, _⟩⟩ := h
  · exact ⟨h, hb⟩
  · rw [h1] at h; cases h
  · rw [h1] at h; cases h
theorem stat_none {D : DiskV} {s : ByteArray} {w w' : World} {e : Ending} (h : StatP D s w e w') (h1 : D.down = false) (h2 : look D.dir s = none) : e = .returned (.tuple #[.agg #[.int .i64 0, .int .i64 0], .int .i64 6]) ∧ Below w.heap.size w w' := by
  obtain ⟨hb, ⟨h, _⟩ | ⟨_, _, h⟩ | ⟨_, i, h, _⟩⟩ := h
  · rw [h1] at h; cases h
  · exact ⟨h, hb⟩
  · rw [h2] at h; cases h
theorem stat_some {D : DiskV} {s : ByteArray} {w w' : World} {e : Ending} (h : StatP D s w e w') (h1 : D.down = false) {i : Nat} (h2 : look D.dir s = some i) : e = .returned (.tuple #[.agg #[.int .i64 ((D.fs i).b.length : Int), .int .i64 ((D.fs i).time : Int)], .int .i64 0]) ∧ Below w.heap.size w w' := by
  obtain ⟨hb, ⟨h, _⟩ | ⟨_, h, _⟩ | ⟨_, j, h, h3⟩⟩ := h
  · rw [h1] at h; cases h
  · rw [h2] at h; cases h
  · rw [h2] at h
    obtain rfl := Option.some.inj h
    exact ⟨h3, hb⟩
set_option maxRecDepth 100000 in
set_option maxHeartbeats 4000000 in
theorem awake04 (w : World) :
    Calls Tryz.prog 19 #[] w fun e w' => e = .returned (.bool true) ∧ Below w.heap.size w w' := by
  have kc := fun (w : World) (C : Array Value) (n c : Nat) => Lib.run_convert_bytes_const (P := Tryz.prog) w 23 5 C n c Tryz.underlying23 Tryz.underlying5
  have KC := Lib.hid kc
  clear kc
  go_enter Tryz.func19, Tryz.ntmps19
  go_wp2
  go_loopw [1] (fun i wr => ∃ k : Nat, k ≤ 2 ∧ i = .int .i64 k ∧ Hid (Below w.heap.size w wr)) (fun i _ => 2 - (intOf i).toNat)
  case atStart => exact ⟨0, by omega, rfl, Below.refl _ _⟩
  case round =>
    obtain ⟨k, hk, rfl, HB⟩ := hrel
    by_cases l1 : k < 2
    · go_wp2_with fail
      refine (new_q (B := w.heap.size) 100 (by omega) wr HB.out.size).mono ?_
      rintro e w1 ⟨g, rfl, d1, b1⟩
      have HD1 := Lib.hid d1
      have HB1 := Lib.hid (HB.out.trans (b1.mono HB.out.size))
      have kc := KC.out
      clear d1 b1
      go_wp2_with fail
      clear kc
      --S1
      obtain ⟨W, hW⟩ : ∃ W, W = w1.alloc (.cells #[.int .u8 97] 5 (1, 2)) := ⟨_, rfl⟩
      have hv : Bs W (.slice (some ⟨w1.heap.size, 0, none⟩) 1 1) [97] := by rw [hW]; exact Bs.mark w1 5 [97] 1 rfl (by simp) (1, 2)
      have hb : Below w1.heap.size w1 W := by rw [hW]; exact below_alloc (Below.refl _ _) _
      rw [← hW]
      refine (write_q ⟨#[102]⟩ _ [97] (HD1.out.below hb) (by decide) hv (fun q hq => .inr (by rw [← Option.some.inj hq]; exact Nat.le_refl _)) (by simp) (by omega)).mono ?_
      rintro e w2 ⟨D2, k2, rfl, d2, r2, b2⟩
      obtain ⟨rfl, j, o2, a2, _⟩ := (NoneI.new 100 _).writeD (by show (-1 : Int) ≠ 0; omega) right_f (by simp) (by simp) (by intro h; cases h) r2
      have HD2 := Lib.hid d2
      have HO2 := Lib.hid o2
      have HA2 : Hid (D2.armed = -1) := a2
      have HB2 := Lib.hid ((HB1.out.trans (hb.mono HB1.out.size)).trans (b2.mono (Nat.le_refl _)))
      have kc := KC.out
      clear d2 r2 o2 a2 b2 hW hv hb
      go_wp2_with fail
      clear kc
      --S2
      obtain ⟨W, hW⟩ : ∃ W, W = w2.alloc (.cells #[.int .u8 98] 5 (1, 2)) := ⟨_, rfl⟩
      have hv : Bs W (.slice (some ⟨w2.heap.size, 0, none⟩) 1 1) [98] := by rw [hW]; exact Bs.mark w2 5 [98] 1 rfl (by simp) (1, 2)
      have hb : Below w2.heap.size w2 W := by rw [hW]; exact below_alloc (Below.refl _ _) _
      rw [← hW]
      refine (append_q ⟨#[102]⟩ _ [98] (HD2.out.below hb) (by decide) hv (fun q hq => .inr (by rw [← Option.some.inj hq]; exact Nat.le_refl _)) (by simp) (by omega)).mono ?_
      rintro e w3 ⟨D3, k3, rfl, d3, r3, b3⟩
      obtain ⟨rfl, o3, a3, _⟩ := HO2.out.appendD (by rw [HA2.out]; omega) right_f (by simp) (by simp) r3
      have HD3 := Lib.hid d3
      have HO3 := Lib.hid o3
      have HA3 : Hid (D3.armed = -1) := a3.trans (count_minus HA2.out)
      have HB3 := Lib.hid ((HB2.out.trans (hb.mono HB2.out.size)).trans (b3.mono (Nat.le_refl _)))
      clear d3 r3 o3 a3 b3 hW hv hb
      go_wp2_with fail
      --S3
      refine (sync_q ⟨#[102]⟩ HD3.out (by decide) (by omega)).mono ?_
      rintro e w4 ⟨D4, k4, rfl, d4, r4, b4⟩
      obtain ⟨rfl, o4, a4, _⟩ := HO3.out.syncD (by rw [HA3.out]; omega) right_f r4
      have HD4 := Lib.hid d4
      have HO4 := Lib.hid o4
      have HB4 := Lib.hid (HB3.out.trans (b4.mono (Nat.le_refl _)))
      clear d4 r4 o4 a4 b4
      go_wp2_with fail
      --S4
      refine (restart_q 1 (k : Int) (.slice none 0 0) [] HD4.out (by have h := HO4.out.sy; rw [if_neg (by decide)] at h; rw [h.1, h.2]; exact Nat.le_refl _) ⟨none, 0, rfl, by rfl, by simp, fun h => absurd h (Nat.lt_irrefl 0)⟩ (fun q hq => by cases hq) (by omega) (by simp) (by omega)).mono ?_
      rintro e w5 ⟨rfl, d5, b5⟩
      have HD5 := Lib.hid d5
      have HB5 := Lib.hid (HB4.out.trans (b5.mono (Nat.le_refl _)))
      clear d5 b5
      go_wp2_with fail
      --S5
      refine (read_q ⟨#[102]⟩ HD5.out (by decide)).mono ?_
      rintro e w6 hr
      by_cases hkz : k = 0
      · have b0 : ((k : Int) == 0) = true := by rw [hkz]; rfl
        have b1 : ((k : Int) == 1) = false := by rw [hkz]; rfl
        have hk0 : look (restartV D4 (k : Int) []).dir ⟨#[102]⟩ = none := by
          rw [(restart_dir D4 _ []).1, hkz]
          unfold keptV
          have h := HO4.out.sy
          rw [if_neg (by decide)] at h
          rw [h.1, h.2]
          rfl
        obtain ⟨h6, b6⟩ := read_none hr (restart_dir D4 _ []).2.2.2.2.1 hk0
        subst h6
        have HB6 := Lib.hid (HB5.out.trans (b6.mono HB5.out.size))
        clear hr hk0 b6 hkz
        go_wp2
        go_roundw
        case rel => exact ⟨k + 1, by omega, by go_num, HB6.out⟩
        case measure => simp [intOf]; omega
      · have b0 : ((k : Int) == 0) = false := by rw [beq_eq_false_iff_ne]; omega
        have b1 : ((k : Int) == 1) = true := by rw [beq_iff_eq]; omega
        have h7 := HO4.out.restart (by intro h; cases h) (k : Int) [] (.inr (by omega)) 2 (by rfl)
        rw [if_neg (by simp)] at h7
        obtain ⟨v6, rfl, o6⟩ := read_some hr h7.down (i := j) (by rw [h7.dir]; exact look_one _ _)
        rw [h7.file] at o6
        have HO6 : Hid (Ow w5 w6 v6 [97, 98]) := o6
        obtain ⟨A6, n6, c6, rfl, hn6⟩ := o6.slice
        obtain rfl : n6 = 2 := hn6
        have ks := str_of HO6.out.bs
        have k2 : ((strOfNums [97, 98]).toList == [97, 98]) = true := by decide +kernel
        have HB6 := Lib.hid (HB5.out.trans (HO6.out.below.mono HB5.out.size))
        clear hr h7 o6 hkz
        try clear hn6
        go_wp2
        go_roundw
        case rel => exact ⟨k + 1, by omega, by go_num, HB6.out⟩
        case measure => simp [intOf]; omega
    · go_wp2
      go_ret
      exact ⟨rfl, HB.out⟩
end Go.Proofs.YtononoakdebjeaaGreatDoor.Dk
namespace Go.Proofs.YtononoakdebjeaaGreatDoor.Dk
open Go.RowKit Go.Proofs.YtononoakdebjeaaGreatDoorW.PrintWords Go.Proofs.YtononoakdebjeaaGreatDoorW.PrintLast Go.Proofs.YtononoakdebjeaaGreatDoor.Base Go.Proofs.YtononoakdebjeaaGreatDoor.Path Go.Proofs.YtononoakdebjeaaGreatDoor.Pack Go.Maps
set_option linter.unusedVariables false
set_option linter.unusedSimpArgs false
/-- A disk, and bytes of one's own beside it. -/
def DO (w0 : World) (c : Nat) (w : World) (g : Nat) (D : DiskV) (v : Value) (xs : List Int) : Prop := ∃ S, Dk S c w g D ∧ (∀ k, S k → w0.heap.size ≤ k) ∧ Ow w0 w v xs ∧ ∀ k, v.ownBlock = some k → ¬ S k
def DeedO (w0 : World) (c g : Nat) (D : DiskV) (v : Value) (xs : List Int) (ok : Bool) (body : DiskV → DiskV → Nat → Prop) (e : Ending) (w' : World) : Prop :=
  ∃ D' k, e = .returned (.int .i64 ((k : Nat) : Int)) ∧ DO w0 (c + 3) w' g D' v xs ∧ DeedR D ok body D' k
section
variable {w0 w w' : World} {c g : Nat} {D : DiskV} {v : Value} {xs : List Int}
theorem DO.more {c' : Nat} (h : DO w0 c w g D v xs) (hc : c ≤ c') : DO w0 c' w g D v xs := by
  obtain ⟨S, h1, h2⟩ := h
  exact ⟨S, h1.more hc, h2⟩
theorem DO.below (h : DO w0 c w g D v xs) (hb : Below w.heap.size w w') : DO w0 c w' g D v xs := by
  obtain ⟨S, h1, h2, h3, h4⟩ := h
  exact ⟨S, h1.below hb, h2, h3.step hb, h4⟩
theorem DO.ow (h : DO w0 c w g D v xs) : Ow w0 w v xs := by
  obtain ⟨S, h1, h2, h3, h4⟩ := h
  exact h3
theorem DO.wide (h : DO w0 c w g D v xs) : Below w0.heap.size w0 w := h.ow.below
theorem DO.start {z : Nat} (h : DQ w0.heap.size z c w g D) (hb : Below w0.heap.size w0 w) : DO w0 c w g D (.slice none 0 0) [] := by
  obtain ⟨S, h1, h2, _⟩ := h
  exact ⟨S, h1, fun k hk => (h2 k hk).1, Ow.nil hb, fun k hk => by cases hk⟩
theorem deedO_of {S : Nat → Prop} {ok : Bool} {body : DiskV → DiskV → Nat → Prop} {e : Ending} (hd : Dk S c w g D) (h2 : ∀ k, S k → w0.heap.size ≤ k) (h3 : Ow w0 w v xs) (h4 : ∀ k, v.ownBlock = some k → ¬ S k) (h : DeedP S c g D ok body w e w') : DeedO w0 c g D v xs ok body e w' := by
  obtain ⟨D', k, h1, hd', hr, hf⟩ := h
  refine ⟨D', k, h1, ⟨_, hd', fun q hq => hq.elim (h2 q) (fun h => Nat.le_trans h3.below.size h.1), ⟨own_move h3.own (fun q hq => hf.block q (own_lt h3.own q hq) (h4 q hq)), h3.below.trans (hf.below h2 h3.below.size)⟩, fun q hq hs => hs.elim (h4 q hq) (fun h => ?_)⟩, hr⟩
  have := own_lt h3.own q hq
  omega
theorem DO.append (s : ByteArray) (u : Value) (ys : List Int) (h : DO w0 c w g D v xs) (hs : s.size ≤ maxLen) (hu : Bs w0 u ys) (hl : ys.length ≤ 1000000) (hc : c ≤ 40000000) :
    Calls Tryz.prog 45 #[.pointer (some ⟨g, 0, none⟩), .string s, u] w (DeedO w0 c g D v xs (rightB s) (AppendR s ys)) := by
  obtain ⟨S, h1, h2, h3, h4⟩ := h
  exact (append_any S c g D s u ys w h1 hs ⟨hu.below h3.below, fun k hk hl => ⟨fun hs => by have := h2 k hs; have := bs_lt hu hk hl; omega, by have := bs_lt hu hk hl; have := h3.below.size; omega⟩⟩ hl hc).mono fun e w' h => deedO_of h1 h2 h3 h4 h
theorem DO.sync (s : ByteArray) (h : DO w0 c w g D v xs) (hs : s.size ≤ maxLen) (hc : c ≤ 40000000) :
    Calls Tryz.prog 12 #[.pointer (some ⟨g, 0, none⟩), .string s] w (DeedO w0 c g D v xs (rightB s) (ThereR s SyncR)) := by
  obtain ⟨S, h1, h2, h3, h4⟩ := h
  exact (sync_any S c g D s w h1 hs hc).mono fun e w' h => deedO_of h1 h2 h3 h4 h
theorem DO.syncDir (h : DO w0 c w g D v xs) (hc : c ≤ 40000000) :
    Calls Tryz.prog 13 #[.pointer (some ⟨g, 0, none⟩)] w (DeedO w0 c g D v xs true SyncDirR) := by
  obtain ⟨S, h1, h2, h3, h4⟩ := h
  exact (syncDir_any S c g D w h1 hc).mono fun e w' h => deedO_of h1 h2 h3 h4 h
theorem DO.read (s : ByteArray) (h : DO w0 c w g D v xs) (hs : s.size ≤ maxLen) : Calls Tryz.prog 18 #[.pointer (some ⟨g, 0, none⟩), .string s] w (ReadP D s w) := by
  obtain ⟨S, h1, _⟩ := h
  exact read_any S c g D s w h1 hs
theorem DO.stat (s : ByteArray) (h : DO w0 c w g D v xs) (hs : s.size ≤ maxLen) : Calls Tryz.prog 14 #[.pointer (some ⟨g, 0, none⟩), .string s] w (StatP D s w) := by
  obtain ⟨S, h1, _⟩ := h
  exact stat_any S c g D s w h1 hs
/-- A restart that keeps so much of each file; what was made behind w, ahead of it, stands. -/
theorem DO.restart (N : Nat) (dirN tail : Int) {W : World} {z : Nat} (h : DO w0 c w g D v xs) (hb : Below w.heap.size w W) (hz : w.heap.size ≤ z) (hx : W.heap[z]? = some (.cells #[.int .i64 tail] 3 (0, 0))) (hN : D.sure.length + D.pend.length ≤ N) (hd : -9223372036854775808 ≤ dirN ∧ dirN ≤ 9223372036854775807) (hc : c + N ≤ 10000000) :
    Calls Tryz.prog 16 #[.pointer (some ⟨g, 0, none⟩), .agg #[.int .i64 dirN, .slice (some ⟨z, 0, none⟩) 1 1]] W fun e w' => e = .returned (.tuple #[]) ∧ DO w0 (c + N + 1) w' g (restartV D dirN [tail]) v xs ∧ ∀ k, w.heap.size ≤ k → k < W.heap.size → w'.heap[k]? = W.heap[k]? := by
  obtain ⟨S, h1, h2, h3, h4⟩ := h
  have h3' := h3.step hb
  have hS : ∀ k, w.heap.size ≤ k → ¬ S k := fun k hk hs => by have := h1.lt k hs; omega
  refine (restart_any S c N g D dirN _ [tail] W (h1.below hb) hN (fun W2 hf => ⟨_, 1, rfl, rfl, by simp, fun _ => ⟨_, rfl, fun i hi => ?_⟩⟩) hd (by simp) hc).mono fun e w' ⟨e1, hd', hf⟩ => ⟨e1, ⟨_, hd', fun q hq => hq.elim (h2 q) (fun h => Nat.le_trans h3'.below.size h.1), ⟨own_move h3'.own (fun q hq => hf.block q (own_lt h3'.own q hq) (h4 q hq)), h3'.below.trans (hf.below h2 h3'.below.size)⟩, fun q hq hs => hs.elim (h4 q hq) (fun h => ?_)⟩, fun k hk hl => hf.block k hl (hS k hk)⟩
  · obtain rfl : i = 0 := by simp at hi; omega
    exact blk_cell ((hf.block z (blk_lt hx) (hS z hz)).trans hx) 0
  · have := own_lt h3'.own q hq
    omega
section
variable {ops : Array Oper} {rest : List Oper} {o : Oper} {a : Act} {Q : Exit → Act → World → Prop} {W : World}
/-- One's own bytes grow; the disk stands. -/
theorem app_do (hgd : o.guard = none) (s x : Operand) (t : TypeId)
    (ho : o.op = .call { callee := .builtin .append, args := #[s, x], argTypes := #[t, t] })
    (ht : Tryz.prog.underlying t = some (.slice 5))
    (v u : Value) (xs ys : List Int) (hs : a.eval s = v) (hx : a.eval x = u)
    (HO : DO w0 c W g D v xs) (HR : Bs W u ys) (hl : xs.length + ys.length ≤ 140737488355328)
    (h : ∀ v1 w1, DO w0 c w1 g D v1 (xs ++ ys) → wpList Tryz.prog ops Q rest (a.put o.dst v1) w1) :
    Held (wpList Tryz.prog ops Q (o :: rest) a W) := by
  obtain ⟨S, hd, h2, h3, h4⟩ := HO
  obtain ⟨A, cp, rfl, hc, hr⟩ := HR
  refine Held.out (print_append_row w0.heap.size hgd s x t 5 .u8 1 ho ht info_u8 (by decide) v xs ys A _ cp hs hx h3.own hr h3.below h3.below.size (by omega) ?_)
  intro v1 w1 q1 q2 q3 q4
  refine h v1 w1 ⟨S, hd.foot (Foot.of_grown (S := fun k => v.ownBlock = some k) q3 (fun k hk => hk)) (fun k hk ht => h4 k ht hk), h2, ⟨q1, q2⟩, fun k hk hs => ?_⟩
  rcases q4 with q4 | ⟨b, q4, q5⟩
  · exact h4 k (q4 ▸ hk) hs
  · rw [q4] at hk
    obtain rfl := Option.some.inj hk
    have := hd.lt _ hs
    omega
end
end
end Go.Proofs.YtononoakdebjeaaGreatDoor.Dk
namespace Go.Proofs.YtononoakdebjeaaGreatDoor.Dk
open Go.RowKit Go.Proofs.YtononoakdebjeaaGreatDoorW.PrintWords Go.Proofs.YtononoakdebjeaaGreatDoorW.PrintLast Go.Proofs.YtononoakdebjeaaGreatDoor.Base Go.Proofs.YtononoakdebjeaaGreatDoor.Path Go.Proofs.YtononoakdebjeaaGreatDoor.Pack Go.Maps
set_option linter.unusedVariables false
set_option linter.unusedSimpArgs false
/-- A disk at block g, made since w0, and blocks K that are none of its own. -/
def KO (w0 : World) (c : Nat) (w : World) (g : Nat) (D : DiskV) (K : List (Nat × Obj)) : Prop :=
  ∃ S, Dk S c w g D ∧ (∀ k, S k → w0.heap.size ≤ k) ∧ Below w0.heap.size w0 w ∧ ∀ p ∈ K, ¬ S p.1 ∧ w.heap[p.1]? = some p.2
def KP (w0 : World) (c g : Nat) (D : DiskV) (K : List (Nat × Obj)) (ok : Bool) (body : DiskV → DiskV → Nat → Prop) (e : Ending) (w' : World) : Prop :=
  ∃ D' k, e = .returned (.int .i64 ((k : Nat) : Int)) ∧ KO w0 (c + 3) w' g D' K ∧ DeedR D ok body D' k
section
variable {w0 w w' : World} {c g : Nat} {D : DiskV} {K K' : List (Nat × Obj)}
theorem KO.more {c' : Nat} (h : KO w0 c w g D K) (hc : c ≤ c') : KO w0 c' w g D K := by
  obtain ⟨S, h1, h2⟩ := h
  exact ⟨S, h1.more hc, h2⟩
theorem KO.wide (h : KO w0 c w g D K) : Below w0.heap.size w0 w := by
  obtain ⟨S, h1, h2, h3, h4⟩ := h
  exact h3
theorem KO.ok (h : KO w0 c w g D K) : OkD c D := by
  obtain ⟨S, h1, _⟩ := h
  exact h1.ok
theorem KO.kept (h : KO w0 c w g D K) {p : Nat × Obj} (hp : p ∈ K) : w.heap[p.1]? = some p.2 := by
  obtain ⟨S, h1, h2, h3, h4⟩ := h
  exact (h4 p hp).2
theorem KO.sub (h : KO w0 c w g D K) (hs : ∀ p ∈ K', p ∈ K) : KO w0 c w g D K' := by
  obtain ⟨S, h1, h2, h3, h4⟩ := h
  exact ⟨S, h1, h2, h3, fun p hp => h4 p (hs p hp)⟩
theorem KO.below (h : KO w0 c w g D K) (hb : Below w.heap.size w w') : KO w0 c w' g D K := by
  obtain ⟨S, h1, h2, h3, h4⟩ := h
  exact ⟨S, h1.below hb, h2, h3.trans (hb.mono h3.size), fun p hp => ⟨(h4 p hp).1, (hb.block p.1 (blk_lt (h4 p hp).2)).trans (h4 p hp).2⟩⟩
/-- A block made since joins those that are kept. -/
theorem KO.add (h : KO w0 c w g D K) (hb : Below w.heap.size w w') {x : Nat} {o : Obj} (hx : w.heap.size ≤ x) (ho : w'.heap[x]? = some o) : KO w0 c w' g D ((x, o) :: K) := by
  obtain ⟨S, h1, h2, h3, h4⟩ := h
  refine ⟨S, h1.below hb, h2, h3.trans (hb.mono h3.size), fun p hp => ?_⟩
  rcases List.mem_cons.1 hp with rfl | hp
  · exact ⟨fun hs => by have := h1.lt _ hs; simp only at this; omega, ho⟩
  · exact ⟨(h4 p hp).1, (hb.block p.1 (blk_lt (h4 p hp).2)).trans (h4 p hp).2⟩
theorem KO.start {z : Nat} (h : DQ w0.heap.size z c w g D) (hb : Below w0.heap.size w0 w) : KO w0 c w g D [] := by
  obtain ⟨S, h1, h2, _⟩ := h
  exact ⟨S, h1, fun k hk => (h2 k hk).1, hb, fun p hp => by cases hp⟩
theorem KO.toQ (h : KO w0 c w g D K) : DQ w0.heap.size w.heap.size c w g D := by
  obtain ⟨S, h1, h2, h3, h4⟩ := h
  exact ⟨S, h1, fun k hk => ⟨h2 k hk, h1.lt k hk⟩, h3.size, Nat.le_refl _⟩
theorem kp_of {S : Nat → Prop} {ok : Bool} {body : DiskV → DiskV → Nat → Prop} {e : Ending} (h2 : ∀ k, S k → w0.heap.size ≤ k) (h3 : Below w0.heap.size w0 w) (h4 : ∀ p ∈ K, ¬ S p.1 ∧ w.heap[p.1]? = some p.2) (h : DeedP S c g D ok body w e w') : KP w0 c g D K ok body e w' := by
  obtain ⟨D', k, h1, hd, hr, hf⟩ := h
  refine ⟨D', k, h1, ⟨_, hd, fun q hq => hq.elim (h2 q) (fun h => Nat.le_trans h3.size h.1), h3.trans (hf.below h2 h3.size), fun p hp => ⟨fun hs => hs.elim (h4 p hp).1 (fun h => ?_), foot_blk hf (h4 p hp).2 (h4 p hp).1⟩⟩, hr⟩
  have := blk_lt (h4 p hp).2
  omega
/-- Bytes that lie apart: old ones, or of a kept block. -/
def Bk (w0 w : World) (K : List (Nat × Obj)) (v : Value) (xs : List Int) : Prop := Bs w v xs ∧ (0 < xs.length → ∀ k, v.ownBlock = some k → k < w0.heap.size ∨ ∃ p ∈ K, p.1 = k)
theorem bk_o {S : Nat → Prop} {v : Value} {xs : List Int} (h2 : ∀ k, S k → w0.heap.size ≤ k) (h4 : ∀ p ∈ K, ¬ S p.1 ∧ w.heap[p.1]? = some p.2) (hv : Bk w0 w K v xs) : BsO S w v xs :=
  ⟨hv.1, fun k hk hl => ⟨fun hs => by
    rcases hv.2 hl k hk with h | ⟨p, hp, rfl⟩
    · have := h2 k hs; omega
    · exact (h4 p hp).1 hs, bs_lt hv.1 hk hl⟩⟩
theorem KP.sub {ok : Bool} {body : DiskV → DiskV → Nat → Prop} {e : Ending} (h : KP w0 c g D K ok body e w') (hs : ∀ p ∈ K', p ∈ K) : KP w0 c g D K' ok body e w' := by
  obtain ⟨D', k, h1, h2, h3⟩ := h
  exact ⟨D', k, h1, h2.sub hs, h3⟩
/-- Bytes made since join what is kept. -/
theorem KO.ow {w1 : World} {v : Value} {xs : List Int} (h : KO w0 c w g D K) (ho : Ow w w1 v xs) : ∃ K', KO w0 c w1 g D K' ∧ (∀ p ∈ K, p ∈ K') ∧ Bk w0 w1 K' v xs := by
  cases hk : v.ownBlock with
  | none => exact ⟨K, h.below ho.below, fun _ h => h, ho.bs, fun _ k h => by rw [hk] at h; cases h⟩
  | some b =>
    obtain ⟨cells, hc⟩ := own_typed ho.own b hk
    exact ⟨_, h.add ho.below (own_base ho.own b hk) hc, fun p hp => .tail _ hp, ho.bs, fun _ k h => .inr ⟨_, .head _, Option.some.inj (hk.symm.trans h)⟩⟩
theorem KO.write (s : ByteArray) (u : Value) (ys : List Int) (h : KO w0 c w g D K) (hs : s.size ≤ maxLen) (hu : Bk w0 w K u ys) (hl : ys.length ≤ 1000000) (hc : c ≤ 40000000) :
    Calls Tryz.prog 11 #[.pointer (some ⟨g, 0, none⟩), .string s, u] w (KP w0 c g D K (rightB s) (FreshR s ys)) := by
  obtain ⟨S, h1, h2, h3, h4⟩ := h
  exact (write_any S c g D s u ys w h1 hs (bk_o h2 h4 hu) hl hc).mono fun e w' h => kp_of h2 h3 h4 h
theorem KO.append (s : ByteArray) (u : Value) (ys : List Int) (h : KO w0 c w g D K) (hs : s.size ≤ maxLen) (hu : Bk w0 w K u ys) (hl : ys.length ≤ 1000000) (hc : c ≤ 40000000) :
    Calls Tryz.prog 45 #[.pointer (some ⟨g, 0, none⟩), .string s, u] w (KP w0 c g D K (rightB s) (AppendR s ys)) := by
  obtain ⟨S, h1, h2, h3, h4⟩ := h
  exact (append_any S c g D s u ys w h1 hs (bk_o h2 h4 hu) hl hc).mono fun e w' h => kp_of h2 h3 h4 h
theorem KO.sync (s : ByteArray) (h : KO w0 c w g D K) (hs : s.size ≤ maxLen) (hc : c ≤ 40000000) :
    Calls Tryz.prog 12 #[.pointer (some ⟨g, 0, none⟩), .string s] w (KP w0 c g D K (rightB s) (ThereR s SyncR)) := by
  obtain ⟨S, h1, h2, h3, h4⟩ := h
  exact (sync_any S c g D s w h1 hs hc).mono fun e w' h => kp_of h2 h3 h4 h
theorem KO.syncDir (h : KO w0 c w g D K) (hc : c ≤ 40000000) :
    Calls Tryz.prog 13 #[.pointer (some ⟨g, 0, none⟩)] w (KP w0 c g D K true SyncDirR) := by
  obtain ⟨S, h1, h2, h3, h4⟩ := h
  exact (syncDir_any S c g D w h1 hc).mono fun e w' h => kp_of h2 h3 h4 h
theorem KO.rename (s r : ByteArray) (h : KO w0 c w g D K) (hs : s.size ≤ maxLen) (hr : r.size ≤ maxLen) (hc : c ≤ 40000000) :
    Calls Tryz.prog 47 #[.pointer (some ⟨g, 0, none⟩), .string s, .string r] w (KP w0 c g D K (rightB s && rightB r) (ThereR s (RenameR s r))) := by
  obtain ⟨S, h1, h2, h3, h4⟩ := h
  exact (rename_any S c g D s r w h1 hs hr hc).mono fun e w' h => kp_of h2 h3 h4 h
theorem KO.remove (s : ByteArray) (h : KO w0 c w g D K) (hs : s.size ≤ maxLen) (hc : c ≤ 40000000) :
    Calls Tryz.prog 48 #[.pointer (some ⟨g, 0, none⟩), .string s] w (KP w0 c g D K (rightB s) (ThereR s (RemoveR s))) := by
  obtain ⟨S, h1, h2, h3, h4⟩ := h
  exact (remove_any S c g D s w h1 hs hc).mono fun e w' h => kp_of h2 h3 h4 h
theorem KO.cut (s : ByteArray) (n : Int) (h : KO w0 c w g D K) (hs : s.size ≤ maxLen) (hn : -9223372036854775808 ≤ n ∧ n ≤ 9223372036854775807) (hc : c ≤ 40000000) :
    Calls Tryz.prog 46 #[.pointer (some ⟨g, 0, none⟩), .string s, .int .i64 n] w (KP w0 c g D K (rightB s) (ThereR s (CutR n))) := by
  obtain ⟨S, h1, h2, h3, h4⟩ := h
  exact (cut_any S c g D s n w h1 hs hn hc).mono fun e w' h => kp_of h2 h3 h4 h
theorem KO.read (s : ByteArray) (h : KO w0 c w g D K) (hs : s.size ≤ maxLen) : Calls Tryz.prog 18 #[.pointer (some ⟨g, 0, none⟩), .string s] w (ReadP D s w) := by
  obtain ⟨S, h1, _⟩ := h
  exact read_any S c g D s w h1 hs
theorem KO.stat (s : ByteArray) (h : KO w0 c w g D K) (hs : s.size ≤ maxLen) : Calls Tryz.prog 14 #[.pointer (some ⟨g, 0, none⟩), .string s] w (StatP D s w) := by
  obtain ⟨S, h1, _⟩ := h
  exact stat_any S c g D s w h1 hs
theorem KO.arm (n : Int) (h : KO w0 c w g D K) (hn : n ≤ 9223372036854775807) :
    Calls Tryz.prog 15 #[.pointer (some ⟨g, 0, none⟩), .int .i64 n] w fun e w' => e = .returned (.tuple #[]) ∧ KO w0 c w' g (armV D n) K := by
  obtain ⟨S, h1, h2, h3, h4⟩ := h
  exact (arm_any S c g D n w h1 hn).mono fun e w' ⟨e1, hd, hf⟩ => ⟨e1, ⟨S, hd, h2, h3.trans (hf.below h2 h3.size), fun p hp => ⟨(h4 p hp).1, foot_blk hf (h4 p hp).2 (h4 p hp).1⟩⟩⟩
end
end Go.Proofs.YtononoakdebjeaaGreatDoor.Dk
namespace Go.Proofs.YtononoakdebjeaaGreatDoor.Dk
open Go.RowKit Go.Proofs.YtononoakdebjeaaGreatDoorW.PrintWords Go.Proofs.YtononoakdebjeaaGreatDoorW.PrintLast Go.Proofs.YtononoakdebjeaaGreatDoor.Base Go.Proofs.YtononoakdebjeaaGreatDoor.Path Go.Proofs.YtononoakdebjeaaGreatDoor.Pack Go.Maps
set_option linter.unusedVariables false
set_option linter.unusedSimpArgs false
/-- A disk at block g, made since w0; the blocks T, made since w0 too, are none of its own. -/
def DU (w0 : World) (T : Nat → Prop) (c : Nat) (w : World) (g : Nat) (D : DiskV) : Prop :=
  ∃ S, Dk S c w g D ∧ (∀ k, S k → w0.heap.size ≤ k) ∧ Below w0.heap.size w0 w ∧ ∀ k, T k → ¬ S k ∧ w0.heap.size ≤ k ∧ k < w.heap.size
/-- The blocks T are as they were. -/
def Kpt (T : Nat → Prop) (w w' : World) : Prop := ∀ k, T k → w'.heap[k]? = w.heap[k]?
def UP (w0 : World) (T : Nat → Prop) (c g : Nat) (D : DiskV) (ok : Bool) (body : DiskV → DiskV → Nat → Prop) (w : World) (e : Ending) (w' : World) : Prop :=
  ∃ D' k, e = .returned (.int .i64 ((k : Nat) : Int)) ∧ DU w0 T (c + 3) w' g D' ∧ DeedR D ok body D' k ∧ Kpt T w w'
/-- Bytes that lie apart from the disk. -/
def BU (w0 w : World) (T : Nat → Prop) (v : Value) (xs : List Int) : Prop := Bs w v xs ∧ (0 < xs.length → ∀ k, v.ownBlock = some k → k < w0.heap.size ∨ T k)
section
variable {w0 w w' : World} {T U : Nat → Prop} {c g : Nat} {D : DiskV}
theorem Kpt.refl : Kpt T w w := fun _ _ => rfl
theorem Kpt.trans {w2 : World} (h : Kpt T w w') (h2 : Kpt T w' w2) : Kpt T w w2 := fun k hk => (h2 k hk).trans (h k hk)
theorem Kpt.sub (h : Kpt T w w') (hs : ∀ k, U k → T k) : Kpt U w w' := fun k hk => h k (hs k hk)
theorem DU.more {c' : Nat} (h : DU w0 T c w g D) (hc : c ≤ c') : DU w0 T c' w g D := by
  obtain ⟨S, h1, h2⟩ := h
  exact ⟨S, h1.more hc, h2⟩
theorem DU.wide (h : DU w0 T c w g D) : Below w0.heap.size w0 w := by
  obtain ⟨S, h1, h2, h3, h4⟩ := h
  exact h3
theorem DU.ok (h : DU w0 T c w g D) : OkD c D := by
  obtain ⟨S, h1, _⟩ := h
  exact h1.ok
theorem DU.lt (h : DU w0 T c w g D) {k : Nat} (hk : T k) : k < w.heap.size := by
  obtain ⟨S, h1, h2, h3, h4⟩ := h
  exact (h4 k hk).2.2
theorem DU.ge (h : DU w0 T c w g D) {k : Nat} (hk : T k) : w0.heap.size ≤ k := by
  obtain ⟨S, h1, h2, h3, h4⟩ := h
  exact (h4 k hk).2.1
theorem DU.sub (h : DU w0 T c w g D) (hs : ∀ k, U k → T k) : DU w0 U c w g D := by
  obtain ⟨S, h1, h2, h3, h4⟩ := h
  exact ⟨S, h1, h2, h3, fun k hk => h4 k (hs k hk)⟩
theorem DU.start {z : Nat} (h : DQ w0.heap.size z c w g D) (hb : Below w0.heap.size w0 w) : DU w0 (fun _ => False) c w g D := by
  obtain ⟨S, h1, h2, _⟩ := h
  exact ⟨S, h1, fun k hk => (h2 k hk).1, hb, fun k hk => hk.elim⟩
theorem DU.toQ (h : DU w0 T c w g D) : DQ w0.heap.size w.heap.size c w g D := by
  obtain ⟨S, h1, h2, h3, h4⟩ := h
  exact ⟨S, h1, fun k hk => ⟨h2 k hk, h1.lt k hk⟩, h3.size, Nat.le_refl _⟩
theorem DU.below (h : DU w0 T c w g D) (hb : Below w.heap.size w w') : DU w0 T c w' g D := by
  obtain ⟨S, h1, h2, h3, h4⟩ := h
  exact ⟨S, h1.below hb, h2, h3.trans (hb.mono h3.size), fun k hk => ⟨(h4 k hk).1, (h4 k hk).2.1, Nat.lt_of_lt_of_le (h4 k hk).2.2 hb.size⟩⟩
theorem DU.kpt (h : DU w0 T c w g D) (hb : Below w.heap.size w w') : Kpt T w w' := fun k hk => hb.block k (h.lt hk)
/-- Blocks made since join those of the caller's. -/
theorem DU.add (h : DU w0 T c w g D) (hb : Below w.heap.size w w') (hU : ∀ k, U k → w.heap.size ≤ k ∧ k < w'.heap.size) : DU w0 (fun k => T k ∨ U k) c w' g D := by
  obtain ⟨S, h1, h2, h3, h4⟩ := h
  refine ⟨S, h1.below hb, h2, h3.trans (hb.mono h3.size), fun k hk => ?_⟩
  rcases hk with hk | hk
  · exact ⟨(h4 k hk).1, (h4 k hk).2.1, Nat.lt_of_lt_of_le (h4 k hk).2.2 hb.size⟩
  · have := hU k hk
    have h5 := h3.size
    exact ⟨fun hs => by have := h1.lt _ hs; omega, by omega, this.2⟩
/-- The caller writes its own blocks, and makes new ones. -/
theorem DU.own (h : DU w0 T c w g D) (hf : Foot T w w') : DU w0 (Sx T w w') c w' g D := by
  obtain ⟨S, h1, h2, h3, h4⟩ := h
  refine ⟨S, h1.foot hf (fun k hk ht => (h4 k ht).1 hk), h2, h3.trans (hf.below (fun k hk => (h4 k hk).2.1) h3.size), fun k hk => ?_⟩
  rcases hk with hk | hk
  · exact ⟨(h4 k hk).1, (h4 k hk).2.1, Nat.lt_of_lt_of_le (h4 k hk).2.2 hf.size⟩
  · have h5 := h3.size
    exact ⟨fun hs => by have := h1.lt _ hs; omega, by omega, hk.2⟩
theorem up_of {S : Nat → Prop} {ok : Bool} {body : DiskV → DiskV → Nat → Prop} {e : Ending} (h2 : ∀ k, S k → w0.heap.size ≤ k) (h3 : Below w0.heap.size w0 w) (h4 : ∀ k, T k → ¬ S k ∧ w0.heap.size ≤ k ∧ k < w.heap.size) (h : DeedP S c g D ok body w e w') : UP w0 T c g D ok body w e w' := by
  obtain ⟨D', k, h1, hd, hr, hf⟩ := h
  refine ⟨D', k, h1, ⟨_, hd, fun q hq => hq.elim (h2 q) (fun h => Nat.le_trans h3.size h.1), h3.trans (hf.below h2 h3.size), fun q hq => ⟨fun hs => hs.elim (h4 q hq).1 (fun h => ?_), (h4 q hq).2.1, Nat.lt_of_lt_of_le (h4 q hq).2.2 hf.size⟩⟩, hr, fun q hq => hf.block q (h4 q hq).2.2 (h4 q hq).1⟩
  have := (h4 q hq).2.2
  omega
theorem bu_o {S : Nat → Prop} {v : Value} {xs : List Int} (h2 : ∀ k, S k → w0.heap.size ≤ k) (h4 : ∀ k, T k → ¬ S k ∧ w0.heap.size ≤ k ∧ k < w.heap.size) (hv : BU w0 w T v xs) : BsO S w v xs :=
  ⟨hv.1, fun k hk hl => ⟨fun hs => by
    rcases hv.2 hl k hk with h | h
    · have := h2 k hs; omega
    · exact (h4 k h).1 hs, bs_lt hv.1 hk hl⟩⟩
theorem BU.old {v : Value} {xs : List Int} (h : DU w0 T c w g D) (hv : Bs w0 v xs) : BU w0 w T v xs := ⟨hv.below h.wide, fun hl k hk => .inl (bs_lt hv hk hl)⟩
/-- Bytes made since join the caller's blocks. -/
theorem DU.ow {v : Value} {xs : List Int} (h : DU w0 T c w g D) (ho : Ow w w' v xs) : DU w0 (fun k => T k ∨ v.ownBlock = some k) c w' g D ∧ BU w0 w' (fun k => T k ∨ v.ownBlock = some k) v xs :=
  ⟨h.add ho.below (fun k hk => ⟨own_base ho.own k hk, own_lt ho.own k hk⟩), ho.bs, fun _ k hk => .inr (.inr hk)⟩
theorem UP.sub {ok : Bool} {body : DiskV → DiskV → Nat → Prop} {e : Ending} (h : UP w0 T c g D ok body w e w') (hs : ∀ k, U k → T k) : UP w0 U c g D ok body w e w' := by
  obtain ⟨D', k, h1, h2, h3, h4⟩ := h
  exact ⟨D', k, h1, h2.sub hs, h3, h4.sub hs⟩
theorem UP.from {W : World} {ok : Bool} {body : DiskV → DiskV → Nat → Prop} {e : Ending} (h : UP w0 T c g D ok body W e w') (hk : Kpt T w W) : UP w0 T c g D ok body w e w' := by
  obtain ⟨D', k, h1, h2, h3, h4⟩ := h
  exact ⟨D', k, h1, h2, h3, hk.trans h4⟩
theorem DU.write (s : ByteArray) (u : Value) (ys : List Int) (h : DU w0 T c w g D) (hs : s.size ≤ maxLen) (hu : BU w0 w T u ys) (hl : ys.length ≤ 1000000) (hc : c ≤ 40000000) :
    Calls Tryz.prog 11 #[.pointer (some ⟨g, 0, none⟩), .string s, u] w (UP w0 T c g D (rightB s) (FreshR s ys) w) := by
  obtain ⟨S, h1, h2, h3, h4⟩ := h
  exact (write_any S c g D s u ys w h1 hs (bu_o h2 h4 hu) hl hc).mono fun e w' h => up_of h2 h3 h4 h
theorem DU.append (s : ByteArray) (u : Value) (ys : List Int) (h : DU w0 T c w g D) (hs : s.size ≤ maxLen) (hu : BU w0 w T u ys) (hl : ys.length ≤ 1000000) (hc : c ≤ 40000000) :
    Calls Tryz.prog 45 #[.pointer (some ⟨g, 0, none⟩), .string s, u] w (UP w0 T c g D (rightB s) (AppendR s ys) w) := by
  obtain ⟨S, h1, h2, h3, h4⟩ := h
  exact (append_any S c g D s u ys w h1 hs (bu_o h2 h4 hu) hl hc).mono fun e w' h => up_of h2 h3 h4 h
theorem DU.sync (s : ByteArray) (h : DU w0 T c w g D) (hs : s.size ≤ maxLen) (hc : c ≤ 40000000) :
    Calls Tryz.prog 12 #[.pointer (some ⟨g, 0, none⟩), .string s] w (UP w0 T c g D (rightB s) (ThereR s SyncR) w) := by
  obtain ⟨S, h1, h2, h3, h4⟩ := h
  exact (sync_any S c g D s w h1 hs hc).mono fun e w' h => up_of h2 h3 h4 h
theorem DU.syncDir (h : DU w0 T c w g D) (hc : c ≤ 40000000) :
    Calls Tryz.prog 13 #[.pointer (some ⟨g, 0, none⟩)] w (UP w0 T c g D true SyncDirR w) := by
  obtain ⟨S, h1, h2, h3, h4⟩ := h
  exact (syncDir_any S c g D w h1 hc).mono fun e w' h => up_of h2 h3 h4 h
theorem DU.rename (s r : ByteArray) (h : DU w0 T c w g D) (hs : s.size ≤ maxLen) (hr : r.size ≤ maxLen) (hc : c ≤ 40000000) :
    Calls Tryz.prog 47 #[.pointer (some ⟨g, 0, none⟩), .string s, .string r] w (UP w0 T c g D (rightB s && rightB r) (ThereR s (RenameR s r)) w) := by
  obtain ⟨S, h1, h2, h3, h4⟩ := h
  exact (rename_any S c g D s r w h1 hs hr hc).mono fun e w' h => up_of h2 h3 h4 h
theorem DU.remove (s : ByteArray) (h : DU w0 T c w g D) (hs : s.size ≤ maxLen) (hc : c ≤ 40000000) :
    Calls Tryz.prog 48 #[.pointer (some ⟨g, 0, none⟩), .string s] w (UP w0 T c g D (rightB s) (ThereR s (RemoveR s)) w) := by
  obtain ⟨S, h1, h2, h3, h4⟩ := h
  exact (remove_any S c g D s w h1 hs hc).mono fun e w' h => up_of h2 h3 h4 h
theorem DU.cut (s : ByteArray) (n : Int) (h : DU w0 T c w g D) (hs : s.size ≤ maxLen) (hn : -9223372036854775808 ≤ n ∧ n ≤ 9223372036854775807) (hc : c ≤ 40000000) :
    Calls Tryz.prog 46 #[.pointer (some ⟨g, 0, none⟩), .string s, .int .i64 n] w (UP w0 T c g D (rightB s) (ThereR s (CutR n)) w) := by
  obtain ⟨S, h1, h2, h3, h4⟩ := h
  exact (cut_any S c g D s n w h1 hs hn hc).mono fun e w' h => up_of h2 h3 h4 h
theorem DU.read (s : ByteArray) (h : DU w0 T c w g D) (hs : s.size ≤ maxLen) : Calls Tryz.prog 18 #[.pointer (some ⟨g, 0, none⟩), .string s] w (ReadP D s w) := by
  obtain ⟨S, h1, _⟩ := h
  exact read_any S c g D s w h1 hs
theorem DU.stat (s : ByteArray) (h : DU w0 T c w g D) (hs : s.size ≤ maxLen) : Calls Tryz.prog 14 #[.pointer (some ⟨g, 0, none⟩), .string s] w (StatP D s w) := by
  obtain ⟨S, h1, _⟩ := h
  exact stat_any S c g D s w h1 hs
theorem DU.downs (h : DU w0 T c w g D) : Calls Tryz.prog 23 #[.pointer (some ⟨g, 0, none⟩)] w fun e w' => e = .returned (.bool D.down) ∧ w' = w := by
  obtain ⟨S, h1, _⟩ := h
  exact down_any S c g D w h1
theorem DU.arm (n : Int) (h : DU w0 T c w g D) (hn : n ≤ 9223372036854775807) :
    Calls Tryz.prog 15 #[.pointer (some ⟨g, 0, none⟩), .int .i64 n] w fun e w' => e = .returned (.tuple #[]) ∧ DU w0 T c w' g (armV D n) ∧ Kpt T w w' := by
  obtain ⟨S, h1, h2, h3, h4⟩ := h
  exact (arm_any S c g D n w h1 hn).mono fun e w' ⟨e1, hd, hf⟩ => ⟨e1, ⟨S, hd, h2, h3.trans (hf.below h2 h3.size), fun k hk => ⟨(h4 k hk).1, (h4 k hk).2.1, Nat.lt_of_lt_of_le (h4 k hk).2.2 hf.size⟩⟩, fun k hk => hf.block k (h4 k hk).2.2 (h4 k hk).1⟩
theorem DU.restart (N : Nat) (dirN : Int) (vt : Value) (tails : List Int) (h : DU w0 T c w g D) (hN : D.sure.length + D.pend.length ≤ N) (ht : Ti w vt tails) (ha : 0 < tails.length → ∀ k, vt.ownBlock = some k → k < w0.heap.size ∨ T k) (hd : -9223372036854775808 ≤ dirN ∧ dirN ≤ 9223372036854775807) (htl : tails.length ≤ 1000000) (hc : c + N ≤ 10000000) :
    Calls Tryz.prog 16 #[.pointer (some ⟨g, 0, none⟩), .agg #[.int .i64 dirN, vt]] w fun e w' => e = .returned (.tuple #[]) ∧ DU w0 T (c + N + 1) w' g (restartV D dirN tails) ∧ Kpt T w w' := by
  obtain ⟨S, h1, h2, h3, h4⟩ := h
  have hTi : ∀ W, Foot S w W → Ti W vt tails := fun W hf => by
    by_cases hl : 0 < tails.length
    · exact ti_blk ht (fun k hk hlt => hf.block k hlt (fun hs => by
        rcases ha hl k hk with h5 | h5
        · have := h2 k hs; omega
        · exact (h4 k h5).1 hs))
    · obtain ⟨A, cp, rfl, a1, a2, a3⟩ := ht
      exact ⟨A, cp, rfl, a1, a2, fun h5 => absurd h5 (by omega)⟩
  refine (restart_any S c N g D dirN vt tails w h1 hN hTi hd htl hc).mono fun e w' ⟨e1, hd, hf⟩ => ⟨e1, ⟨_, hd, fun q hq => hq.elim (h2 q) (fun h => Nat.le_trans h3.size h.1), h3.trans (hf.below h2 h3.size), fun q hq => ⟨fun hs => hs.elim (h4 q hq).1 (fun h => ?_), (h4 q hq).2.1, Nat.lt_of_lt_of_le (h4 q hq).2.2 hf.size⟩⟩, fun k hk => hf.block k (h4 k hk).2.2 (h4 k hk).1⟩
  have := (h4 q hq).2.2
  omega
open Classical in
/-- The caller's blocks as a row of kept ones. -/
theorem DU.ko (h : DU w0 T c w g D) : ∃ K, KO w0 c w g D K ∧ ∀ k, T k → ∃ o, w.heap[k]? = some o ∧ (k, o) ∈ K := by
  obtain ⟨S, h1, h2, h3, h4⟩ := h
  refine ⟨(List.range w.heap.size).filterMap fun k => if T k then (w.heap[k]?).map (fun o => (k, o)) else none, ⟨S, h1, h2, h3, fun p hp => ?_⟩, fun k hk => ?_⟩
  · obtain ⟨k, _, hk⟩ := List.mem_filterMap.1 hp
    split at hk
    · rename_i ht
      obtain ⟨o, ho, rfl⟩ := Option.map_eq_some_iff.1 hk
      exact ⟨(h4 k ht).1, ho⟩
    · cases hk
  · have hl := (h4 k hk).2.2
    refine ⟨_, Array.getElem?_eq_getElem hl, List.mem_filterMap.2 ⟨k, List.mem_range.2 hl, ?_⟩⟩
    rw [if_pos hk, Array.getElem?_eq_getElem hl]
    rfl
theorem KO.du {K : List (Nat × Obj)} (h : KO w0 c w' g D K) (hk : ∀ k, T k → ∃ o, w.heap[k]? = some o ∧ (k, o) ∈ K) (hb : ∀ k, T k → w0.heap.size ≤ k) : DU w0 T c w' g D ∧ Kpt T w w' := by
  obtain ⟨S, h1, h2, h3, h4⟩ := h
  refine ⟨⟨S, h1, h2, h3, fun k ht => ?_⟩, fun k ht => ?_⟩
  · obtain ⟨o, _, ho⟩ := hk k ht
    exact ⟨(h4 _ ho).1, hb k ht, blk_lt (h4 _ ho).2⟩
  · obtain ⟨o, ho1, ho⟩ := hk k ht
    rw [ho1]
    exact (h4 _ ho).2
end
end Go.Proofs.YtononoakdebjeaaGreatDoor.Dk
