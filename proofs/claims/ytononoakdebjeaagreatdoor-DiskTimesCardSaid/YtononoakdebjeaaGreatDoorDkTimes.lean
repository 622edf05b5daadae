/- What DiskTimes keeps: contents by their times; the names told. -/
import Derived.Test.YtononoakdebjeaaGreatDoorDiskSureW
import Derived.Test.YtononoakdebjeaaGreatDoorDkNames
import Derived.Deep.OwnRows
namespace Go.Proofs.YtononoakdebjeaaGreatDoor.Dk
open Go.RowKit Go.Proofs.YtononoakdebjeaaGreatDoorW.PrintWords Go.Proofs.YtononoakdebjeaaGreatDoorW.PrintLast Go.Proofs.YtononoakdebjeaaGreatDoor.Base Go.Proofs.YtononoakdebjeaaGreatDoor.Path Go.Proofs.YtononoakdebjeaaGreatDoor.Pack Go.Maps
set_option linter.unusedVariables false
set_option linter.unusedSimpArgs false
def txtH (H : Nat → Option (List Int)) (t : Nat) : ByteArray := match H t with | some c => strOfNums c | none => ByteArray.empty
structure HadW (w : World) (yc yh : Nat) (H : Nat → Option (List Int)) : Prop where
  c : w.rowIs yc 9 2000 (fun t => .string (txtH H t))
  h : w.rowIs yh 4 2000 (fun t => .bool (H t).isSome)
theorem HadW.move {w w' : World} {yc yh : Nat} {H : Nat → Option (List Int)} (h : HadW w yc yh H) (h1 : w'.heap[yc]? = w.heap[yc]?) (h2 : w'.heap[yh]? = w.heap[yh]?) : HadW w' yc yh H := ⟨h.c.of_block h1, h.h.of_block h2⟩
theorem HadW.see {w : World} {yc yh : Nat} {H : Nat → Option (List Int)} (h : HadW w yc yh H) (hne : yc ≠ yh) (t : Nat) (b : List Int) :
    HadW ((w.setCell ⟨yh, t, none⟩ (.bool true)).setCell ⟨yc, t, none⟩ (.string (strOfNums b))) yc yh (fun s => if s = t then some b else H s) := by
  refine ⟨((h.c.setOther (a := ⟨yh, t, none⟩) hne (.bool true)).set t _).congr (fun i _ => ?_), (((h.h.set t (.bool true)).setOther (a := ⟨yc, t, none⟩) (Ne.symm hne) _)).congr (fun i _ => ?_)⟩
  · unfold txtH
    by_cases e : i = t
    · simp only [if_pos e]
    · simp only [if_neg e]
  · by_cases e : i = t
    · simp only [if_pos e]
      rfl
    · simp only [if_neg e]
theorem mk_strs (W : World) : (Instr.makeSlice 48 (.int .i64 2000) (.int .i64 2000)).run Tryz.prog W = .ok (.slice (some ⟨W.heap.size, 0, none⟩) 2000 2000) (W.alloc (.cells (madeCells #[.string ByteArray.empty] 2000) 9)) :=
  run_make_row' 48 9 (.string ByteArray.empty) 16 Tryz.underlying48 (by kernel_rfl) rfl .i64 .i64 2000 (by omega) (by omega) W
theorem mk_boolsT (W : World) : (Instr.makeSlice 49 (.int .i64 2000) (.int .i64 2000)).run Tryz.prog W = .ok (.slice (some ⟨W.heap.size, 0, none⟩) 2000 2000) (W.alloc (.cells (madeCells #[.bool false] 2000) 4)) :=
  run_make_row' 49 4 (.bool false) 1 Tryz.underlying49 (by kernel_rfl) rfl .i64 .i64 2000 (by omega) (by omega) W
theorem had_new (w w1 : World) {yc yh : Nat} (h1 : w.heap.size = yc) (h2 : w1.heap[yc]? = (w.alloc (.cells (madeCells #[.string ByteArray.empty] 2000) 9)).heap[yc]?) (h3 : w1.heap.size = yh) :
    HadW (w1.alloc (.cells (madeCells #[.bool false] 2000) 4)) yc yh (fun _ => none) := by
  subst h1
  subst h3
  have a := (World.rowIs_made w (.string ByteArray.empty) 2000 9).of_block h2
  exact ⟨(a.alloc _).congr (fun i _ => rfl), (World.rowIs_made w1 (.bool false) 2000 4).congr (fun i _ => rfl)⟩
/-- The names as they are told. -/
structure NamesW (w : World) (D : DiskV) (A : Option Addr) (m : Nat) : Prop where
  at_ : ∀ i, i < m → ∃ ad s, A = some ad ∧ w.cell? (ad.add i) = some (.string s) ∧ D.down = false ∧ s.size ≤ maxLen ∧ ∃ n, Dk.look D.dir s = some n
theorem names_told {c : Nat} {D : DiskV} {w w' : World} {e : Ending} (ho : OkD c D) (h : NamesP D w e w') : ∃ A m cp, e = .returned (.slice A m cp) ∧ Below w.heap.size w w' ∧ m ≤ 9223372036854775807 ∧ NamesW w' D A m ∧ ∀ ad, A = some ad → w.heap.size ≤ ad.block ∧ ad.block < w'.heap.size := by
  obtain ⟨hb, ⟨_, rfl⟩ | ⟨hd, v, rfl, hr⟩⟩ := h
  · exact ⟨none, 0, 0, rfl, hb, by decide, ⟨fun i hi => absurd hi (Nat.not_lt_zero _)⟩, fun ad h => by cases h⟩
  · obtain ⟨A, cp, rfl⟩ := own_slice hr
    have hk : Kd.string.R 9 w' w.heap.size (fun _ => True) (.slice A D.dir.length cp) (D.dir.map (·.1)) := by
      have e1 : (pathsL D.dir).map encS = (D.dir.map (·.1)).map Value.string := by
        unfold pathsL
        rw [List.map_map, List.map_map]
        refine List.map_congr_left fun p _ => ?_
        show Value.string _ = Value.string _
        congr 1
      rw [e1] at hr
      have hr2 : w'.ownsRow w.heap.size 9 1 (.slice A D.dir.length cp) (D.dir.map (·.1)).length ((D.dir.map (·.1)).map Value.string) := by rw [List.length_map]; exact hr
      exact Kd.R_of_own (enc := Value.string) (h1 := fun _ => rfl) hr2 (fun _ _ => trivial)
    obtain ⟨A', c', e2, _, hC⟩ := Kd.R_reads hk
    injection e2 with e3 e4 e5
    subst e3
    refine ⟨A, D.dir.length, cp, rfl, hb, ?_, ⟨fun i hi => ?_⟩, fun ad had => ?_⟩
    · have := hC.2.1
      rw [List.length_map] at this
      exact this
    · obtain ⟨ad, ea, hc⟩ := hC.2.2 (by rw [List.length_map]; omega)
      have hi2 : i < (D.dir.map (·.1)).length := by rw [List.length_map]; exact hi
      obtain ⟨cs, _, hcs, hu⟩ := hc i _ (List.getElem?_eq_getElem hi2)
      have hp : D.dir[i] ∈ D.dir := List.getElem_mem hi
      refine ⟨ad, (D.dir[i]).1, ea, ?_, hd, ho.dirNames _ hp, _, look_of_mem ho.dirUp hp⟩
      have h0 := hu 0 (.string (D.dir[i]).1) (by rw [hcs]; simp)
      rwa [show i * Kd.string.sz + 0 = i from by show i * 1 + 0 = i; omega] at h0
    · rw [had] at hr
      exact ⟨own_base hr ad.block rfl, own_lt hr ad.block rfl⟩
theorem NamesW.move {w w' : World} {D : DiskV} {A : Option Addr} {m : Nat} (h : NamesW w D A m) (hk : ∀ ad, A = some ad → w'.heap[ad.block]? = w.heap[ad.block]?) : NamesW w' D A m := ⟨fun i hi => by
  obtain ⟨ad, s, e, hc, r⟩ := h.at_ i hi
  refine ⟨ad, s, e, ?_, r⟩
  rw [← hc]
  exact World.cell?_of_block (by rw [add_block]; exact hk ad e)⟩
theorem times_new (q : Nat) (fs : Nat → FileV) : TimesI (fun _ => none) (newV q fs) := by
  have hn : ∀ i, ¬ Has (newV q fs) i := fun i h => by
    rcases h with ⟨s, h⟩ | ⟨s, h⟩ | ⟨c, h, _⟩
    · cases h
    · cases h
    · cases h
  exact ⟨fun i h => absurd h (hn i), fun i _ h => absurd h (hn i), fun i _ h => absurd h (hn i), fun _ _ => rfl⟩
/-- What stands at the head of each round. -/
structure TimW (w0 : World) (g yc yh j : Nat) (wr : World) (c : Nat) (D : DiskV) (H : Nat → Option (List Int)) : Prop where
  du : DU w0 (fun q => q = yc ∨ q = yh) c wr g D
  times : TimesI H D
  had : HadW wr yc yh H
  sp : spN D ≤ j
  c : c ≤ 200 * (j + 1)
theorem TimW.next {w0 : World} {g yc yh j c c' : Nat} {wr w' : World} {D D' : DiskV} {H : Nat → Option (List Int)} (h : TimW w0 g yc yh j wr c D H) (h1 : DU w0 (fun q => q = yc ∨ q = yh) c' w' g D') (h2 : TimesI H D') (h3 : Kpt (fun q => q = yc ∨ q = yh) wr w') (h4 : spN D' ≤ spN D + 1) (h5 : c' ≤ c + 200) : TimW w0 g yc yh (j + 1) w' c' D' H :=
  ⟨h1, h2, h.had.move (h3 yc (.inl rfl)) (h3 yh (.inr rfl)), by have := h.sp; omega, by have := h.c; omega⟩
end Go.Proofs.YtononoakdebjeaaGreatDoor.Dk
namespace Go.Proofs.YtononoakdebjeaaGreatDoor.Dk
open Go.RowKit Go.Proofs.YtononoakdebjeaaGreatDoorW.PrintWords Go.Proofs.YtononoakdebjeaaGreatDoorW.PrintLast Go.Proofs.YtononoakdebjeaaGreatDoor.Base Go.Proofs.YtononoakdebjeaaGreatDoor.Path Go.Proofs.YtononoakdebjeaaGreatDoor.Pack Go.Maps
theorem DU.names {w0 w : World} {T : Nat → Prop} {c g : Nat} {D : DiskV} (h : DU w0 T c w g D) (hc : c ≤ 1000000000) : Calls Tryz.prog 20 #[.pointer (some ⟨g, 0, none⟩)] w (NamesP D w) := by
  obtain ⟨S, h1, _⟩ := h
  exact names_any S c g D w h1 hc
/-- Only block h may have changed. -/
def Kw (W : World) (h : Nat) (w' : World) : Prop := ∀ k, k ≠ h → w'.heap[k]? = W.heap[k]?
theorem Kw.set {W w' : World} {h : Nat} (hk : Kw W h w') (t : Nat) (v : Value) : Kw W h (w'.setCell ⟨h, t, none⟩ v) := fun k hn => (Below.heap_setCell _ _ _ _ hn).trans (hk k hn)
/-- While the names are gone through. -/
structure InW (w0 : World) (g yc yh : Nat) (w : World) (c : Nat) (D : DiskV) (H : Nat → Option (List Int)) (A : Option Addr) (m : Nat) : Prop where
  du : DU w0 (fun q => q = yc ∨ q = yh) c w g D
  times : TimesI H D
  had : HadW w yc yh H
  nm : NamesW w D A m
  blk : ∀ ad, A = some ad → ad.block ≠ yc ∧ ad.block ≠ yh ∧ ad.block < w.heap.size
theorem InW.start {w0 : World} {g yc yh j c : Nat} {w w' : World} {D : DiskV} {H : Nat → Option (List Int)} {A : Option Addr} {m : Nat} (h : TimW w0 g yc yh j w c D H) (hb : Below w.heap.size w w') (hn : NamesW w' D A m) (hk : ∀ ad, A = some ad → w.heap.size ≤ ad.block ∧ ad.block < w'.heap.size) : InW w0 g yc yh w' c D H A m :=
  ⟨h.du.below hb, h.times, h.had.move (hb.block _ (h.du.lt (.inl rfl))) (hb.block _ (h.du.lt (.inr rfl))), hn, fun ad e => by
    have h1 := hk ad e
    have h2 := h.du.lt (k := yc) (.inl rfl)
    have h3 := h.du.lt (k := yh) (.inr rfl)
    omega⟩
theorem InW.below {w0 : World} {g yc yh c : Nat} {w w' : World} {D : DiskV} {H : Nat → Option (List Int)} {A : Option Addr} {m : Nat} (h : InW w0 g yc yh w c D H A m) (hb : Below w.heap.size w w') : InW w0 g yc yh w' c D H A m :=
  ⟨h.du.below hb, h.times, h.had.move (hb.block _ (h.du.lt (.inl rfl))) (hb.block _ (h.du.lt (.inr rfl))), h.nm.move (fun ad e => hb.block _ (h.blk ad e).2.2), fun ad e => ⟨(h.blk ad e).1, (h.blk ad e).2.1, Nat.lt_of_lt_of_le (h.blk ad e).2.2 hb.size⟩⟩
theorem InW.see {w0 : World} {g yc yh c : Nat} {w : World} {D : DiskV} {H : Nat → Option (List Int)} {A : Option Addr} {m : Nat} (h : InW w0 g yc yh w c D H A m) (hne : yc ≠ yh) {i : Nat} (hi : Has D i) (t : Nat) (b : List Int) (ht : t = (D.fs i).time) (hb : b = (D.fs i).b) :
    InW w0 g yc yh ((w.setCell ⟨yh, t, none⟩ (.bool true)).setCell ⟨yc, t, none⟩ (.string (strOfNums b))) c D (fun s => if s = t then some b else H s) A m := by
  have hf : Foot (fun q => q = yc ∨ q = yh) w ((w.setCell ⟨yh, t, none⟩ (.bool true)).setCell ⟨yc, t, none⟩ (.string (strOfNums b))) :=
    ((Foot.refl _ w).setCell (g := yh) (.inr rfl) t _).setCell (g := yc) (.inl rfl) t _
  refine ⟨(h.du.own hf).sub (fun q hq => .inl hq), by rw [ht, hb]; exact h.times.see hi, h.had.see hne t b, h.nm.move (fun ad e => hf.block _ (h.blk ad e).2.2 (fun hq => hq.elim (h.blk ad e).1 (h.blk ad e).2.1)), fun ad e => ⟨(h.blk ad e).1, (h.blk ad e).2.1, Nat.lt_of_lt_of_le (h.blk ad e).2.2 hf.size⟩⟩
theorem InW.back {w0 : World} {g yc yh j c : Nat} {w w' : World} {D : DiskV} {H H' : Nat → Option (List Int)} {A : Option Addr} {m : Nat} (h : InW w0 g yc yh w' c D H' A m) (h0 : TimW w0 g yc yh j w c D H) : TimW w0 g yc yh j w' c D H' :=
  ⟨h.du, h.times, h.had, h0.sp, h0.c⟩
end Go.Proofs.YtononoakdebjeaaGreatDoor.Dk
