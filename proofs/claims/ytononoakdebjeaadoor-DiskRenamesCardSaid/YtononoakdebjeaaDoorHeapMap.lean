/- Maps in memory as partial functions from keys to the very values that were put. -/
import Derived.Test.YtononoakdebjeaaDoorBase
import Derived.Maps.Own
import Derived.Maps.OwnSet
import Derived.Maps.Ext
namespace Go.Proofs.YtononoakdebjeaaDoor.Base
open Go.RowKit Go.Proofs.YtononoakdebjeaaDoorW.PrintWords Go.Maps
set_option linter.unusedVariables false
set_option linter.unusedSimpArgs false

/-- A map's value is told by itself. -/
def VH (v : Value) : Option (DataW Value × List MemPlace) := some (.held v, [])
/-- Block b is a map of n entries (keys of type k, told by `key`); it holds f. -/
def VMap {κ : Type} (k : TypeId) (key : κ → Lit) (w : World) (b n : Nat) (f : κ → Option Value) : Prop :=
  ∃ D, w.ownsMap Tryd.prog k VH b n D ∧ Maps.size D = n ∧ (∀ s, Maps.has D (key s) = (f s).isSome) ∧ (∀ s v, f s = some v → ∀ z, D.atKey (key s) z = .held v) ∧ ∀ x, Maps.has D x = true → ∃ s, key s = x
section
variable {κ : Type} {k : TypeId} {key : κ → Lit} {w w1 : World} {b n : Nat} {f : κ → Option Value}
theorem VMap.made (w : World) (k : TypeId) (key : κ → Lit) : VMap k key (w.alloc (.map #[] 0)) w.heap.size 0 (fun _ => none) :=
  ⟨.map [], World.ownsMap_made _ _ _ _, rfl, fun _ => rfl, (fun _ _ h => by cases h), fun _ h => by cases h⟩
theorem VMap.lt (h : VMap k key w b n f) : b < w.heap.size := by
  obtain ⟨D, h, _⟩ := h
  exact h.lt
theorem VMap.block (h : VMap k key w b n f) (e : w1.heap[b]? = w.heap[b]?) : VMap k key w1 b n f := by
  obtain ⟨D, ⟨es, clock, hb, h2⟩, h3⟩ := h
  exact ⟨D, ⟨es, clock, e.trans hb, h2⟩, h3⟩
theorem VMap.below (h : VMap k key w b n f) (hb : Below w.heap.size w w1) : VMap k key w1 b n f := h.block (hb.block b h.lt)
theorem VMap.no_cells (h : VMap k key w b n f) {cs : Array Value} {t : TypeId} {fr : Nat × Nat} : w.heap[b]? ≠ some (.cells cs t fr) := by
  obtain ⟨D, ⟨es, clock, hb, h2⟩, h3⟩ := h
  rw [hb]
  intro e
  cases e
theorem VMap.ne (h : VMap k key w b n f) {g : Nat} {cs : Array Value} {t : TypeId} {fr : Nat × Nat} (hg : w.heap[g]? = some (.cells cs t fr)) : b ≠ g := by
  rintro rfl
  exact h.no_cells hg
/-- m[k], with ok or without. -/
theorem VMap.look {t e : TypeId} (h : VMap k key w b n f) (K : Keyed Tryd.prog k) (ht : Tryd.prog.underlying t = some (.map k e)) {z : Value} (hz : (zeroValue e).run Tryd.prog w = .ok z w) {kv : Value} {s : κ} (hkey : keyOf Tryd.prog k kv = some (key s)) :
    (Instr.lookup t (.map (some b)) kv true).run Tryd.prog w = .ok (.tuple #[(f s).getD z, .bool (f s).isSome]) w ∧ (Instr.lookup t (.map (some b)) kv false).run Tryd.prog w = .ok ((f s).getD z) w := by
  obtain ⟨D, h1, _, h2, h3, _⟩ := h
  obtain ⟨v, ps, r1, e1⟩ := h1.look_ok K ht hz (zd := .held z) (zp := []) rfl hkey
  obtain ⟨v', ps', r2, e2⟩ := h1.lookup K ht hz (zd := .held z) (zp := []) rfl hkey
  have key1 : D.atKey (key s) (.held z) = .held ((f s).getD z) := by
    cases hf : f s with
    | some u => exact h3 s u hf _
    | none =>
      have h4 := h2 s
      rw [hf] at h4
      exact atKey_of_not_has h4 _
  rw [key1] at e1 e2
  simp only [VH, Option.some.injEq, Prod.mk.injEq, DataW.held.injEq] at e1 e2
  rw [e1.1, h2] at r1
  rw [e2.1] at r2
  exact ⟨r1, r2⟩
/-- m[k] = v. -/
theorem VMap.store {t e : TypeId} [DecidableEq κ] (h : VMap k key w b n f) (K : Keyed Tryd.prog k) (ht : Tryd.prog.underlying t = some (.map k e)) (hn : n < maxLen) {kv : Value} {s : κ} (hkey : keyOf Tryd.prog k kv = some (key s)) (hl : WideAt.IsKeyLit (key s)) (inj : ∀ s', s' ≠ s → key s' ≠ key s) (v : Value) :
    ∃ w', (Instr.mapUpdate t (.map (some b)) kv v).run Tryd.prog w = .ok () w' ∧ VMap k key w' b (if (f s).isSome = true then n else n + 1) (fun s' => if s' = s then some v else f s') ∧ w.grownBy w' (some b) ∧ w'.heap.size = w.heap.size := by
  obtain ⟨D, h1, h0, h2, h3, h4⟩ := h
  obtain ⟨w', r1, r2, r3⟩ := h1.store K ht hn (val := v) (d := .held v) (ps := []) hkey rfl
  have hT := h1.tidy K
  have hsz : Maps.size (D.put (key s) (.held v)) = if (f s).isSome = true then n else n + 1 := by rw [size_put hT, h2, h0]
  refine ⟨w', r1, ⟨D.put (key s) (.held v), ?_, hsz, fun s' => ?_, fun s' u hu z => ?_, fun x hx => ?_⟩, r3.grown, ?_⟩
  · obtain ⟨es, clock, e1, e2, e3, e4⟩ := r2
    refine ⟨es, clock, e1, e2, ?_, e4⟩
    rw [← hsz, e4]
    simp [Maps.size, length_sorted]
  · show _ = (if s' = s then some v else f s').isSome
    by_cases hs : s' = s
    · rw [if_pos hs, hs, has_put_same hT.isMap hl]; rfl
    · rw [if_neg hs, has_put_other (inj s' hs), h2]
  · have hu : (if s' = s then some v else f s') = some u := hu
    by_cases hs : s' = s
    · rw [if_pos hs] at hu
      cases hu
      rw [hs]
      exact atKey_put_same hT.isMap hl _ _
    · rw [if_neg hs] at hu
      rw [atKey_put_other (inj s' hs)]
      exact h3 s' u hu z
  · by_cases hs : x = key s
    · exact ⟨s, hs.symm⟩
    · rw [has_put_other hs] at hx
      exact h4 x hx
  · obtain ⟨es, clk, es', clk', hb, rfl⟩ := r3
    simp [Go.ChangeMaps.setBlock]
/-- len(m). -/
theorem VMap.len {t e : TypeId} (h : VMap k key w b n f) (ht : Tryd.prog.underlying t = some (.map k e)) (ty : TypeId) : (Builtin.len_ #[t] ty #[.map (some b)]).run Tryd.prog w = .ok (.int .i64 n) w := by
  obtain ⟨D, h1, h0, _⟩ := h
  have := h1.len ht ty
  rw [h0] at this
  exact this
/-- Is the map told in other words? -/
theorem VMap.congr {f' : κ → Option Value} (h : VMap k key w b n f) (he : ∀ s, f' s = f s) : VMap k key w b n f' := by
  have : f' = f := funext he
  rw [this]
  exact h
end
def skey (s : ByteArray) : Lit := .string s.data.toList
def ikey (n : Nat) : Lit := .int .i64 n
theorem skey_inj {a b : ByteArray} (h : a ≠ b) : skey a ≠ skey b := by
  intro e
  unfold skey at e
  injection e with e
  refine h ?_
  cases a
  cases b
  exact congrArg ByteArray.mk (Array.toList_inj.1 e)
theorem ikey_inj {a b : Nat} (h : a ≠ b) : ikey a ≠ ikey b := by
  intro e
  unfold ikey at e
  injection e with _ e
  omega
theorem skey_lit (s : ByteArray) : WideAt.IsKeyLit (skey s) := by simp [WideAt.IsKeyLit, skey]
theorem ikey_lit (n : Nat) : WideAt.IsKeyLit (ikey n) := by simp [WideAt.IsKeyLit, ikey]
theorem keyOf_s {s : ByteArray} (h : s.size ≤ maxLen) : keyOf Tryd.prog 9 (.string s) = some (skey s) := Go.WideMaps.keyOf_string_mk Tryd.underlying9 h
theorem keyOf_i {n : Nat} (h : n < 9223372036854775808) : keyOf Tryd.prog 3 (.int .i64 n) = some (ikey n) :=
  keyOf_int_mk Tryd.underlying3 (by simp [Lit.wf, IntKind.min, IntKind.max, IntKind.bits, IntKind.signed]; omega)
theorem keyed_s : Keyed Tryd.prog 9 := string_keyed Tryd.underlying9
theorem keyed_i : Keyed Tryd.prog 3 := int_keyed Tryd.underlying3

/-- What w had stands, but for the blocks of S; blocks may be new. -/
structure Foot (S : Nat → Prop) (w w' : World) : Prop where
  os : w'.os = w.os
  tape : w'.tape = w.tape
  output : w'.output = w.output
  size : w.heap.size ≤ w'.heap.size
  block : ∀ k, k < w.heap.size → ¬ S k → w'.heap[k]? = w.heap[k]?
theorem Foot.refl (S : Nat → Prop) (w : World) : Foot S w w := ⟨rfl, rfl, rfl, Nat.le_refl _, fun _ _ _ => rfl⟩
theorem Foot.trans {S : Nat → Prop} {a b c : World} (h : Foot S a b) (k : Foot S b c) : Foot S a c :=
  ⟨k.os.trans h.os, k.tape.trans h.tape, k.output.trans h.output, Nat.le_trans h.size k.size, fun i hi hg => (k.block i (Nat.lt_of_lt_of_le hi h.size) hg).trans (h.block i hi hg)⟩
theorem Foot.mono {S T : Nat → Prop} {a b : World} (h : Foot S a b) (hs : ∀ k, k < a.heap.size → S k → T k) : Foot T a b :=
  ⟨h.os, h.tape, h.output, h.size, fun k hk hn => h.block k hk fun hs' => hn (hs k hk hs')⟩
theorem Foot.of_below {S : Nat → Prop} {w w' : World} (h : Below w.heap.size w w') : Foot S w w' := ⟨h.os, h.tape, h.output, h.size, fun k hk _ => h.block k hk⟩
theorem Foot.below {S : Nat → Prop} {B : Nat} {w w' : World} (h : Foot S w w') (hS : ∀ k, S k → B ≤ k) (hs : B ≤ w.heap.size) : Below B w w' :=
  ⟨h.os, h.tape, h.output, h.size, fun k hk => h.block k (by omega) (fun hs' => by have := hS k hs'; omega)⟩
theorem Foot.of_grown {S : Nat → Prop} {w w' : World} {row : Option Nat} (h : w.grownBy w' row) (hS : ∀ k, row = some k → S k) : Foot S w w' :=
  ⟨h.os, h.tape, h.output, h.size, fun k hk hn => h.block k hk (fun e => hn (hS k e.symm))⟩
theorem Foot.drew {S : Nat → Prop} {a w : World} (h : Foot S a w) : Foot S a w.drew := ⟨h.os, h.tape, h.output, h.size, h.block⟩
theorem Foot.drewN {S : Nat → Prop} {a w : World} (h : Foot S a w) (n : Nat) : Foot S a (w.drewN n) := ⟨h.os, h.tape, h.output, h.size, h.block⟩
theorem Foot.setCell {S : Nat → Prop} {a w : World} (h : Foot S a w) {g : Nat} (hg : S g) (i : Nat) (u : Value) : Foot S a (w.setCell ⟨g, i, none⟩ u) :=
  ⟨h.os, h.tape, h.output, by simpa [World.setCell] using h.size, fun k hk hn => (Below.heap_setCell _ _ _ _ (fun e => hn (by rw [show k = g from e]; exact hg))).trans (h.block k hk hn)⟩
theorem Foot.alloc {S : Nat → Prop} {a w : World} (h : Foot S a w) (o : Obj) : Foot S a (w.alloc o) :=
  ⟨h.os, h.tape, h.output, by have := h.size; simp; omega, fun k hk hn => (Below.heap_alloc _ _ _ (Nat.lt_of_lt_of_le hk h.size)).trans (h.block k hk hn)⟩
end Go.Proofs.YtononoakdebjeaaDoor.Base
