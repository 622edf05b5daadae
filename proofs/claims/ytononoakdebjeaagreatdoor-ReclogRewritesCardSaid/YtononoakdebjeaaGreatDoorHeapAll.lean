/- Maps in memory as partial functions from keys to the very values that were put; Map operations at the operation, in a walk and in a region that draws; rows that are none of a block; Storing a struct into a block as a step of a region that draws; rows of texts as steps; A region that draws its order inside a round of a range over a function, walked by the plain words; the frame of what a round keeps. -/
import Derived.Test.YtononoakdebjeaaGreatDoorBase
import Derived.Maps.Own
import Derived.Maps.OwnSet
import Derived.Maps.Ext
import Derived.Test.YtononoakdebjeaaGreatDoorWLast
import Derived.Test.YtononoakdebjeaaGreatDoorArgs
import Derived.RangeFuncNested
import Derived.RangeFuncCalls
import Derived.OrdersIn
import Derived.OwnWalkIn
namespace Go.Proofs.YtononoakdebjeaaGreatDoor.Base
open Go.RowKit Go.Proofs.YtononoakdebjeaaGreatDoorW.PrintWords Go.Maps
set_option linter.unusedVariables false
set_option linter.unusedSimpArgs false

/-- A map's value is told by itself. -/
def VH (v : Value) : Option (DataW Value × List MemPlace) := some (.held v, [])
/-- Block b is a map of n entries (keys of type k, told by `key`); it holds f. -/
def VMap {κ : Type} (k : TypeId) (key : κ → Lit) (w : World) (b n : Nat) (f : κ → Option Value) : Prop :=
  ∃ D, w.ownsMap Tryz.prog k VH b n D ∧ Maps.size D = n ∧ (∀ s, Maps.has D (key s) = (f s).isSome) ∧ (∀ s v, f s = some v → ∀ z, D.atKey (key s) z = .held v) ∧ ∀ x, Maps.has D x = true → ∃ s, key s = x
section
variable {κ : Type} {k : TypeId} {key : κ → Lit} {w w1 : World} {b n : Nat} {f : κ → Option Value}
theorem VMap.made (w : World) (k : TypeId) (key : κ → Lit) : VMap k key (w.alloc (.map #[] 0)) w.heap.size 0 (fun _ => none) :=
  ⟨.map [], World.ownsMap_made _ _ _ _, rfl, fun _ => rfl, (fun _ _ h => by cases h), fun _ h => by cases h⟩
theorem VMap.lt (h : VMap k key w b n f) : b < w.heap.size := by
  obtain ⟨D, h, _⟩ := h
  exact h.lt
theorem VMap.block (h : VMap k key w b n f) (e : w1.heap[b]? = w.heap[b]?) : VMap k key w1 b n f := by
  obtain ⟨D, ⟨es, clock, hb, h2⟩, h3⟩ := h
  exact ⟨D, ⟨es, clock, e.trans hb, h2⟩, h3⟩
theorem VMap.below (h : VMap k key w b n f) (hb : Below w.heap.size w w1) : VMap k key w1 b n f := h.block (hb.block b h.lt)
theorem VMap.no_cells (h : VMap k key w b n f) {cs : Array Value} {t : TypeId} {fr : Nat × Nat} : w.heap[b]? ≠ some (.cells cs t fr) := by
  obtain ⟨D, ⟨es, clock, hb, h2⟩, h3⟩ := h
  rw [hb]
  intro e
  cases e
theorem VMap.ne (h : VMap k key w b n f) {g : Nat} {cs : Array Value} {t : TypeId} {fr : Nat × Nat} (hg : w.heap[g]? = some (.cells cs t fr)) : b ≠ g := by
  rintro rfl
  exact h.no_cells hg
/-- m[k], with ok or without. -/
theorem VMap.look {t e : TypeId} (h : VMap k key w b n f) (K : Keyed Tryz.prog k) (ht : Tryz.prog.underlying t = some (.map k e)) {z : Value} (hz : (zeroValue e).run Tryz.prog w = .ok z w) {kv : Value} {s : κ} (hkey : keyOf Tryz.prog k kv = some (key s)) :
    (Instr.lookup t (.map (some b)) kv true).run Tryz.prog w = .ok (.tuple #[(f s).getD z, .bool (f s).isSome]) w ∧ (Instr.lookup t (.map (some b)) kv false).run Tryz.prog w = .ok ((f s).getD z) w := by
  obtain ⟨D, h1, _, h2, h3, _⟩ := h
  obtain ⟨v, ps, r1, e1⟩ := h1.look_ok K ht hz (zd := .held z) (zp := []) rfl hkey
  obtain ⟨v', ps', r2, e2⟩ := h1.lookup K ht hz (zd := .held z) (zp := []) rfl hkey
  have key1 : D.atKey (key s) (.held z) = .held ((f s).getD z) := by
    cases hf : f s with
    | some u => exact h3 s u hf _
    | none =>
      have h4 := h2 s
      rw [hf] at h4
      exact atKey_of_not_has h4 _
  rw [key1] at e1 e2
  simp only [VH, Option.some.injEq, Prod.mk.injEq, DataW.held.injEq] at e1 e2
  rw [e1.1, h2] at r1
  rw [e2.1] at r2
  exact ⟨r1, r2⟩
/-- m[k] = v. -/
theorem VMap.store {t e : TypeId} [DecidableEq κ] (h : VMap k key w b n f) (K : Keyed Tryz.prog k) (ht : Tryz.prog.underlying t = some (.map k e)) (hn : n < maxLen) {kv : Value} {s : κ} (hkey : keyOf Tryz.prog k kv = some (key s)) (hl : WideAt.IsKeyLit (key s)) (inj : ∀ s', s' ≠ s → key s' ≠ key s) (v : Value) :
    ∃ w', (Instr.mapUpdate t (.map (some b)) kv v).run Tryz.prog w = .ok () w' ∧ VMap k key w' b (if (f s).isSome = true then n else n + 1) (fun s' => if s' = s then some v else f s') ∧ w.grownBy w' (some b) ∧ w'.heap.size = w.heap.size := by
  obtain ⟨D, h1, h0, h2, h3, h4⟩ := h
  obtain ⟨w', r1, r2, r3⟩ := h1.store K ht hn (val := v) (d := .held v) (ps := []) hkey rfl
  have hT := h1.tidy K
  have hsz : Maps.size (D.put (key s) (.held v)) = if (f s).isSome = true then n else n + 1 := by rw [size_put hT, h2, h0]
  refine ⟨w', r1, ⟨D.put (key s) (.held v), ?_, hsz, fun s' => ?_, fun s' u hu z => ?_, fun x hx => ?_⟩, r3.grown, ?_⟩
  · obtain ⟨es, clock, e1, e2, e3, e4⟩ := r2
    refine ⟨es, clock, e1, e2, ?_, e4⟩
    rw [← hsz, e4]
    simp [Maps.size, length_sorted]
  · show _ = (if s' = s then some v else f s').isSome
    by_cases hs : s' = s
    · rw [if_pos hs, hs, has_put_same hT.isMap hl]; rfl
    · rw [if_neg hs, has_put_other (inj s' hs), h2]
  · have hu : (if s' = s then some v else f s') = some u := hu
    by_cases hs : s' = s
    · rw [if_pos hs] at hu
      cases hu
      rw [hs]
      exact atKey_put_same hT.isMap hl _ _
    · rw [if_neg hs] at hu
      rw [atKey_put_other (inj s' hs)]
      exact h3 s' u hu z
  · by_cases hs : x = key s
    · exact ⟨s, hs.symm⟩
    · rw [has_put_other hs] at hx
      exact h4 x hx
  · obtain ⟨es, clk, es', clk', hb, rfl⟩ := r3
    simp [Go.ChangeMaps.setBlock]
/-- len(m). -/
theorem VMap.len {t e : TypeId} (h : VMap k key w b n f) (ht : Tryz.prog.underlying t = some (.map k e)) (ty : TypeId) : (Builtin.len_ #[t] ty #[.map (some b)]).run Tryz.prog w = .ok (.int .i64 n) w := by
  obtain ⟨D, h1, h0, _⟩ := h
  have := h1.len ht ty
  rw [h0] at this
  exact this
/-- Is the map told in other words? -/
theorem VMap.congr {f' : κ → Option Value} (h : VMap k key w b n f) (he : ∀ s, f' s = f s) : VMap k key w b n f' := by
  have : f' = f := funext he
  rw [this]
  exact h
end
def skey (s : ByteArray) : Lit := .string s.data.toList
def ikey (n : Nat) : Lit := .int .i64 n
theorem skey_inj {a b : ByteArray} (h : a ≠ b) : skey a ≠ skey b := by
  intro e
  unfold skey at e
  injection e with e
  refine h ?_
  cases a
  cases b
  exact congrArg ByteArray.mk (Array.toList_inj.1 e)
theorem ikey_inj {a b : Nat} (h : a ≠ b) : ikey a ≠ ikey b := by
  intro e
  unfold ikey at e
  injection e with _ e
  omega
theorem skey_lit (s : ByteArray) : WideAt.IsKeyLit (skey s) := by simp [WideAt.IsKeyLit, skey]
theorem ikey_lit (n : Nat) : WideAt.IsKeyLit (ikey n) := by simp [WideAt.IsKeyLit, ikey]
theorem keyOf_s {s : ByteArray} (h : s.size ≤ maxLen) : keyOf Tryz.prog 9 (.string s) = some (skey s) := Go.WideMaps.keyOf_string_mk Tryz.underlying9 h
theorem keyOf_i {n : Nat} (h : n < 9223372036854775808) : keyOf Tryz.prog 3 (.int .i64 n) = some (ikey n) :=
  keyOf_int_mk Tryz.underlying3 (by simp [Lit.wf, IntKind.min, IntKind.max, IntKind.bits, IntKind.signed]; omega)
theorem keyed_s : Keyed Tryz.prog 9 := string_keyed Tryz.underlying9
theorem keyed_i : Keyed Tryz.prog 3 := int_keyed Tryz.underlying3

/-- What w had stands, but for the blocks of S; blocks may be new. -/
structure Foot (S : Nat → Prop) (w w' : World) : Prop where
  os : w'.os = w.os
  tape : w'.tape = w.tape
  output : w'.output = w.output
  size : w.heap.size ≤ w'.heap.size
  block : ∀ k, k < w.heap.size → ¬ S k → w'.heap[k]? = w.heap[k]?
theorem Foot.refl (S : Nat → Prop) (w : World) : Foot S w w := ⟨rfl, rfl, rfl, Nat.le_refl _, fun _ _ _ => rfl⟩
theorem Foot.trans {S : Nat → Prop} {a b c : World} (h : Foot S a b) (k : Foot S b c) : Foot S a c :=
  ⟨k.os.trans h.os, k.tape.trans h.tape, k.output.trans h.output, Nat.le_trans h.size k.size, fun i hi hg => (k.block i (Nat.lt_of_lt_of_le hi h.size) hg).trans (h.block i hi hg)⟩
theorem Foot.mono {S T : Nat → Prop} {a b : World} (h : Foot S a b) (hs : ∀ k, k < a.heap.size → S k → T k) : Foot T a b :=
  ⟨h.os, h.tape, h.output, h.size, fun k hk hn => h.block k hk fun hs' => hn (hs k hk hs')⟩
theorem Foot.of_below {S : Nat → Prop} {w w' : World} (h : Below w.heap.size w w') : Foot S w w' := ⟨h.os, h.tape, h.output, h.size, fun k hk _ => h.block k hk⟩
theorem Foot.below {S : Nat → Prop} {B : Nat} {w w' : World} (h : Foot S w w') (hS : ∀ k, S k → B ≤ k) (hs : B ≤ w.heap.size) : Below B w w' :=
  ⟨h.os, h.tape, h.output, h.size, fun k hk => h.block k (by omega) (fun hs' => by have := hS k hs'; omega)⟩
theorem Foot.of_grown {S : Nat → Prop} {w w' : World} {row : Option Nat} (h : w.grownBy w' row) (hS : ∀ k, row = some k → S k) : Foot S w w' :=
  ⟨h.os, h.tape, h.output, h.size, fun k hk hn => h.block k hk (fun e => hn (hS k e.symm))⟩
theorem Foot.drew {S : Nat → Prop} {a w : World} (h : Foot S a w) : Foot S a w.drew := ⟨h.os, h.tape, h.output, h.size, h.block⟩
theorem Foot.drewN {S : Nat → Prop} {a w : World} (h : Foot S a w) (n : Nat) : Foot S a (w.drewN n) := ⟨h.os, h.tape, h.output, h.size, h.block⟩
theorem Foot.setCell {S : Nat → Prop} {a w : World} (h : Foot S a w) {g : Nat} (hg : S g) (i : Nat) (u : Value) : Foot S a (w.setCell ⟨g, i, none⟩ u) :=
  ⟨h.os, h.tape, h.output, by simpa [World.setCell] using h.size, fun k hk hn => (Below.heap_setCell _ _ _ _ (fun e => hn (by rw [show k = g from e]; exact hg))).trans (h.block k hk hn)⟩
theorem Foot.alloc {S : Nat → Prop} {a w : World} (h : Foot S a w) (o : Obj) : Foot S a (w.alloc o) :=
  ⟨h.os, h.tape, h.output, by have := h.size; simp; omega, fun k hk hn => (Below.heap_alloc _ _ _ (Nat.lt_of_lt_of_le hk h.size)).trans (h.block k hk hn)⟩
end Go.Proofs.YtononoakdebjeaaGreatDoor.Base
namespace Go.Proofs.YtononoakdebjeaaGreatDoor.Base
open Go.RowKit Go.Proofs.YtononoakdebjeaaGreatDoorW.PrintWords Go.Proofs.YtononoakdebjeaaGreatDoorW.PrintLast Go.Maps
set_option linter.unusedVariables false
set_option linter.unusedSimpArgs false

section
variable {ops : Array Oper} {rest : List Oper} {o : Oper} {a : Act} {Q : Exit → Act → World → Prop}
/-- m[k] = v at the operation, its run told ahead. -/
theorem upd_at {W w' : World} (hgd : o.guard = none) (m x v : Operand) (t : TypeId) (ho : o.op = Op.mapUpdate t m x v) (b : Nat) (key val : Value) (hm : a.eval m = .map (some b)) (hx : a.eval x = key) (hv : a.eval v = val)
    (hrun : (Instr.mapUpdate t (.map (some b)) key val).run Tryz.prog W = .ok () w') (h : wpList Tryz.prog ops Q rest (a.put o.dst undef) w') : Held (wpList Tryz.prog ops Q (o :: rest) a W) := by
  refine Held.out (wpList_plain hgd fun K' hK' => ?_)
  unfold Oper.wp
  simp [execOp, ho, hm, hx, hv, hrun, Result.andThen]
  exact hK' _ _ h
theorem ins_at {W w' : World} (hgd : o.guard = none) (m x v : Operand) (t : TypeId) (ho : o.op = Op.insert t m x v) (b : Nat) (key val : Value) (hm : a.eval m = .map (some b)) (hx : a.eval x = key) (hv : a.eval v = val)
    (hrun : (Instr.mapUpdate t (.map (some b)) key val).run Tryz.prog W = .ok () w') (h : wpList Tryz.prog ops Q rest (a.put o.dst undef) w') : Held (wpList Tryz.prog ops Q (o :: rest) a W) := by
  refine Held.out (wpList_plain hgd fun K' hK' => ?_)
  unfold Oper.wp
  simp [execOp, ho, hm, hx, hv, hrun, Result.andThen]
  exact hK' _ _ h
/-- The same as a step of a region that draws. -/
theorem upd_step {K : Act → World → Prop} {E : Prop} {W w' : World} (hgd : o.guard = none) (m x v : Operand) (t : TypeId) (ho : o.op = Op.mapUpdate t m x v) (b : Nat) (key val : Value) (hm : a.eval m = .map (some b)) (hx : a.eval x = key) (hv : a.eval v = val)
    (hrun : (Instr.mapUpdate t (.map (some b)) key val).run Tryz.prog W = .ok () w') (h : K (a.put o.dst undef) w') : if Region.wanted o (yielded ops a.tmps) = true then Oper.wp Tryz.prog o a W K Q else E := by
  have hw : Region.wanted o (yielded ops a.tmps) = true := by simp [Region.wanted, hgd]
  rw [if_pos hw]
  unfold Oper.wp
  simp [execOp, ho, hm, hx, hv, hrun, Result.andThen]
  exact h
end
section
variable {α : Type} {d : Kd α} {w w1 : World} {base : Nat} {ok : Nat → Prop}
/-- No row inside is block q, if q is no row of its types. -/
theorem M_not {x : α} {cs : List Value} (h : d.M w base ok x cs) {q : Nat} (hq : ∀ t, t ∈ d.E → ∀ cells, w.heap[q]? ≠ some (.cells cells t (0, 0))) : d.M w base (fun k => ok k ∧ k ≠ q) x cs :=
  d.M_mono (fun k hk => ⟨hk.1, by
    obtain ⟨_, _, _, t, ht, cells, hc⟩ := hk
    rintro rfl
    exact hq t ht cells hc⟩) (d.M_bound h)
theorem R_not {e : Nat} {v : Value} {xs : List α} (h : d.R e w base ok v xs) {q : Nat} (hq : ∀ t, t ∈ e :: d.E → ∀ cells, w.heap[q]? ≠ some (.cells cells t (0, 0))) : d.R e w base (fun k => ok k ∧ k ≠ q) v xs :=
  Kd.R_mono (Kd.R_bound h) (fun k hk => ⟨hk.1, by
    obtain ⟨_, _, _, t, ht, cells, hc⟩ := hk
    rintro rfl
    exact hq t ht cells hc⟩)
/-- Any turn that leaves alone all but block q. -/
theorem R_q {e : Nat} {v : Value} {xs : List α} (h : d.R e w base ok v xs) {q : Nat} (hq : ∀ t, t ∈ e :: d.E → ∀ cells, w.heap[q]? ≠ some (.cells cells t (0, 0))) (hm : ∀ k, k < w.heap.size → k ≠ q → w1.heap[k]? = w.heap[k]?) : d.R e w1 base ok v xs :=
  Kd.R_mono (Kd.R_step (R_not h hq) (fun k hk hl => hm k hl hk.2)) (fun _ hk => hk.1)
theorem M_q {x : α} {cs : List Value} (h : d.M w base ok x cs) {q : Nat} (hq : ∀ t, t ∈ d.E → ∀ cells, w.heap[q]? ≠ some (.cells cells t (0, 0))) (hm : ∀ k, k < w.heap.size → k ≠ q → w1.heap[k]? = w.heap[k]?) : d.M w1 base ok x cs :=
  d.M_mono (fun _ hk => hk.1) (Kd.M_step (M_not h hq) (fun k hk hl => hm k hl hk.2))
end
theorem M_row {α : Type} {d : Kd α} {w w1 : World} {base : Nat} {ok : Nat → Prop} {x : α} {cs : List Value} (h : d.M w base ok x cs) {row : Option Nat} (hg : w.grownBy w1 row) (hrow : ∀ k, row = some k → ∀ t, t ∈ d.E → ∀ cells, w.heap[k]? ≠ some (.cells cells t (0, 0))) : d.M w1 base ok x cs :=
  d.M_mono (fun _ hk => hk.1) (Kd.M_grown (d.M_mono (ok' := fun k => ok k ∧ some k ≠ row) (fun k hk => ⟨hk.1, fun e => by
    obtain ⟨_, _, _, t, ht, cells, hc⟩ := hk
    exact hrow k e.symm t ht cells hc⟩) (d.M_bound h)) hg (fun _ hk => hk.2))
theorem R_row {α : Type} {d : Kd α} {w w1 : World} {base : Nat} {ok : Nat → Prop} {e : Nat} {v : Value} {xs : List α} (h : d.R e w base ok v xs) {row : Option Nat} (hg : w.grownBy w1 row) (hrow : ∀ k, row = some k → ∀ t, t ∈ e :: d.E → ∀ cells, w.heap[k]? ≠ some (.cells cells t (0, 0))) : d.R e w1 base ok v xs :=
  Kd.R_mono (Kd.R_grown (Kd.R_mono (ok' := fun k => ok k ∧ some k ≠ row) (Kd.R_bound h) (fun k hk => ⟨hk.1, fun e => by
    obtain ⟨_, _, _, t, ht, cells, hc⟩ := hk
    exact hrow k e.symm t ht cells hc⟩)) hg (fun _ hk => hk.2)) (fun _ hk => hk.1)
theorem VMap.grown {κ : Type} {k : TypeId} {key : κ → Lit} {w w1 : World} {b n : Nat} {f : κ → Option Value} (h : VMap k key w b n f) {row : Option Nat} (hg : w.grownBy w1 row) (hrow : ∀ q, row = some q → ∃ cells t, w.heap[q]? = some (.cells cells t (0, 0))) : VMap k key w1 b n f :=
  h.block (hg.block b h.lt (fun e => by
    obtain ⟨cells, t, hc⟩ := hrow b e.symm
    exact h.no_cells hc))
theorem VMap.set {κ : Type} {k : TypeId} {key : κ → Lit} {w : World} {b n g t : Nat} {cs : Array Value} {f : κ → Option Value} (h : VMap k key w b n f) (hg : w.heap[g]? = some (.cells cs t (0, 0))) (i : Nat) (u : Value) : VMap k key (w.setCell ⟨g, i, none⟩ u) b n f :=
  h.block (Below.heap_setCell _ _ _ _ (h.ne hg))
/-- The row that a slice of its own lies in is of the elements' type. -/
theorem R_rowed {α : Type} {d : Kd α} {w : World} {base : Nat} {ok : Nat → Prop} {e : Nat} {v : Value} {xs : List α} (h : d.R e w base ok v xs) : ∀ q, v.ownBlock = some q → ∃ cells, w.heap[q]? = some (.cells cells e (0, 0)) := by
  obtain ⟨inner, ho⟩ := Kd.R_own h
  exact fun q hq => own_typed ho q hq
theorem run_equalIn_func_nil {P : Program} (w : World) (d : Nat) (t : TypeId) {a b : Array TypeId} {c : Bool} (f : Fn) (x y : Array Value) (h : P.underlying t = some (.func a b c)) :
    (Op.equalIn (d + 1) t (.func f x y) .nilFunc).run P w = .ok false w := by
  simp [Op.equalIn, run_underlying h]
theorem run_equalIn_nil_nil {P : Program} (w : World) (d : Nat) (t : TypeId) {a b : Array TypeId} {c : Bool} (h : P.underlying t = some (.func a b c)) :
    (Op.equalIn (d + 1) t .nilFunc .nilFunc).run P w = .ok true w := by
  simp [Op.equalIn, run_underlying h]
/-- f == nil. -/
theorem run_eql_func_nil {P : Program} (w : World) (t : TypeId) {a b : Array TypeId} {c : Bool} (f : Fn) (x y : Array Value) (h : P.underlying t = some (.func a b c)) :
    (binOp .eql t (.func f x y) .nilFunc).run P w = .ok (.bool false) w := by
  simp only [binOp]
  simp [Op.equal, Op.maxDepth, run_equalIn_func_nil w 9999 t f x y h]
theorem run_eql_nil_func {P : Program} (w : World) (t : TypeId) {a b : Array TypeId} {c : Bool} (h : P.underlying t = some (.func a b c)) :
    (binOp .eql t .nilFunc .nilFunc).run P w = .ok (.bool true) w := by
  simp only [binOp]
  simp [Op.equal, Op.maxDepth, run_equalIn_nil_nil w 9999 t h]
theorem not_cells {w : World} {q t t' : TypeId} {cs : Array Value} (h : w.heap[q]? = some (.cells cs t (0, 0))) (hne : t ≠ t') : ∀ cells, w.heap[q]? ≠ some (.cells cells t' (0, 0)) := by
  intro cells e
  rw [h] at e
  injection e with e
  injection e with _ e
  exact hne e
theorem grown_ne {w w1 : World} {row : Option Nat} (h : w.grownBy w1 row) {k : Nat} (hk : k < w.heap.size) (hne : some k ≠ row) : w1.heap[k]? = w.heap[k]? := h.block k hk hne
end Go.Proofs.YtononoakdebjeaaGreatDoor.Base
namespace Go.Proofs.YtononoakdebjeaaGreatDoor.Base
open Go.RowKit Go.Proofs.YtononoakdebjeaaGreatDoorW.PrintWords Go.Proofs.YtononoakdebjeaaGreatDoorW.PrintLast Go.Maps
set_option linter.unusedVariables false
set_option linter.unusedSimpArgs false

section
variable {ops : Array Oper} {rest : List Oper} {o : Oper} {a : Act} {Q : Exit → Act → World → Prop}
/-- A struct is stored into a block. -/
theorem put_row_step {P : Program} {K : Act → World → Prop} {E : Prop} {W : World} (hgd : o.guard = none) (hN : o.dst = none) (ty : TypeId) (x y : Operand) (ho : o.op = .store ty x y)
    (g : Nat) (cells : Array Value) (hx : a.eval x = .pointer (some ⟨g, 0, none⟩)) (hy : a.eval y = .agg cells)
    (t : TypeId) (old : Array Value) (hg : W.heap[g]? = some (.cells old t (0, 0))) (hi : (P.info? ty).map (·.size) = some cells.size)
    (hold : old.size = cells.size) (h1 : cells.all (·.oneCell') = true) (h : K a (W.setRow g cells)) :
    if Region.wanted o (yielded ops a.tmps) = true then Oper.wp P o a W K Q else E := by
  have hw : Region.wanted o (yielded ops a.tmps) = true := by simp [Region.wanted, hgd]
  rw [if_pos hw]
  refine wp_store_row ty x y ho g cells hx hy t old hg hi hold h1 ?_
  rw [hN]
  exact h
/-- append(v, l...) of texts, as a step. -/
theorem app_strs_step {K : Act → World → Prop} {E : Prop} {w0 W : World} (base : Nat) (hgd : o.guard = none) (s x : Operand)
    (ho : o.op = .call { callee := .builtin .append, args := #[s, x], argTypes := #[48, 48] })
    (v : Value) (xs ys : List ByteArray) (A : Option Addr) (m c : Nat) (ok : Nat → Prop) (hs : a.eval s = v) (hx : a.eval x = .slice A m c)
    (HO : Kd.string.R 9 W base ok v xs) (HR : Kd.string.C W A m ys) (hfresh : ∀ k, W.heap.size ≤ k → ok k) (HB : Below base w0 W) (hbase : base ≤ W.heap.size) (hl : (xs.length + m) * 16 ≤ 140737488355328)
    (h : ∀ v1 w1, Kd.string.R 9 w1 base ok v1 (xs ++ ys) → Below base w0 w1 → W.grownBy w1 v.ownBlock → K (a.put o.dst v1) w1) :
    if Region.wanted o (yielded ops a.tmps) = true then Oper.wp Tryz.prog o a W K Q else E := by
  have hw : Region.wanted o (yielded ops a.tmps) = true := by simp [Region.wanted, hgd]
  have hK := Kd.R_append_rows_step Kd.string (P := Tryz.prog) (Kc := K) (Q := Q) (ops := ops) (o := o) (a := a) (Rr := fun x cs => cs = [Value.string x]) (w0 := w0) (W := W) base hw s x 48 9 (.string ⟨#[]⟩) 16 ho Tryz.underlying48 (by kernel_rfl) rfl (by decide) (by decide) v xs ys A m c ok (fun _ => False) hs hx HO HR (fun _ _ h => h) (fun _ h => h.elim) hfresh HB hbase hl (fun v1 w1 h1 h2 h3 _ => h v1 w1 h1 h2 h3)
  rw [if_pos hw] at hK ⊢
  exact hK
end
theorem row_below {B g : Nat} {w0 w : World} (hb : Below B w0 w) (hBg : B ≤ g) (cs : Array Value) : Below B w0 (w.setRow g cs) :=
  hb.trans ⟨rfl, rfl, rfl, by simp, fun k hk => setRow_other w g k cs (by omega)⟩
theorem Foot.setRow {S : Nat → Prop} {a w : World} (h : Foot S a w) {g : Nat} (hg : S g) (cs : Array Value) : Foot S a (w.setRow g cs) :=
  h.trans ⟨rfl, rfl, rfl, by simp, fun k _ hk => setRow_other w g k cs (fun e => hk (e ▸ hg))⟩
theorem str_nil (W : World) (base : Nat) (hb : base ≤ W.heap.size) (ok : Nat → Prop) (hok : ok W.heap.size) : Kd.string.R 9 (W.alloc (.cells #[] 9)) base ok (.slice (some ⟨W.heap.size, 0, none⟩) 0 0) [] :=
  Kd.R_of_own (enc := Value.string) (own_lit_of (enc := Value.string) W base 9 [] hb (by simp)) (fun k hk => by
    have : W.heap.size = k := by simpa [Value.ownBlock] using hk
    rw [← this]; exact hok)
/-- A row stands where a block of another type is written whole. -/
theorem R_setRow {α : Type} {d : Kd α} {e : Nat} {w : World} {base : Nat} {ok : Nat → Prop} {v : Value} {xs : List α} (h : d.R e w base ok v xs) {g t : Nat} {cells : Array Value} (hb : w.heap[g]? = some (.cells cells t (0, 0))) (ht : ∀ q, q ∈ e :: d.E → q ≠ t) (cs : Array Value) : d.R e (w.setRow g cs) base ok v xs :=
  R_q h (fun q hq => not_cells hb (Ne.symm (ht q hq))) (fun k _ hk => setRow_other w g k cs hk)
end Go.Proofs.YtononoakdebjeaaGreatDoor.Base
namespace Go.Proofs.YtononoakdebjeaaGreatDoor.Base
open Go.RowKit Go.Proofs.YtononoakdebjeaaGreatDoorW.PrintWords Go.Proofs.YtononoakdebjeaaGreatDoorW.PrintLast Go.Maps
set_option linter.unusedVariables false
set_option linter.unusedSimpArgs false

def noDefer (ops : Array Oper) : Bool := ops.all fun o => match o.op with | .defer _ => false | _ => true
theorem noDefer_spec {ops : Array Oper} (h : noDefer ops = true) {i : Nat} {o : Oper} (ho : ops[i]? = some o) : ∀ c, o.op ≠ .defer c := by
  intro c hc
  unfold noDefer at h
  rw [Array.all_eq_true] at h
  obtain ⟨hi, e⟩ := Array.getElem?_eq_some_iff.1 ho
  have h1 := h i hi
  rw [e, hc] at h1
  simp at h1
section
variable {P : Program} {ops : Array Oper} {Q : Exit → Act → World → Prop} {l n : Nat}
theorem oper_inRound {o : Oper} {a : Act} {w : World} {K : Act → World → Prop} (hd : ∀ c, o.op ≠ .defer c) (h : Oper.wp P o a w K Q) : Oper.wpIn (Fence.wide.inRound l) n P o a w K Q := by
  refine ⟨fun _ _ => trivial, ?_⟩
  rw [Oper.semAt_eq _ _ _ hd]
  unfold Oper.wp at h
  cases hr : (execOp a.eval o).run P w with
  | ok nx w1 =>
    rw [hr] at h
    cases nx with
    | value v => exact h
    | skip => exact h
    | defer d => exact h
    | enter f args =>
      have h2 : (Fence.wide.inRound l).depth.isSome = true → 1 ≤ n := by intro hh; cases hh
      exact And.intro h2 (CallsIn.inRound l (callsIn_wide.2 h))
    | row row args =>
      have h2 : (Fence.wide.inRound l).depth.isSome = true → 1 ≤ n := by intro hh; cases hh
      refine And.intro h2 (fun c cs _ => ?_)
      obtain ⟨v, w', r, s⟩ := h c cs
      exact ⟨v, w', r, stepsIn_wide.2 s⟩
    | _ => exact h.elim
  | halt hl w1 =>
    rw [hr] at h
    cases hl with
    | panic v => exact h
    | _ => exact h.elim
theorem any_inRound {md : Region.Mode} (hd : noDefer ops = true) (hQ : ∀ a w, ¬ Q .outgrown a w) : ∀ (fuel : Nat) (listed : Array Bool) (a : Act) (w : World), wpAny P md ops Q fuel listed a w → wpAnyIn (Fence.wide.inRound l) n P md ops Q fuel listed a w
  | 0, _, _, _, h => h
  | fuel + 1, listed, a, w, h => by
    refine ⟨h.1, fun i hi => ?_⟩
    have h1 := h.2 i hi
    unfold wpOp at h1
    unfold wpOpIn
    cases ho : ops[i]? with
    | none =>
      rw [ho] at h1
      exact any_inRound hd hQ fuel _ _ _ h1
    | some o =>
      rw [ho] at h1
      simp only at h1 ⊢
      split
      · next hw =>
        rw [if_pos hw] at h1
        rcases h1 with h1 | ⟨_, a', w', h2⟩
        · exact oper_inRound (noDefer_spec hd ho) (Oper.wp_mono (fun a' w' hk => any_inRound hd hQ fuel _ _ _ hk) h1)
        · exact absurd h2 (hQ a' w')
      · next hw =>
        rw [if_neg hw] at h1
        exact ⟨fun _ _ => trivial, any_inRound hd hQ fuel _ _ _ h1⟩
variable {S : World → Prop} {ds : List Nat}
/-- The walk of a region in a round begins. -/
theorem startR_ {id m : Nat} {a : Act} {w : World} (lb : Array Bool) (hm : P.follows .mixedOrders = true) (hn : ops.size = m) (hl : Array.replicate m false = lb) (hd : noDefer ops = true) (hQ : ∀ a w, ¬ Q .outgrown a w) (hS : S w.drew)
    (h : S w.drew → wpAnyLast P .any ops Q S ds m lb a w.drew) : (Code.region id ops true).wpIn (Fence.wide.inRound l) n P Q a w := by
  subst hn
  subst hl
  exact wpIn_region_any hm (any_inRound hd hQ _ _ _ _ (wpAny_of_last _ _ _ _ (h hS)))
end
end Go.Proofs.YtononoakdebjeaaGreatDoor.Base
