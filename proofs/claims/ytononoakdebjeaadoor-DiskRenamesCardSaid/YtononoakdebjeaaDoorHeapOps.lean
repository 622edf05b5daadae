/- Map operations at the operation, in a walk and in a region that draws; rows that are none of a block. -/
import Derived.Test.YtononoakdebjeaaDoorHeapMap
import Derived.Test.YtononoakdebjeaaDoorWLast
namespace Go.Proofs.YtononoakdebjeaaDoor.Base
open Go.RowKit Go.Proofs.YtononoakdebjeaaDoorW.PrintWords Go.Proofs.YtononoakdebjeaaDoorW.PrintLast Go.Maps
set_option linter.unusedVariables false
set_option linter.unusedSimpArgs false

section
variable {ops : Array Oper} {rest : List Oper} {o : Oper} {a : Act} {Q : Exit → Act → World → Prop}
/-- m[k] = v at the operation, its run told ahead. -/
theorem upd_at {W w' : World} (hgd : o.guard = none) (m x v : Operand) (t : TypeId) (ho : o.op = Op.mapUpdate t m x v) (b : Nat) (key val : Value) (hm : a.eval m = .map (some b)) (hx : a.eval x = key) (hv : a.eval v = val)
    (hrun : (Instr.mapUpdate t (.map (some b)) key val).run Tryd.prog W = .ok () w') (h : wpList Tryd.prog ops Q rest (a.put o.dst undef) w') : Held (wpList Tryd.prog ops Q (o :: rest) a W) := by
  refine Held.out (wpList_plain hgd fun K' hK' => ?_)
  unfold Oper.wp
  simp [execOp, ho, hm, hx, hv, hrun, Result.andThen]
  exact hK' _ _ h
theorem ins_at {W w' : World} (hgd : o.guard = none) (m x v : Operand) (t : TypeId) (ho : o.op = Op.insert t m x v) (b : Nat) (key val : Value) (hm : a.eval m = .map (some b)) (hx : a.eval x = key) (hv : a.eval v = val)
    (hrun : (Instr.mapUpdate t (.map (some b)) key val).run Tryd.prog W = .ok () w') (h : wpList Tryd.prog ops Q rest (a.put o.dst undef) w') : Held (wpList Tryd.prog ops Q (o :: rest) a W) := by
  refine Held.out (wpList_plain hgd fun K' hK' => ?_)
  unfold Oper.wp
  simp [execOp, ho, hm, hx, hv, hrun, Result.andThen]
  exact hK' _ _ h
/-- The same as a step of a region that draws. -/
theorem upd_step {K : Act → World → Prop} {E : Prop} {W w' : World} (hgd : o.guard = none) (m x v : Operand) (t : TypeId) (ho : o.op = Op.mapUpdate t m x v) (b : Nat) (key val : Value) (hm : a.eval m = .map (some b)) (hx : a.eval x = key) (hv : a.eval v = val)
    (hrun : (Instr.mapUpdate t (.map (some b)) key val).run Tryd.prog W = .ok () w') (h : K (a.put o.dst undef) w') : if Region.wanted o (yielded ops a.tmps) = true then Oper.wp Tryd.prog o a W K Q else E := by
  have hw : Region.wanted o (yielded ops a.tmps) = true := by simp [Region.wanted, hgd]
  rw [if_pos hw]
  unfold Oper.wp
  simp [execOp, ho, hm, hx, hv, hrun, Result.andThen]
  exact h
end
section
variable {α : Type} {d : Kd α} {w w1 : World} {base : Nat} {ok : Nat → Prop}
/-- No row inside is block q, if q is no row of its types. -/
theorem M_not {x : α} {cs : List Value} (h : d.M w base ok x cs) {q : Nat} (hq : ∀ t, t ∈ d.E → ∀ cells, w.heap[q]? ≠ some (.cells cells t (0, 0))) : d.M w base (fun k => ok k ∧ k ≠ q) x cs :=
  d.M_mono (fun k hk => ⟨hk.1, by
    obtain ⟨_, _, _, t, ht, cells, hc⟩ := hk
    rintro rfl
    exact hq t ht cells hc⟩) (d.M_bound h)
theorem R_not {e : Nat} {v : Value} {xs : List α} (h : d.R e w base ok v xs) {q : Nat} (hq : ∀ t, t ∈ e :: d.E → ∀ cells, w.heap[q]? ≠ some (.cells cells t (0, 0))) : d.R e w base (fun k => ok k ∧ k ≠ q) v xs :=
  Kd.R_mono (Kd.R_bound h) (fun k hk => ⟨hk.1, by
    obtain ⟨_, _, _, t, ht, cells, hc⟩ := hk
    rintro rfl
    exact hq t ht cells hc⟩)
/-- Any turn that leaves alone all but block q. -/
theorem R_q {e : Nat} {v : Value} {xs : List α} (h : d.R e w base ok v xs) {q : Nat} (hq : ∀ t, t ∈ e :: d.E → ∀ cells, w.heap[q]? ≠ some (.cells cells t (0, 0))) (hm : ∀ k, k < w.heap.size → k ≠ q → w1.heap[k]? = w.heap[k]?) : d.R e w1 base ok v xs :=
  Kd.R_mono (Kd.R_step (R_not h hq) (fun k hk hl => hm k hl hk.2)) (fun _ hk => hk.1)
theorem M_q {x : α} {cs : List Value} (h : d.M w base ok x cs) {q : Nat} (hq : ∀ t, t ∈ d.E → ∀ cells, w.heap[q]? ≠ some (.cells cells t (0, 0))) (hm : ∀ k, k < w.heap.size → k ≠ q → w1.heap[k]? = w.heap[k]?) : d.M w1 base ok x cs :=
  d.M_mono (fun _ hk => hk.1) (Kd.M_step (M_not h hq) (fun k hk hl => hm k hl hk.2))
end
theorem M_row {α : Type} {d : Kd α} {w w1 : World} {base : Nat} {ok : Nat → Prop} {x : α} {cs : List Value} (h : d.M w base ok x cs) {row : Option Nat} (hg : w.grownBy w1 row) (hrow : ∀ k, row = some k → ∀ t, t ∈ d.E → ∀ cells, w.heap[k]? ≠ some (.cells cells t (0, 0))) : d.M w1 base ok x cs :=
  d.M_mono (fun _ hk => hk.1) (Kd.M_grown (d.M_mono (ok' := fun k => ok k ∧ some k ≠ row) (fun k hk => ⟨hk.1, fun e => by
    obtain ⟨_, _, _, t, ht, cells, hc⟩ := hk
    exact hrow k e.symm t ht cells hc⟩) (d.M_bound h)) hg (fun _ hk => hk.2))
theorem R_row {α : Type} {d : Kd α} {w w1 : World} {base : Nat} {ok : Nat → Prop} {e : Nat} {v : Value} {xs : List α} (h : d.R e w base ok v xs) {row : Option Nat} (hg : w.grownBy w1 row) (hrow : ∀ k, row = some k → ∀ t, t ∈ e :: d.E → ∀ cells, w.heap[k]? ≠ some (.cells cells t (0, 0))) : d.R e w1 base ok v xs :=
  Kd.R_mono (Kd.R_grown (Kd.R_mono (ok' := fun k => ok k ∧ some k ≠ row) (Kd.R_bound h) (fun k hk => ⟨hk.1, fun e => by
    obtain ⟨_, _, _, t, ht, cells, hc⟩ := hk
    exact hrow k e.symm t ht cells hc⟩)) hg (fun _ hk => hk.2)) (fun _ hk => hk.1)
theorem VMap.grown {κ : Type} {k : TypeId} {key : κ → Lit} {w w1 : World} {b n : Nat} {f : κ → Option Value} (h : VMap k key w b n f) {row : Option Nat} (hg : w.grownBy w1 row) (hrow : ∀ q, row = some q → ∃ cells t, w.heap[q]? = some (.cells cells t (0, 0))) : VMap k key w1 b n f :=
  h.block (hg.block b h.lt (fun e => by
    obtain ⟨cells, t, hc⟩ := hrow b e.symm
    exact h.no_cells hc))
theorem VMap.set {κ : Type} {k : TypeId} {key : κ → Lit} {w : World} {b n g t : Nat} {cs : Array Value} {f : κ → Option Value} (h : VMap k key w b n f) (hg : w.heap[g]? = some (.cells cs t (0, 0))) (i : Nat) (u : Value) : VMap k key (w.setCell ⟨g, i, none⟩ u) b n f :=
  h.block (Below.heap_setCell _ _ _ _ (h.ne hg))
/-- The row that a slice of its own lies in is of the elements' type. -/
theorem R_rowed {α : Type} {d : Kd α} {w : World} {base : Nat} {ok : Nat → Prop} {e : Nat} {v : Value} {xs : List α} (h : d.R e w base ok v xs) : ∀ q, v.ownBlock = some q → ∃ cells, w.heap[q]? = some (.cells cells e (0, 0)) := by
  obtain ⟨inner, ho⟩ := Kd.R_own h
  exact fun q hq => own_typed ho q hq
theorem run_equalIn_func_nil {P : Program} (w : World) (d : Nat) (t : TypeId) {a b : Array TypeId} {c : Bool} (f : Fn) (x y : Array Value) (h : P.underlying t = some (.func a b c)) :
    (Op.equalIn (d + 1) t (.func f x y) .nilFunc).run P w = .ok false w := by
  simp [Op.equalIn, run_underlying h]
theorem run_equalIn_nil_nil {P : Program} (w : World) (d : Nat) (t : TypeId) {a b : Array TypeId} {c : Bool} (h : P.underlying t = some (.func a b c)) :
    (Op.equalIn (d + 1) t .nilFunc .nilFunc).run P w = .ok true w := by
  simp [Op.equalIn, run_underlying h]
/-- f == nil. -/
theorem run_eql_func_nil {P : Program} (w : World) (t : TypeId) {a b : Array TypeId} {c : Bool} (f : Fn) (x y : Array Value) (h : P.underlying t = some (.func a b c)) :
    (binOp .eql t (.func f x y) .nilFunc).run P w = .ok (.bool false) w := by
  simp only [binOp]
  simp [Op.equal, Op.maxDepth, run_equalIn_func_nil w 9999 t f x y h]
theorem run_eql_nil_func {P : Program} (w : World) (t : TypeId) {a b : Array TypeId} {c : Bool} (h : P.underlying t = some (.func a b c)) :
    (binOp .eql t .nilFunc .nilFunc).run P w = .ok (.bool true) w := by
  simp only [binOp]
  simp [Op.equal, Op.maxDepth, run_equalIn_nil_nil w 9999 t h]
theorem not_cells {w : World} {q t t' : TypeId} {cs : Array Value} (h : w.heap[q]? = some (.cells cs t (0, 0))) (hne : t ≠ t') : ∀ cells, w.heap[q]? ≠ some (.cells cells t' (0, 0)) := by
  intro cells e
  rw [h] at e
  injection e with e
  injection e with _ e
  exact hne e
theorem grown_ne {w w1 : World} {row : Option Nat} (h : w.grownBy w1 row) {k : Nat} (hk : k < w.heap.size) (hne : some k ≠ row) : w1.heap[k]? = w.heap[k]? := h.block k hk hne
end Go.Proofs.YtononoakdebjeaaDoor.Base
