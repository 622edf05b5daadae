/- A run under way: its block, the result's block, its rows; what moves them. -/
import Derived.Test.YtehndlafbbpofaaRunOf
import Derived.Test.YtehndlafbbpofaaRdAny
namespace Go.Proofs.Ytehndlafbbpofaa.Run
open Go.RowKit Go.Proofs.YtehndlafbbpofaaW.PrintWords Go.Proofs.YtehndlafbbpofaaW.PrintLast Go.Proofs.Ytehndlafbbpofaa.Base Go.Proofs.Ytehndlafbbpofaa.Pack
set_option linter.unusedVariables false
set_option linter.unusedSimpArgs false

def zrun : Array Value := #[.string ⟨#[]⟩, .string ⟨#[]⟩, .int .i64 0, .int .i64 0, .slice none 0 0, .slice none 0 0]
def rcells (r : RunV) (vi vf : Value) : Array Value := #[.string r.out, .string r.cmd, .int .i64 r.time, .int .i64 r.mark, vi, vf]
/-- The run lies in block h (type DR), the result's variable in block q; its inputs (type DI) and what was found lie in rows of the call's own. -/
structure Rn (DI DR : TypeId) (w0 w : World) (h q : Nat) (r : RunV) (vi vf : Value) : Prop where
  run : w.heap[h]? = some (.cells (rcells r vi vf) DR (0, 0))
  res : w.heap[q]? = some (.cells zrun DR (0, 0))
  ins : Ri DI w w0.heap.size vi r.ins
  fnd : Oi w0 w vf r.found
  ne : h ≠ q
  h1 : w0.heap.size ≤ h
  q1 : w0.heap.size ≤ q
section
variable {DI DR : TypeId} {w0 w w1 : World} {h q : Nat} {r : RunV} {vi vf : Value}
theorem Rn.move (k : Rn DI DR w0 w h q r vi vf) (hb : Below w0.heap.size w0 w1) (hm : ∀ (i : Nat) (t : TypeId) (cells : Array Value), w.heap[i]? = some (Obj.cells cells t (0, 0)) → (t = DI ∨ t = 3 ∨ t = DR) → w1.heap[i]? = w.heap[i]?) : Rn DI DR w0 w1 h q r vi vf := by
  refine ⟨(hm _ _ _ k.run (.inr (.inr rfl))).trans k.run, (hm _ _ _ k.res (.inr (.inr rfl))).trans k.res, ?_, ?_, k.ne, k.h1, k.q1⟩
  · refine Kd.R_mono (Kd.R_move (Kd.R_bound k.ins) (fun i hi => ?_)) (fun _ _ => trivial)
    obtain ⟨_, _, _, t, ht, cells, hc⟩ := hi
    have e : t = DI := by simpa [kin, Kd.pair, Kd.string, Kd.int, Kd.scalar] using ht
    exact hm i t cells hc (.inl e)
  · refine ⟨own_move k.fnd.own fun i hi => ?_, hb⟩
    obtain ⟨cells, hc⟩ := own_typed k.fnd.own i hi
    exact hm i _ cells hc (.inr (.inl rfl))
theorem Rn.below (k : Rn DI DR w0 w h q r vi vf) (hb : Below w.heap.size w w1) : Rn DI DR w0 w1 h q r vi vf :=
  k.move (k.fnd.below.trans (hb.mono k.fnd.below.size)) fun i _ _ hc _ => hb.block i (blk_lt hc)
theorem Rn.drew (k : Rn DI DR w0 w h q r vi vf) : Rn DI DR w0 w.drew h q r vi vf := k.below (below_drew (Below.refl _ _))
theorem Rn.only {g t : Nat} {cs : Array Value} (k : Rn DI DR w0 w h q r vi vf) (ho : Only g w w1) (hg : w.heap[g]? = some (.cells cs t (0, 0))) (ht : t ≠ DI ∧ t ≠ 3 ∧ t ≠ DR) (hb : w0.heap.size ≤ g) : Rn DI DR w0 w1 h q r vi vf := by
  refine k.move (k.fnd.below.trans (ho.below hb k.fnd.below.size)) fun i t' cells hc h3 => ho.block i (blk_lt hc) ?_
  rintro rfl
  rw [hg] at hc
  injection hc with hc
  injection hc with _ e
  subst e
  rcases h3 with h3 | h3 | h3
  · exact ht.1 h3
  · exact ht.2.1 h3
  · exact ht.2.2 h3
/-- A field of the run is written. -/
theorem Rn.put (k : Rn DI DR w0 w h q r vi vf) (i : Nat) (u : Value) (r2 : RunV) (he : (rcells r vi vf).setIfInBounds i u = rcells r2 vi vf) (hi : r2.ins = r.ins) (hf : r2.found = r.found) (hd : DI ≠ DR ∧ DR ≠ 3) : Rn DI DR w0 (w.setCell ⟨h, i, none⟩ u) h q r2 vi vf := by
  have ho := (Only.refl h w).setCell i u
  have hs := blk_set k.run i u
  rw [he] at hs
  refine ⟨hs, (ho.block q (blk_lt k.res) (fun e => k.ne e.symm)).trans k.res, ?_, ?_, k.ne, k.h1, k.q1⟩
  · rw [hi]
    exact Kd.R_set k.ins k.run (by
      intro t ht
      have e : t = DI := by simpa [kin, Kd.pair, Kd.string, Kd.int, Kd.scalar] using ht
      rw [e]; exact hd.1) i u
  · rw [hf]
    exact oi_only k.fnd ho k.run hd.2 k.h1
theorem ri_ne {g t : Nat} {cells : Array Value} {v : Value} {l : List (ByteArray × Int)} {base : Nat} (h : Ri DI w base v l) (hc : w.heap[g]? = some (.cells cells t (0, 0))) (hd : DI ≠ t) : some g ≠ v.ownBlock := Kd.R_ne h hc hd
/-- An input has been appended, and the run's field holds the new row. -/
theorem Rn.app {p : ByteArray × Int} {v1 : Value} (k : Rn DI DR w0 w h q r vi vf) (r1 : Ri DI w1 w0.heap.size v1 (r.ins ++ [p])) (b1 : Below w0.heap.size w0 w1) (g1 : w.grownBy w1 vi.ownBlock) (hd : DI ≠ DR ∧ DR ≠ 3 ∧ DI ≠ 3) :
    w1.heap[h]? = some (.cells (rcells r vi vf) DR (0, 0)) ∧ Rn DI DR w0 (w1.setCell ⟨h, 4, none⟩ v1) h q { r with ins := r.ins ++ [p] } v1 vf := by
  have e1 := (g1.block h (blk_lt k.run) (ri_ne k.ins k.run hd.1)).trans k.run
  have e2 := (g1.block q (blk_lt k.res) (ri_ne k.ins k.res hd.1)).trans k.res
  have e3 : Oi w0 w1 vf r.found := oi_grown k.fnd g1 b1 (fun i hi => by
    obtain ⟨cells, hc⟩ := own_typed k.fnd.own i hi
    exact ri_ne k.ins hc hd.2.2)
  have ho := (Only.refl h w1).setCell 4 v1
  refine ⟨e1, blk_set e1 4 v1, (ho.block q (blk_lt e2) (fun e => k.ne e.symm)).trans e2, ?_, oi_only e3 ho e1 hd.2.1 k.h1, k.ne, k.h1, k.q1⟩
  exact Kd.R_set r1 e1 (by
    intro t ht
    have e : t = DI := by simpa [kin, Kd.pair, Kd.string, Kd.int, Kd.scalar] using ht
    rw [e]; exact hd.1) 4 v1
/-- A number that was found has been appended, and the run's field holds the new row. -/
theorem Rn.appF {p : Int} {v1 : Value} (k : Rn DI DR w0 w h q r vi vf) (o1 : Oi w0 w1 v1 (r.found ++ [p])) (g1 : w.grownBy w1 vf.ownBlock) (hd : DI ≠ DR ∧ DR ≠ 3 ∧ DI ≠ 3) :
    w1.heap[h]? = some (.cells (rcells r vi vf) DR (0, 0)) ∧ Rn DI DR w0 (w1.setCell ⟨h, 5, none⟩ v1) h q { r with found := r.found ++ [p] } vi v1 := by
  have hne : ∀ (i : Nat) (t : TypeId) (cells : Array Value), w.heap[i]? = some (Obj.cells cells t (0, 0)) → t ≠ 3 → some i ≠ vf.ownBlock := by
    intro i t cells hc ht e
    obtain ⟨cells', hc'⟩ := own_typed k.fnd.own i e.symm
    rw [hc] at hc'
    injection hc' with hc'
    injection hc' with _ e2
    exact ht e2
  have e1 := (g1.block h (blk_lt k.run) (hne _ _ _ k.run hd.2.1)).trans k.run
  have e2 := (g1.block q (blk_lt k.res) (hne _ _ _ k.res hd.2.1)).trans k.res
  have e3 : Ri DI w1 w0.heap.size vi r.ins := by
    refine Kd.R_mono (Kd.R_move (Kd.R_bound k.ins) (fun i hi => ?_)) (fun _ _ => trivial)
    obtain ⟨_, _, hlt, t, ht, cells, hc⟩ := hi
    have e : t = DI := by simpa [kin, Kd.pair, Kd.string, Kd.int, Kd.scalar] using ht
    subst e
    exact g1.block i hlt (hne i _ _ hc hd.2.2)
  have ho := (Only.refl h w1).setCell 5 v1
  refine ⟨e1, blk_set e1 5 v1, (ho.block q (blk_lt e2) (fun e => k.ne e.symm)).trans e2, ?_, oi_only o1 ho e1 hd.2.1 k.h1, k.ne, k.h1, k.q1⟩
  exact Kd.R_set e3 e1 (by
    intro t ht
    have e : t = DI := by simpa [kin, Kd.pair, Kd.string, Kd.int, Kd.scalar] using ht
    rw [e]; exact hd.1) 5 v1
end
/-- A reader stands where a row of another type has grown. -/
theorem _root_.Go.Proofs.Ytehndlafbbpofaa.Pack.Rd.grown {B : Nat} {w w1 : World} {g t : Nat} {rest : List Int} {bad : Bool} {u : Value} (h : Rd B w g rest bad) (hg : w.grownBy w1 u.ownBlock) (ht : ∀ i, u.ownBlock = some i → ∃ cells, w.heap[i]? = some (.cells cells t (0, 0))) (h1 : t ≠ 5) (h2 : t ≠ 123) : Rd B w1 g rest bad := by
  obtain ⟨v, hc, hq⟩ := h.cell
  have hne : ∀ (i : Nat) (t' : TypeId) (cells : Array Value), w.heap[i]? = some (Obj.cells cells t' (0, 0)) → t ≠ t' → some i ≠ u.ownBlock := by
    intro i t' cells hi hd e
    obtain ⟨cells', hc'⟩ := ht i e.symm
    rw [hi] at hc'
    injection hc' with hc'
    injection hc' with _ e2
    exact hd e2.symm
  refine ⟨⟨v, (hg.block g (blk_lt hc) (hne _ _ _ hc h2)).trans hc, q_move hq fun i hi => ?_⟩, h.base, h.none_⟩
  obtain ⟨_, cells, hk2⟩ := q_typed hq i hi
  exact hg.block i (q_lt hq i hi) (hne _ _ _ hk2 h1)
section
variable {ops : Array Oper} {o : Oper} {a : Act} {Q : Exit → Act → World → Prop}
/-- append(v, y) of a number, as a step of a region that draws. -/
theorem app_num_step {K : Act → World → Prop} {E : Prop} {w0 W : World} (hgd : o.guard = none) (s x : Operand) (t : TypeId)
    (ho : o.op = .call { callee := .builtin .append, args := #[s, x], argTypes := #[t, t] })
    (ht : Try.prog.underlying t = some (.slice 3))
    (v : Value) (xs : List Int) (y : Int) (hs : a.eval s = v) (hx : a.eval x = .slice (some ⟨W.heap.size, 0, none⟩) 1 1)
    (HO : Oi w0 W v xs) (hl : xs.length + 1 ≤ 17592186044416)
    (h : ∀ v1 w1, Oi w0 w1 v1 (xs ++ [y]) → W.grownBy w1 v.ownBlock → K (a.put o.dst v1) w1) :
    if Region.wanted o (yielded ops a.tmps) = true then Oper.wp Try.prog o a (W.alloc (.cells #[.int .i64 y] 3)) K Q else E := by
  have hw : Region.wanted o (yielded ops a.tmps) = true := by simp [Region.wanted, hgd]
  rw [if_pos hw]
  have hK := step_append_cells (K := K) (Q := Q) (P := Try.prog) (ops := ops) (o := o) (a := a) w0.heap.size hw s x t 3 (.int .i64 0) 1 8 ho ht info_int rfl (by decide) (by decide) v xs.length (nums .i64 xs) [.int .i64 y] hs hx rfl (by simp [Value.oneCell']) HO.own HO.below HO.below.size (by omega)
    (fun v1 w1 h1 h2 h3 _ => h v1 w1 ⟨by simpa [nums] using h1, h2⟩ h3)
  rwa [if_pos hw] at hK
end
end Go.Proofs.Ytehndlafbbpofaa.Run
