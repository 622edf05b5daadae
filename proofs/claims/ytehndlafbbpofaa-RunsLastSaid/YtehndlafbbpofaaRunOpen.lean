/- A document's run as an argument, opened. -/
import Derived.Test.YtehndlafbbpofaaRunTimes
import Derived.Test.YtehndlafbbpofaaArgRows
import Derived.Lib.SmallJoins
import Derived.KernelRfl
namespace Go.Proofs.Ytehndlafbbpofaa.Run
open Go.RowKit Go.Proofs.YtehndlafbbpofaaW.PrintWords Go.Proofs.Ytehndlafbbpofaa.Base Go.Proofs.Ytehndlafbbpofaa.Pack Go.ChangeShapes Go.WideShapes Go.Deep
set_option linter.unusedVariables false
set_option linter.unusedSimpArgs false

section
variable {H : Type} {enc : TypeId × Value → H} {P : Program} {W : World} {base fuel : Nat} {spare : Nat → Bool} {held : Bool}
/-- The cells of a struct of one-cell fields, each with its reading. -/
theorem open_cells {t : TypeId} {fs : Array Field} {cs : List Value} {x : DataW H × List MemPlace} (ht : P.underlying t = some (.struct fs)) (hone : oneCellFields P fs = true) (hC : P.cellsOf t = fs.size)
    (h : DataW.trod enc P W base spare held fuel t cs = some x) :
    cs.length = fs.size ∧ ∀ (j : Nat) (f : Field), fs[j]? = some f → ∃ v y n, cs[j]? = some v ∧ DataW.trod enc P W base spare held n f.type [v] = some y := by
  obtain ⟨xs, n, _, _, hl, hlen, hf⟩ := DataW.trod_struct ht h
  rw [hC] at hl
  refine ⟨hl, fun j f hj => ?_⟩
  obtain ⟨ho, hk⟩ := hone_of hone j f hj
  have hlt : j < fs.size := (Array.getElem?_eq_some_iff.1 hj).1
  have h1 := hf j f hj
  rw [ho, hk, List.drop_eq_getElem_cons (by omega)] at h1
  rw [List.getElem?_eq_getElem (by omega : j < xs.length)] at h1
  exact ⟨_, _, n, List.getElem?_eq_getElem (by omega), h1⟩
end
theorem list6 {α : Type} {l : List α} {a b c d e f : α} (h : l.length = 6) (h0 : l[0]? = some a) (h1 : l[1]? = some b) (h2 : l[2]? = some c) (h3 : l[3]? = some d) (h4 : l[4]? = some e) (h5 : l[5]? = some f) : l = [a, b, c, d, e, f] := by
  match l, h with
  | [x0, x1, x2, x3, x4, x5], _ =>
    simp only [List.getElem?_cons_zero, List.getElem?_cons_succ, Option.some.injEq] at h0 h1 h2 h3 h4 h5
    rw [h0, h1, h2, h3, h4, h5]
theorem list2 {α : Type} {l : List α} {a b : α} (h : l.length = 2) (h0 : l[0]? = some a) (h1 : l[1]? = some b) : l = [a, b] := by
  match l, h with
  | [x0, x1], _ =>
    simp only [List.getElem?_cons_zero, List.getElem?_cons_succ, Option.some.injEq] at h0 h1
    rw [h0, h1]
section
variable {H : Type} {enc : TypeId × Value → H} {W : World} {base fuel : Nat} {spare : Nat → Bool} {held : Bool}
theorem open_ins {cs : List Value} {x : DataW H × List MemPlace} (h : DataW.trod enc Try.prog W base spare held fuel 22 cs = some x) :
    ∃ (v : Value) (l : List (ByteArray × Int)), cs = [v] ∧ Is W v l ∧ ∀ p ∈ l, p.1.size ≤ maxLen ∧ p.2 < 9223372036854775808 := by
  obtain ⟨A, len, cap, rfl, hl, hm, he⟩ := open_each Try.underlying22 h
  have hc2 : Try.prog.cellsOf 46 = 2 := by kernel_rfl
  have key : ∀ i : Nat, ∃ p : ByteArray × Int, i < len → ∃ ad, A = some ad ∧ W.cell? (ad.add (i * 2)) = some (.string p.1) ∧ W.cell? (ad.add (i * 2 + 1)) = some (.int .i64 p.2) ∧ p.1.size ≤ maxLen ∧ p.2 < 9223372036854775808 := by
    intro i
    by_cases hi : i < len
    · obtain ⟨ad, n, e, hf⟩ := he (by omega)
      obtain ⟨cs', y, hcs, hy⟩ := hf i hi
      rw [hc2] at hcs
      obtain ⟨_, hcl, hat⟩ := World.cells?_some hcs
      obtain ⟨_, hfs⟩ := open_cells Try.underlying46 (by kernel_rfl) (by kernel_rfl) hy
      obtain ⟨v0, y0, n0, q0, t0⟩ := hfs 0 _ rfl
      obtain ⟨v1, y1, n1, q1, t1⟩ := hfs 1 _ rfl
      obtain ⟨s, e0, _, w0⟩ := DataW.trod_string Try.underlying9 t0
      obtain ⟨N, e1, _, w1⟩ := DataW.trod_int Try.underlying3 t1
      obtain rfl := List.singleton_inj.1 e0
      obtain rfl := List.singleton_inj.1 e1
      simp [Lit.wf, IntKind.min, IntKind.max, IntKind.bits, IntKind.signed] at w1
      refine ⟨(s, N), fun _ => ⟨ad, e, ?_, ?_, w0, by omega⟩⟩
      · have h0 := hat 0 (by omega)
        rw [q0, Go.Proofs.Ytehndlafbbpofaa.Run.add_more, Nat.add_zero] at h0
        exact h0
      · have h1 := hat 1 (by omega)
        rw [q1, Go.Proofs.Ytehndlafbbpofaa.Run.add_more] at h1
        exact h1
    · exact ⟨(ByteArray.empty, 0), fun h => absurd h hi⟩
  obtain ⟨f, hf⟩ := Classical.axiomOfChoice key
  have hlen : ((List.range len).map f).length = len := by simp
  refine ⟨_, (List.range len).map f, rfl, ⟨A, cap, by rw [hlen], by rw [hlen]; exact hl, by rw [hlen]; omega, fun hp => ?_⟩, fun p hp => ?_⟩
  · rw [hlen] at hp ⊢
    obtain ⟨ad, e, _⟩ := hf 0 hp
    refine ⟨ad, e, fun i hi => ?_⟩
    obtain ⟨ad', e', h1, h2, _⟩ := hf i hi
    rw [e] at e'
    cases e'
    rw [List.getD_eq_getElem?_getD, List.getElem?_map, List.getElem?_range hi]
    exact ⟨h1, h2⟩
  · obtain ⟨i, hi, rfl⟩ := List.mem_map.1 hp
    obtain ⟨_, _, _, _, hb⟩ := hf i (List.mem_range.1 hi)
    exact hb
/-- A run's parts are no greater than memory has room for. -/
structure FitR (r : RunV) : Prop where
  out : r.out.size ≤ 9223372036854775807
  cmd : r.cmd.size ≤ 9223372036854775807
  names : ∀ p ∈ r.ins, p.1.size ≤ 9223372036854775807
  times : ∀ t ∈ timesOf r, t < 9223372036854775808
set_option maxRecDepth 100000 in
theorem open_runc {cs : List Value} {x : DataW H × List MemPlace} (h : DataW.trod enc Try.prog W base spare held fuel 25 cs = some x) :
    ∃ (r : RunV) (vi vf : Value), cs = [.string r.out, .string r.cmd, .int .i64 r.time, .int .i64 r.mark, vi, vf] ∧ Is W vi r.ins ∧ Fs W vf r.found ∧ FitR r := by
  obtain ⟨hl, hfs⟩ := open_cells Try.underlying25 (by kernel_rfl) (by kernel_rfl) h
  obtain ⟨v0, y0, n0, q0, t0⟩ := hfs 0 _ rfl
  obtain ⟨v1, y1, n1, q1, t1⟩ := hfs 1 _ rfl
  obtain ⟨v2, y2, n2, q2, t2⟩ := hfs 2 _ rfl
  obtain ⟨v3, y3, n3, q3, t3⟩ := hfs 3 _ rfl
  obtain ⟨v4, y4, n4, q4, t4⟩ := hfs 4 _ rfl
  obtain ⟨v5, y5, n5, q5, t5⟩ := hfs 5 _ rfl
  obtain ⟨s, e0, _, w0⟩ := DataW.trod_string Try.underlying9 t0
  obtain ⟨c, e1, _, w1⟩ := DataW.trod_string Try.underlying9 t1
  obtain ⟨T, e2, _, w2⟩ := DataW.trod_int Try.underlying3 t2
  obtain ⟨M, e3, _, w3⟩ := DataW.trod_int Try.underlying3 t3
  obtain rfl := List.singleton_inj.1 e0
  obtain rfl := List.singleton_inj.1 e1
  obtain rfl := List.singleton_inj.1 e2
  obtain rfl := List.singleton_inj.1 e3
  obtain ⟨vi, l, e4, hI, hb4⟩ := open_ins t4
  obtain rfl := List.singleton_inj.1 e4
  obtain ⟨A, g, cap, e5, hr, hc, hw⟩ := open_nums Try.underlying23 Try.underlying3 (by kernel_rfl) t5
  obtain rfl := List.singleton_inj.1 e5
  simp [Lit.wf, IntKind.min, IntKind.max, IntKind.bits, IntKind.signed] at w2 w3 hw
  simp only [maxLen] at w0 w1 hb4
  refine ⟨⟨s, c, T, M, l, g⟩, _, _, list6 hl q0 q1 q2 q3 q4 q5, hI, ⟨A, cap, rfl, hc, hr⟩, ⟨by simp only; omega, by simp only; omega, fun p hp => by have := (hb4 p hp).1; omega, fun t ht => ?_⟩⟩
  simp only [timesOf, List.mem_append, List.mem_cons, List.not_mem_nil, or_false, List.mem_map] at ht
  rcases ht with ((rfl | rfl) | ht) | ⟨p, hp, rfl⟩
  · omega
  · omega
  · have := (hw t ht).2; omega
  · exact (hb4 p hp).2
set_option maxRecDepth 100000 in
theorem open_run {r0 : Reach} {b0 : Nat} {v : Value} {d : DataW H} {ps : List MemPlace} (hv : Value.okWide Try.prog W r0 b0 25 v) (h : DataW.Trod enc Try.prog W base spare held 25 v d ps) :
    ∃ r : RunV, RunIs W v r ∧ FitR r := by
  obtain ⟨cs, rfl, hsz⟩ := okWide_struct Try.underlying25 hv
  obtain ⟨fuel, hf⟩ := h
  obtain ⟨r, vi, vf, e, hi, hg, hr⟩ := open_runc hf
  refine ⟨r, ⟨vi, vf, ?_, hi, hg⟩, hr⟩
  have e2 : cs.toList = [.string r.out, .string r.cmd, .int .i64 r.time, .int .i64 r.mark, vi, vf] := e
  rw [← Array.toArray_toList (xs := cs), e2]
end
end Go.Proofs.Ytehndlafbbpofaa.Run
