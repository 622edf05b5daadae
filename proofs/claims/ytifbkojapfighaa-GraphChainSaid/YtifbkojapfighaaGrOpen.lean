/- A document's manifest as an argument, opened. -/
import Derived.Test.YtifbkojapfighaaArgs
import Derived.Test.YtifbkojapfighaaGraphMoreW
import Derived.ChangeSlices
import Derived.OpenShut
import Derived.Lib.SmallJoins
import Derived.KernelRfl
namespace Go.Proofs.Ytifbkojapfighaa.Gr
open Go.RowKit Go.Proofs.YtifbkojapfighaaW.PrintWords Go.Proofs.Ytifbkojapfighaa.Base Go.ChangeShapes Go.WideShapes Go.Deep
set_option linter.unusedVariables false
set_option linter.unusedSimpArgs false

/-- A slice out of its reading: each element reads. -/
theorem open_each {H : Type} {enc : TypeId × Value → H} {P : Program} {W : World} {base fuel : Nat} {spare : Nat → Bool} {held : Bool} {t e : TypeId} {cs : List Value} {x : DataW H × List MemPlace}
    (ht : P.underlying t = some (.slice e)) (h : DataW.trod enc P W base spare held fuel t cs = some x) :
    ∃ (A : Option Addr) (len cap : Nat), cs = [.slice A len cap] ∧ len ≤ cap ∧ cap ≤ 9223372036854775807 ∧ (0 < len → ∃ ad n, A = some ad ∧ ∀ i, i < len → ∃ cs' y, W.cells? base (ad.add (i * P.cellsOf e)) (P.cellsOf e) = some cs' ∧ DataW.trod enc P W base spare held n e cs' = some y) := by
  rcases DataW.trod_slice ht h with ⟨rfl, _⟩ | ⟨a, len, cap, elems, rest, n, _, rfl, rfl, hb, hl, hm, hlen, hel, hsp, hns⟩
  · exact ⟨none, 0, 0, rfl, Nat.le_refl _, by omega, fun h => absurd h (Nat.lt_irrefl 0)⟩
  · simp only [maxLen] at hm
    refine ⟨some a, len, cap, rfl, hl, by omega, fun _ => ⟨a, n, rfl, fun i hi => ?_⟩⟩
    have h1 := hel i hi
    rw [List.getElem?_eq_getElem (by omega), Option.bind_eq_some_iff] at h1
    obtain ⟨cs', hcs, hy⟩ := h1
    exact ⟨cs', _, hcs, hy⟩
section
variable {H : Type} {enc : TypeId × Value → H} {P : Program} {W : World} {base fuel : Nat} {spare : Nat → Bool} {held : Bool}
/-- The cells of a struct of one-cell fields, each with its reading. -/
theorem open_cells {t : TypeId} {fs : Array Field} {cs : List Value} {x : DataW H × List MemPlace} (ht : P.underlying t = some (.struct fs)) (hone : oneCellFields P fs = true) (hC : P.cellsOf t = fs.size)
    (h : DataW.trod enc P W base spare held fuel t cs = some x) :
    cs.length = fs.size ∧ ∀ (j : Nat) (f : Field), fs[j]? = some f → ∃ v y n, cs[j]? = some v ∧ DataW.trod enc P W base spare held n f.type [v] = some y := by
  obtain ⟨xs, n, _, _, hl, hlen, hf⟩ := DataW.trod_struct ht h
  rw [hC] at hl
  refine ⟨hl, fun j f hj => ?_⟩
  obtain ⟨ho, hk⟩ := hone_of hone j f hj
  have hlt : j < fs.size := (Array.getElem?_eq_some_iff.1 hj).1
  have h1 := hf j f hj
  rw [ho, hk, List.drop_eq_getElem_cons (by omega)] at h1
  rw [List.getElem?_eq_getElem (by omega : j < xs.length)] at h1
  exact ⟨_, _, n, List.getElem?_eq_getElem (by omega), h1⟩
/-- A slice of texts, out of its cells. -/
theorem open_strs {t e : TypeId} {cs : List Value} {x : DataW H × List MemPlace} (ht : P.underlying t = some (.slice e)) (he : P.underlying e = some .string) (hc : P.cellsOf e = 1) (h : DataW.trod enc P W base spare held fuel t cs = some x) :
    ∃ (v : Value) (l : List ByteArray), cs = [v] ∧ Base.Ss W v l ∧ ∀ s ∈ l, s.size ≤ maxLen := by
  rcases open_strings ht he hc h with ⟨hcs, _⟩ | ⟨x, l, c, ss, hcs, _, hl, hm, hz, _, hcell, hss⟩
  · exact ⟨_, [], hcs, ⟨none, 0, rfl, by simp, by simp, fun h => absurd h (Nat.lt_irrefl 0)⟩, fun s hs => by cases hs⟩
  · have hle : l ≤ ss.length := by rw [hz]; split <;> omega
    have hlt : (ss.take l).length = l := by rw [List.length_take]; omega
    simp only [maxLen] at hm
    refine ⟨_, ss.take l, hcs, ⟨some x, c, by rw [hlt], by rw [hlt]; exact hl, by rw [hlt]; omega, fun _ => ⟨x, rfl, fun i hi => ?_⟩⟩, fun s hs => hss s (List.mem_of_mem_take hs)⟩
    rw [hlt] at hi
    rw [hcell i (by omega)]
    simp [List.getD_eq_getElem?_getD, List.getElem?_take, hi]
end
theorem list6 {α : Type} {l : List α} {a b c d e f : α} (h : l.length = 6) (h0 : l[0]? = some a) (h1 : l[1]? = some b) (h2 : l[2]? = some c) (h3 : l[3]? = some d) (h4 : l[4]? = some e) (h5 : l[5]? = some f) : l = [a, b, c, d, e, f] := by
  match l, h with
  | [x0, x1, x2, x3, x4, x5], _ =>
    simp only [List.getElem?_cons_zero, List.getElem?_cons_succ, Option.some.injEq] at h0 h1 h2 h3 h4 h5
    rw [h0, h1, h2, h3, h4, h5]
theorem list2 {α : Type} {l : List α} {a b : α} (h : l.length = 2) (h0 : l[0]? = some a) (h1 : l[1]? = some b) : l = [a, b] := by
  match l, h with
  | [x0, x1], _ =>
    simp only [List.getElem?_cons_zero, List.getElem?_cons_succ, Option.some.injEq] at h0 h1
    rw [h0, h1]
section
variable {H : Type} {enc : TypeId × Value → H} {W : World} {base fuel : Nat} {spare : Nat → Bool} {held : Bool}
set_option maxRecDepth 100000 in
theorem open_edgec {cs : List Value} {x : DataW H × List MemPlace} (h : DataW.trod enc Try.prog W base spare held fuel 46 cs = some x) :
    ∃ (e : EdgeV) (vo vi vm vr : Value), cs = [vo, vi, vm, vr, .string e.cmd, .string e.dep] ∧ EdC W vo vi vm vr e := by
  obtain ⟨hl, hfs⟩ := open_cells Try.underlying46 (by kernel_rfl) (by kernel_rfl) h
  obtain ⟨v0, y0, n0, q0, t0⟩ := hfs 0 _ rfl
  obtain ⟨v1, y1, n1, q1, t1⟩ := hfs 1 _ rfl
  obtain ⟨v2, y2, n2, q2, t2⟩ := hfs 2 _ rfl
  obtain ⟨v3, y3, n3, q3, t3⟩ := hfs 3 _ rfl
  obtain ⟨v4, y4, n4, q4, t4⟩ := hfs 4 _ rfl
  obtain ⟨v5, y5, n5, q5, t5⟩ := hfs 5 _ rfl
  obtain ⟨c, e4, _, _⟩ := DataW.trod_string Try.underlying9 t4
  obtain ⟨d, e5, _, _⟩ := DataW.trod_string Try.underlying9 t5
  obtain rfl := List.singleton_inj.1 e4
  obtain rfl := List.singleton_inj.1 e5
  obtain ⟨vo, lo, e0, so, _⟩ := open_strs Try.underlying23 Try.underlying9 (by kernel_rfl) t0
  obtain ⟨vi, li, e1, si, _⟩ := open_strs Try.underlying23 Try.underlying9 (by kernel_rfl) t1
  obtain ⟨vm, lm, e2, sm, _⟩ := open_strs Try.underlying23 Try.underlying9 (by kernel_rfl) t2
  obtain ⟨vr, lr, e3, sr, _⟩ := open_strs Try.underlying23 Try.underlying9 (by kernel_rfl) t3
  obtain rfl := List.singleton_inj.1 e0
  obtain rfl := List.singleton_inj.1 e1
  obtain rfl := List.singleton_inj.1 e2
  obtain rfl := List.singleton_inj.1 e3
  exact ⟨⟨lo, li, lm, lr, c, d⟩, _, _, _, _, list6 hl q0 q1 q2 q3 q4 q5, so, si, sm, sr⟩
theorem open_edges {cs : List Value} {x : DataW H × List MemPlace} (h : DataW.trod enc Try.prog W base spare held fuel 22 cs = some x) :
    ∃ (v : Value) (l : List EdgeV), cs = [v] ∧ Ez W v l := by
  obtain ⟨A, len, cap, rfl, hl, hm, he⟩ := open_each Try.underlying22 h
  have hc6 : Try.prog.cellsOf 46 = 6 := by kernel_rfl
  have key : ∀ i : Nat, ∃ e : EdgeV, i < len → ∃ ad vo vi vm vr, A = some ad ∧ W.cell? (ad.add (i * 6)) = some vo ∧ W.cell? (ad.add (i * 6 + 1)) = some vi ∧ W.cell? (ad.add (i * 6 + 2)) = some vm ∧ W.cell? (ad.add (i * 6 + 3)) = some vr ∧ W.cell? (ad.add (i * 6 + 4)) = some (.string e.cmd) ∧ W.cell? (ad.add (i * 6 + 5)) = some (.string e.dep) ∧ EdC W vo vi vm vr e := by
    intro i
    by_cases hi : i < len
    · obtain ⟨ad, n, ea, hf⟩ := he (by omega)
      obtain ⟨cs', y, hcs, hy⟩ := hf i hi
      rw [hc6] at hcs
      obtain ⟨_, hcl, hat⟩ := World.cells?_some hcs
      obtain ⟨e, vo, vi, vm, vr, e3, h1⟩ := open_edgec hy
      have key2 : ∀ j u, [vo, vi, vm, vr, Value.string e.cmd, Value.string e.dep][j]? = some u → W.cell? (ad.add (i * 6 + j)) = some u := fun j u hu => by
        rw [← e3] at hu
        have hj : j < 6 := by
          rw [← hcl]
          exact (List.getElem?_eq_some_iff.1 hu).1
        have := hat j hj
        rw [hu, Addr.add_add] at this
        exact this
      exact ⟨e, fun _ => ⟨ad, vo, vi, vm, vr, ea, key2 0 _ rfl, key2 1 _ rfl, key2 2 _ rfl, key2 3 _ rfl, key2 4 _ rfl, key2 5 _ rfl, h1⟩⟩
    · exact ⟨zedge, fun h => absurd h hi⟩
  obtain ⟨f, hf⟩ := Classical.axiomOfChoice key
  have hlen : ((List.range len).map f).length = len := by simp
  refine ⟨_, (List.range len).map f, rfl, ⟨A, cap, by rw [hlen], by rw [hlen]; exact hl, by rw [hlen]; omega, fun hp => ?_⟩⟩
  rw [hlen] at hp ⊢
  obtain ⟨ad, _, _, _, _, e, _⟩ := hf 0 hp
  refine ⟨ad, e, fun i hi => ?_⟩
  obtain ⟨ad', vo, vi, vm, vr, e', h0, h1, h2, h3, h4, h5, h6⟩ := hf i hi
  rw [e] at e'
  cases e'
  rw [List.getD_eq_getElem?_getD, List.getElem?_map, List.getElem?_range hi]
  have nx : ∀ (j : Nat) (u : Value), 0 < j → W.cell? (ad.add (i * 6 + j)) = some u → W.cell? ⟨(ad.add (i * 6)).block, (ad.add (i * 6)).off + j, none⟩ = some u := fun j u hj h => cell_nx h hj
  exact ⟨vo, vi, vm, vr, h0, nx 1 _ (by omega) h1, nx 2 _ (by omega) h2, nx 3 _ (by omega) h3, nx 4 _ (by omega) h4, nx 5 _ (by omega) h5, h6⟩
set_option maxRecDepth 100000 in
theorem open_man {r0 : Go.Reach} {b0 : Nat} {v : Value} {d : DataW H} {ps : List MemPlace} (hv : Value.okWide Try.prog W r0 b0 25 v) (h : DataW.Trod enc Try.prog W base spare held 25 v d ps) :
    ∃ m : ManV, ManIs W v m := by
  obtain ⟨cs, rfl, hsz⟩ := okWide_struct Try.underlying25 hv
  obtain ⟨fuel, hf⟩ := h
  obtain ⟨hl, hfs⟩ := open_cells Try.underlying25 (by kernel_rfl) (by kernel_rfl) hf
  obtain ⟨v0, y0, n0, q0, t0⟩ := hfs 0 _ rfl
  obtain ⟨v1, y1, n1, q1, t1⟩ := hfs 1 _ rfl
  obtain ⟨ve, es, e0, hE⟩ := open_edges t0
  obtain ⟨vd, ds, e1, hD, _⟩ := open_strs Try.underlying23 Try.underlying9 (by kernel_rfl) t1
  obtain rfl := List.singleton_inj.1 e0
  obtain rfl := List.singleton_inj.1 e1
  refine ⟨⟨es, ds⟩, v0, v1, ?_, hE, hD⟩
  have e2 : cs.toList = [v0, v1] := list2 hl q0 q1
  rw [← Array.toArray_toList (xs := cs), e2]
end
theorem u8_nat {a : Int} (h : (Lit.int .u8 a).wf = true) : ∃ k : Nat, a = (k : Int) ∧ k < 256 := by
  simp [Lit.wf, IntKind.min, IntKind.max, IntKind.bits, IntKind.signed] at h
  exact ⟨a.toNat, by omega, by omega⟩
theorem more_row (v v2 : Value) (a : Int) (m : ManV) (ts : List ByteArray) (w : World) (hm : ManIs w v m) (ht : Base.Ss w v2 ts) (hz : ∀ s ∈ ts, s.size ≤ maxLen) (ha : (Lit.int .u8 a).wf = true) :
    Calls Try.prog 3 #[v, v2, .int .u8 a] w fun e w' => e = .returned (.bool true) ∧ Below w.heap.size w w' := by
  obtain ⟨k, rfl, hk⟩ := u8_nat ha
  exact more_any v v2 k m ts w hm ht hz hk
end Go.Proofs.Ytifbkojapfighaa.Gr
