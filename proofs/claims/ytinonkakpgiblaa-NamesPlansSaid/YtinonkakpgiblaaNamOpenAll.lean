/- Arguments: the cells of a struct; slices of texts and of bytes, out of their cells; What was found as an argument, opened; rows of it; the law's all. -/
import Derived.Test.YtinonkakpgiblaaArgRows
import Derived.Lib.SmallJoins
import Derived.KernelRfl
import Derived.Test.YtinonkakpgiblaaNamTold
namespace Go.Proofs.Ytinonkakpgiblaa.Base
open Go.RowKit Go.Proofs.YtinonkakpgiblaaW.PrintWords Go.ChangeShapes Go.WideShapes Go.Deep
set_option linter.unusedVariables false
set_option linter.unusedSimpArgs false

section
variable {H : Type} {enc : TypeId × Value → H} {P : Program} {W : World} {base fuel : Nat} {spare : Nat → Bool} {held : Bool}
/-- The cells of a struct of one-cell fields, each with its reading. -/
theorem open_cells {t : TypeId} {fs : Array Field} {cs : List Value} {x : DataW H × List MemPlace} (ht : P.underlying t = some (.struct fs)) (hone : oneCellFields P fs = true) (hC : P.cellsOf t = fs.size)
    (h : DataW.trod enc P W base spare held fuel t cs = some x) :
    cs.length = fs.size ∧ ∀ (j : Nat) (f : Field), fs[j]? = some f → ∃ v y n, cs[j]? = some v ∧ DataW.trod enc P W base spare held n f.type [v] = some y := by
  obtain ⟨xs, n, _, _, hl, hlen, hf⟩ := DataW.trod_struct ht h
  rw [hC] at hl
  refine ⟨hl, fun j f hj => ?_⟩
  obtain ⟨ho, hk⟩ := hone_of hone j f hj
  have hlt : j < fs.size := (Array.getElem?_eq_some_iff.1 hj).1
  have h1 := hf j f hj
  rw [ho, hk, List.drop_eq_getElem_cons (by omega)] at h1
  rw [List.getElem?_eq_getElem (by omega : j < xs.length)] at h1
  exact ⟨_, _, n, List.getElem?_eq_getElem (by omega), h1⟩
/-- A slice of texts, out of its cells. -/
theorem open_strs {t e : TypeId} {cs : List Value} {x : DataW H × List MemPlace} (ht : P.underlying t = some (.slice e)) (he : P.underlying e = some .string) (hc : P.cellsOf e = 1) (h : DataW.trod enc P W base spare held fuel t cs = some x) :
    ∃ (v : Value) (l : List ByteArray), cs = [v] ∧ Ss W v l ∧ ∀ s ∈ l, s.size ≤ maxLen := by
  rcases open_strings ht he hc h with ⟨hcs, _⟩ | ⟨x, l, c, ss, hcs, _, hl, hm, hz, _, hcell, hss⟩
  · exact ⟨_, [], hcs, ⟨none, 0, rfl, by simp, by simp, fun h => absurd h (Nat.lt_irrefl 0)⟩, fun s hs => by cases hs⟩
  · have hle : l ≤ ss.length := by rw [hz]; split <;> omega
    have hlt : (ss.take l).length = l := by rw [List.length_take]; omega
    simp only [maxLen] at hm
    refine ⟨_, ss.take l, hcs, ⟨some x, c, by rw [hlt], by rw [hlt]; exact hl, by rw [hlt]; omega, fun _ => ⟨x, rfl, fun i hi => ?_⟩⟩, fun s hs => hss s (List.mem_of_mem_take hs)⟩
    rw [hlt] at hi
    rw [hcell i (by omega)]
    simp [List.getD_eq_getElem?_getD, List.getElem?_take, hi]
end
theorem list3 {α : Type} {l : List α} {a b c : α} (h : l.length = 3) (h0 : l[0]? = some a) (h1 : l[1]? = some b) (h2 : l[2]? = some c) : l = [a, b, c] := by
  match l, h with
  | [x0, x1, x2], _ =>
    simp only [List.getElem?_cons_zero, List.getElem?_cons_succ, Option.some.injEq] at h0 h1 h2
    rw [h0, h1, h2]
end Go.Proofs.Ytinonkakpgiblaa.Base
namespace Go.Proofs.Ytinonkakpgiblaa.Nam
open Go.RowKit Go.Proofs.YtinonkakpgiblaaW.PrintWords Go.Proofs.Ytinonkakpgiblaa.Base Go.Proofs.Ytinonkakpgiblaa.Pack Go.ChangeShapes Go.WideShapes
set_option linter.unusedVariables false
set_option linter.unusedSimpArgs false

section
variable {H : Type} {enc : TypeId × Value → H} {W : World} {base fuel : Nat} {spare : Nat → Bool} {held : Bool}
set_option maxRecDepth 100000 in
theorem open_depc {cs : List Value} {x : DataW H × List MemPlace} (h : DataW.trod enc Try.prog W base spare held fuel 24 cs = some x) :
    ∃ (d : DepV) (vd : Value), cs = [.string d.out, .int .i64 d.time, vd] ∧ Ss W vd d.deps ∧ FitD d := by
  obtain ⟨hl, hfs⟩ := open_cells Try.underlying24 (by kernel_rfl) (by kernel_rfl) h
  obtain ⟨v0, y0, n0, q0, t0⟩ := hfs 0 _ rfl
  obtain ⟨v1, y1, n1, q1, t1⟩ := hfs 1 _ rfl
  obtain ⟨v2, y2, n2, q2, t2⟩ := hfs 2 _ rfl
  obtain ⟨s, e0, _, w0⟩ := DataW.trod_string Try.underlying9 t0
  obtain ⟨T, e1, _, w1⟩ := DataW.trod_int Try.underlying3 t1
  obtain rfl := List.singleton_inj.1 e0
  obtain rfl := List.singleton_inj.1 e1
  obtain ⟨vd, l, e2, hS, hb⟩ := open_strs Try.underlying22 Try.underlying9 (by kernel_rfl) t2
  obtain rfl := List.singleton_inj.1 e2
  simp [Lit.wf, IntKind.min, IntKind.max, IntKind.bits, IntKind.signed] at w1
  simp only [maxLen] at w0 hb
  exact ⟨⟨s, T, l⟩, _, list3 hl q0 q1 q2, hS, ⟨by simp only; omega, fun p hp => by have := hb p hp; omega, by simp only; omega, by simp only; omega⟩⟩
set_option maxRecDepth 100000 in
theorem open_dep {r0 : Reach} {b0 : Nat} {v : Value} {d : DataW H} {ps : List MemPlace} (hv : Value.okWide Try.prog W r0 b0 24 v) (h : DataW.Trod enc Try.prog W base spare held 24 v d ps) :
    ∃ r : DepV, DepIs W v r ∧ FitD r := by
  obtain ⟨cs, rfl, hsz⟩ := okWide_struct Try.underlying24 hv
  obtain ⟨fuel, hf⟩ := h
  obtain ⟨r, vd, e, hs, hr⟩ := open_depc hf
  refine ⟨r, ⟨vd, ?_, hs⟩, hr⟩
  have e2 : cs.toList = [.string r.out, .int .i64 r.time, vd] := e
  rw [← Array.toArray_toList (xs := cs), e2]
theorem open_deps {cs : List Value} {x : DataW H × List MemPlace} (h : DataW.trod enc Try.prog W base spare held fuel 30 cs = some x) :
    ∃ (v : Value) (l : List DepV), cs = [v] ∧ Dz W v l ∧ ∀ r ∈ l, FitD r := by
  obtain ⟨A, len, cap, rfl, hl, hm, he⟩ := open_each Try.underlying30 h
  have hc3 : Try.prog.cellsOf 24 = 3 := by kernel_rfl
  have key : ∀ i : Nat, ∃ r : DepV, i < len → FitD r ∧ ∃ ad vd, A = some ad ∧ W.cell? (ad.add (i * 3)) = some (.string r.out) ∧ W.cell? (ad.add (i * 3 + 1)) = some (.int .i64 r.time) ∧ W.cell? (ad.add (i * 3 + 2)) = some vd ∧ Ss W vd r.deps := by
    intro i
    by_cases hi : i < len
    · obtain ⟨ad, n, e, hf⟩ := he (by omega)
      obtain ⟨cs', y, hcs, hy⟩ := hf i hi
      rw [hc3] at hcs
      obtain ⟨_, hcl, hat⟩ := World.cells?_some hcs
      obtain ⟨r, vd, e3, h1, h2⟩ := open_depc hy
      have key2 : ∀ j u, [Value.string r.out, .int .i64 r.time, vd][j]? = some u → W.cell? (ad.add (i * 3 + j)) = some u := fun j u hu => by
        rw [← e3] at hu
        have hj : j < 3 := by
          rw [← hcl]
          exact (List.getElem?_eq_some_iff.1 hu).1
        have := hat j hj
        rw [hu, Addr.add_add] at this
        exact this
      exact ⟨r, fun _ => ⟨h2, ad, vd, e, key2 0 _ rfl, key2 1 _ rfl, key2 2 _ rfl, h1⟩⟩
    · exact ⟨zdep, fun h => absurd h hi⟩
  obtain ⟨f, hf⟩ := Classical.axiomOfChoice key
  have hlen : ((List.range len).map f).length = len := by simp
  refine ⟨_, (List.range len).map f, rfl, ⟨A, cap, by rw [hlen], by rw [hlen]; exact hl, by rw [hlen]; omega, fun hp => ?_⟩, fun p hp => ?_⟩
  · rw [hlen] at hp ⊢
    obtain ⟨_, ad, _, e, _⟩ := hf 0 hp
    refine ⟨ad, e, fun i hi => ?_⟩
    obtain ⟨_, ad', vd, e', h1, h2, h3, h4⟩ := hf i hi
    rw [e] at e'
    cases e'
    rw [List.getD_eq_getElem?_getD, List.getElem?_map, List.getElem?_range hi]
    exact ⟨vd, h1, h2, h3, h4⟩
  · obtain ⟨i, hi, rfl⟩ := List.mem_map.1 hp
    exact (hf i (List.mem_range.1 hi)).1
theorem open_deps' {A : Option Addr} {len cap : Nat} {d : DataW H} {q : List MemPlace} (h : DataW.Trod enc Try.prog W base spare held 30 (.slice A len cap) d q) :
    ∃ l : List DepV, Dz W (.slice A len cap) l ∧ ∀ r ∈ l, FitD r := by
  obtain ⟨fuel, hf⟩ := h
  obtain ⟨v, l, e, h1, h2⟩ := open_deps hf
  simp [Value.cells] at e
  subst e
  exact ⟨l, h1, h2⟩
end
set_option maxRecDepth 100000 in
set_option maxHeartbeats 1600000 in
theorem all_any (v : Value) (l : List DepV) (w : World) (h : Dz w v l) (hf : ∀ r ∈ l, FitD r) :
    Calls Try.prog 16 #[v] w fun e w' => ((e = .returned (.bool true) ∧ l.length ≤ 30 ∧ ∀ r ∈ l, BriefD r) ∨ e = .returned (.bool false)) ∧ Below w.heap.size w w' := by
  obtain ⟨A, c, rfl, hc, hm⟩ := h.len
  have HL := Lib.hid h
  have HF := Lib.hid hf
  clear h hf
  by_cases g1 : l.length ≤ 30
  case neg =>
    go_enter Try.func16, Try.ntmps16
    go_wp2
    go_ret
    exact ⟨Or.inr rfl, Below.refl _ _⟩
  go_enter Try.func16, Try.ntmps16
  go_wp2
  go_loopw [3] (fun i wr => ∃ k : Nat, k ≤ l.length ∧ i = .int .i64 k ∧ Hid (∀ r ∈ l.take k, BriefD r) ∧ Hid (Below w.heap.size w wr)) (fun i _ => l.length - (intOf i).toNat)
  case atStart => exact ⟨0, by omega, rfl, fun p hp => by simp at hp, Below.refl _ _⟩
  case round =>
    obtain ⟨k, hk, rfl, HS, HB⟩ := hrel
    by_cases l1 : k < l.length
    · obtain ⟨ad, vd, e1, q0, q1, q2, hs⟩ := (HL.out.below HB.out).get k l1
      subst e1
      obtain ⟨hTK, hmem⟩ := take_at l zdep k l1
      have HTK := Lib.hid hTK
      have HFD := Lib.hid (HF.out _ hmem)
      have HSD := Lib.hid hs
      clear hTK hmem hs
      generalize l.getD k zdep = d at q0 q1 q2 HTK HFD HSD
      obtain ⟨Ad, cd, ev, _, _⟩ := ss_len HSD.out
      subst ev
      obtain ⟨nd, hnd⟩ : ∃ nd, nd = d.deps.length := ⟨_, rfl⟩
      rw [← hnd] at HSD q2
      have HDI : Hid (DepIs wr (.agg #[.string d.out, .int .i64 d.time, .slice Ad nd cd]) d) := ⟨_, rfl, HSD.out⟩
      clear hnd
      go_wp2_with fail
      refine (brief_any _ d _ HDI.out HFD.out).mono ?_
      rintro e w2 ⟨he, hb2⟩
      have HB2 := Lib.hid (HB.out.trans (hb2.mono HB.out.size))
      clear hb2 q0 q1 q2
      rcases he with ⟨rfl, hbr⟩ | rfl
      · have HBR := Lib.hid hbr
        clear hbr
        go_wp2
        go_roundw
        case rel =>
          refine ⟨k + 1, by omega, by go_num, ?_, HB2.out⟩
          intro r hr
          rw [HTK.out] at hr
          rcases List.mem_append.1 hr with h | h
          · exact HS.out r h
          · rw [List.mem_singleton.1 h]; exact HBR.out
        case measure => simp [intOf]; omega
      · go_wp2
        go_ret
        exact ⟨Or.inr rfl, HB2.out⟩
    · have hk2 : k = l.length := by omega
      have HA : Hid (∀ r ∈ l, BriefD r) := by have h := HS.out; rw [hk2, List.take_length] at h; exact h
      clear hk2
      go_wp2
      go_ret
      exact ⟨Or.inl ⟨rfl, g1, HA.out⟩, HB.out⟩
end Go.Proofs.Ytinonkakpgiblaa.Nam
