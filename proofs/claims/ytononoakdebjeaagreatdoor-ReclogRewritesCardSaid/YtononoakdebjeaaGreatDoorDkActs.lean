/- Acts on a disk: as arguments, and as they are read. -/
import Derived.Test.YtononoakdebjeaaGreatDoorDkUseAll
import Derived.Test.YtononoakdebjeaaGreatDoorArgRows
import Derived.ChangeArms
import Derived.Lib.SmallJoins
import Derived.KernelRfl
namespace Go.Proofs.YtononoakdebjeaaGreatDoor.Dk
open Go.RowKit Go.Proofs.YtononoakdebjeaaGreatDoorW.PrintWords Go.Proofs.YtononoakdebjeaaGreatDoorW.PrintLast Go.Proofs.YtononoakdebjeaaGreatDoor.Base Go.Proofs.YtononoakdebjeaaGreatDoor.Path Go.Proofs.YtononoakdebjeaaGreatDoor.Pack Go.Maps Go.ChangeShapes Go.WideShapes Go.Deep
set_option linter.unusedVariables false
set_option linter.unusedSimpArgs false
structure ActV where
  wh : Int
  n : Int
  name : ByteArray
  dst : ByteArray
  b : List Int
  tails : List Int
/-- What holds of any act that came as an argument. -/
structure FitA (a : ActV) : Prop where
  wh : -9223372036854775808 ≤ a.wh ∧ a.wh ≤ 9223372036854775807
  n : -9223372036854775808 ≤ a.n ∧ a.n ≤ 9223372036854775807
  name : a.name.size ≤ maxLen
  dst : a.dst.size ≤ maxLen
/-- An act's cells. -/
abbrev actC (a : ActV) (vb vt : Value) : List Value := [.int .i64 a.wh, .int .i64 a.n, .string a.name, .string a.dst, vb, vt]
theorem far_c {w : World} {a : Addr} {i j : Nat} {u : Value} (h : w.cell? (a.add (i + (j + 1))) = some u) : w.cell? ⟨(a.add i).block, (a.add i).off + (j + 1), none⟩ = some u := by
  rw [← Addr.add_add] at h
  have e : ∀ b : Addr, b.add (j + 1) = ⟨b.block, b.off + (j + 1), none⟩ := fun b => by unfold Addr.add; rw [if_neg (by omega)]
  rw [← e]
  exact h
/-- The cells of an act at an address. -/
structure AtA (w : World) (p : Addr) (a : ActV) (vb vt : Value) : Prop where
  q0 : w.cell? p = some (.int .i64 a.wh)
  q1 : w.cell? ⟨p.block, p.off + 1, none⟩ = some (.int .i64 a.n)
  q2 : w.cell? ⟨p.block, p.off + 2, none⟩ = some (.string a.name)
  q3 : w.cell? ⟨p.block, p.off + 3, none⟩ = some (.string a.dst)
  q4 : w.cell? ⟨p.block, p.off + 4, none⟩ = some vb
  q5 : w.cell? ⟨p.block, p.off + 5, none⟩ = some vt
theorem AtA.below {w w1 : World} {p : Addr} {a : ActV} {vb vt : Value} (h : AtA w p a vb vt) (hb : Below w.heap.size w w1) : AtA w1 p a vb vt :=
  ⟨pw_cell_below hb h.q0, pw_cell_below hb h.q1, pw_cell_below hb h.q2, pw_cell_below hb h.q3, pw_cell_below hb h.q4, pw_cell_below hb h.q5⟩
/-- v reads as the acts l. -/
def Az (w : World) (v : Value) (l : List ActV) : Prop := ∃ A c, v = .slice A l.length c ∧ l.length ≤ c ∧ l.length ≤ 9223372036854775807 ∧
  ∀ i a, l[i]? = some a → FitA a ∧ ∃ ad vb vt, A = some ad ∧ AtA w (ad.add (i * 6)) a vb vt ∧ Bs w vb a.b ∧ Ti w vt a.tails
theorem ti_blw {w w' : World} {v : Value} {l : List Int} (h : Ti w v l) (hb : Below w.heap.size w w') : Ti w' v l := by
  obtain ⟨A, c, rfl, h1, h2, h3⟩ := h
  refine ⟨A, c, rfl, h1, h2, fun hl => ?_⟩
  obtain ⟨ad, e, h4⟩ := h3 hl
  exact ⟨ad, e, fun i hi => pw_cell_below hb (h4 i hi)⟩
theorem ti_old {w : World} {v : Value} {l : List Int} (h : Ti w v l) (hl : 0 < l.length) {k : Nat} (hk : v.ownBlock = some k) : k < w.heap.size := by
  obtain ⟨A, c, rfl, h1, h2, h3⟩ := h
  obtain ⟨ad, rfl, h4⟩ := h3 hl
  have h5 := h4 0 hl
  have hk : ad.block = k := Option.some.inj hk
  have e := add_block ad 0
  by_cases hlt : k < w.heap.size
  · exact hlt
  · exfalso
    have h6 : w.heap[(ad.add 0).block]? = none := by rw [e, hk]; exact Array.getElem?_eq_none (by omega)
    unfold World.cell? at h5
    rw [h6] at h5
    cases h5
theorem Az.below {w w1 : World} {v : Value} {l : List ActV} (h : Az w v l) (hb : Below w.heap.size w w1) : Az w1 v l := by
  obtain ⟨A, c, h1, h2, h3, h4⟩ := h
  exact ⟨A, c, h1, h2, h3, fun i a ha => by
    obtain ⟨hf, ad, vb, vt, e, hc, hb1, ht⟩ := h4 i a ha
    exact ⟨hf, ad, vb, vt, e, hc.below hb, hb1.below hb, ti_blw ht hb⟩⟩
section
variable {H : Type} {enc : TypeId × Value → H} {W : World} {base fuel : Nat} {spare : Nat → Bool} {held : Bool}
set_option maxRecDepth 100000 in
theorem open_actc {cs : List Value} {x : DataW H × List MemPlace} (h : DataW.trod enc Tryz.prog W base spare held fuel 40 cs = some x) :
    ∃ (a : ActV) (vb vt : Value), cs = actC a vb vt ∧ FitA a ∧ Bs W vb a.b ∧ Ti W vt a.tails := by
  obtain ⟨xs, n, _, _, hl, hlen, hF⟩ := DataW.trod_struct Tryz.underlying40 h
  have c0 : Tryz.prog.cellsOf 40 = 6 := by kernel_rfl
  have c1 : Tryz.prog.cellsOf 3 = 1 := by kernel_rfl
  have c2 : Tryz.prog.cellsOf 9 = 1 := by kernel_rfl
  have c3 : Tryz.prog.cellsOf 23 = 1 := by kernel_rfl
  have c4 : Tryz.prog.cellsOf 24 = 1 := by kernel_rfl
  rw [c0] at hl
  match cs, hl with
  | [a, b, c, d, e, f], _ =>
    match xs, hlen with
    | [y0, y1, y2, y3, y4, y5], _ =>
      have f0 : DataW.trod enc Tryz.prog W base spare held n 3 [a] = some y0 := by have := hF 0 _ rfl; simpa [c1] using this
      have f1 : DataW.trod enc Tryz.prog W base spare held n 3 [b] = some y1 := by have := hF 1 _ rfl; simpa [c1] using this
      have f2 : DataW.trod enc Tryz.prog W base spare held n 9 [c] = some y2 := by have := hF 2 _ rfl; simpa [c2] using this
      have f3 : DataW.trod enc Tryz.prog W base spare held n 9 [d] = some y3 := by have := hF 3 _ rfl; simpa [c2] using this
      have f4 : DataW.trod enc Tryz.prog W base spare held n 23 [e] = some y4 := by have := hF 4 _ rfl; simpa [c3] using this
      have f5 : DataW.trod enc Tryz.prog W base spare held n 24 [f] = some y5 := by have := hF 5 _ rfl; simpa [c4] using this
      obtain ⟨m0, e0, _, w0⟩ := DataW.trod_int Tryz.underlying3 f0
      obtain rfl := List.singleton_inj.1 e0
      obtain ⟨m1, e1, _, w1⟩ := DataW.trod_int Tryz.underlying3 f1
      obtain rfl := List.singleton_inj.1 e1
      obtain ⟨s2, e2, _, w2⟩ := DataW.trod_string Tryz.underlying9 f2
      obtain rfl := List.singleton_inj.1 e2
      obtain ⟨s3, e3, _, w3⟩ := DataW.trod_string Tryz.underlying9 f3
      obtain rfl := List.singleton_inj.1 e3
      obtain ⟨A4, l4, k4, e4, r4, hk4, _⟩ := open_nums Tryz.underlying23 Tryz.underlying5 (by kernel_rfl) f4
      obtain rfl := List.singleton_inj.1 e4
      obtain ⟨A5, l5, k5, e5, r5, _, _⟩ := open_nums Tryz.underlying24 Tryz.underlying3 (by kernel_rfl) f5
      obtain rfl := List.singleton_inj.1 e5
      simp [Lit.wf, IntKind.min, IntKind.max, IntKind.bits, IntKind.signed] at w0 w1
      exact ⟨⟨m0, m1, s2, s3, l4, l5⟩, _, _, rfl, ⟨by simp only; omega, by simp only; omega, w2, w3⟩, ⟨A4, k4, rfl, hk4, r4⟩, A5, k5, rfl, r5⟩
set_option maxRecDepth 100000 in
theorem open_act {r0 : Reach} {b0 : Nat} {v : Value} {d : DataW H} {ps : List MemPlace} (hv : Value.okWide Tryz.prog W r0 b0 40 v) (h : DataW.Trod enc Tryz.prog W base spare held 40 v d ps) :
    ∃ (a : ActV) (vb vt : Value), v = .agg (actC a vb vt).toArray ∧ FitA a ∧ Bs W vb a.b ∧ Ti W vt a.tails := by
  obtain ⟨cs, rfl, hsz⟩ := okWide_struct Tryz.underlying40 hv
  obtain ⟨fuel, hf⟩ := h
  obtain ⟨a, vb, vt, e, hr⟩ := open_actc hf
  refine ⟨a, vb, vt, ?_, hr⟩
  have e2 : cs.toList = actC a vb vt := e
  rw [← Array.toArray_toList (xs := cs), e2]
set_option maxRecDepth 100000 in
theorem open_acts {cs : List Value} {x : DataW H × List MemPlace} (h : DataW.trod enc Tryz.prog W base spare held fuel 22 cs = some x) :
    ∃ (v : Value) (l : List ActV), cs = [v] ∧ Az W v l := by
  obtain ⟨A, len, cap, rfl, hl, hm, he⟩ := open_each Tryz.underlying22 h
  have hc6 : Tryz.prog.cellsOf 40 = 6 := by kernel_rfl
  have key : ∀ i : Nat, ∃ a : ActV, i < len → FitA a ∧ ∃ ad vb vt, A = some ad ∧ AtA W (ad.add (i * 6)) a vb vt ∧ Bs W vb a.b ∧ Ti W vt a.tails := by
    intro i
    by_cases hi : i < len
    · obtain ⟨ad, n, e, hf⟩ := he (by omega)
      obtain ⟨cs', y, hcs, hy⟩ := hf i hi
      rw [hc6] at hcs
      obtain ⟨_, hcl, hat⟩ := World.cells?_some hcs
      obtain ⟨a, vb, vt, e6, h3, h1, h2⟩ := open_actc hy
      subst e6
      have hu : ∀ j u, (actC a vb vt)[j]? = some u → W.cell? (ad.add (i * 6 + j)) = some u := fun j u hu => by
        have hj : j < 6 := by
          rw [← hcl]
          exact (List.getElem?_eq_some_iff.1 hu).1
        have := hat j hj
        rw [hu, Addr.add_add] at this
        exact this
      exact ⟨a, fun _ => ⟨h3, ad, vb, vt, e, ⟨hu 0 _ rfl, far_c (hu 1 _ rfl), far_c (hu 2 _ rfl), far_c (hu 3 _ rfl), far_c (hu 4 _ rfl), far_c (hu 5 _ rfl)⟩, h1, h2⟩⟩
    · exact ⟨⟨0, 0, noName, noName, [], []⟩, fun h => absurd h hi⟩
  obtain ⟨f, hf⟩ := Classical.axiomOfChoice key
  have hlen : ((List.range len).map f).length = len := by simp
  refine ⟨_, (List.range len).map f, rfl, A, cap, by rw [hlen], by rw [hlen]; exact hl, by rw [hlen]; omega, fun j p hj => ?_⟩
  obtain ⟨hjl, hjp⟩ := List.getElem?_eq_some_iff.1 hj
  rw [hlen] at hjl
  have hp2 : f j = p := by rw [← hjp]; simp
  have h := hf j hjl
  rw [hp2] at h
  exact h
set_option maxRecDepth 100000 in
theorem open_acts' {A : Option Addr} {len cap : Nat} {d : DataW H} {q : List MemPlace} (h : DataW.Trod enc Tryz.prog W base spare held 22 (.slice A len cap) d q) :
    ∃ l : List ActV, Az W (.slice A len cap) l := by
  obtain ⟨fuel, hf⟩ := h
  obtain ⟨v, l, e, h1⟩ := open_acts hf
  simp [Value.cells] at e
  subst e
  exact ⟨l, h1⟩
set_option maxRecDepth 100000 in
theorem open_keepC {cs : List Value} {x : DataW H × List MemPlace} (h : DataW.trod enc Tryz.prog W base spare held fuel 26 cs = some x) :
    ∃ (n : Int) (t : Value) (tails : List Int), cs = [.int .i64 n, t] ∧ (-9223372036854775808 ≤ n ∧ n ≤ 9223372036854775807) ∧ Ti W t tails := by
  obtain ⟨xs, n, _, _, hl, hlen, hF⟩ := DataW.trod_struct Tryz.underlying26 h
  have c0 : Tryz.prog.cellsOf 26 = 2 := by kernel_rfl
  have c1 : Tryz.prog.cellsOf 3 = 1 := by kernel_rfl
  have c2 : Tryz.prog.cellsOf 24 = 1 := by kernel_rfl
  rw [c0] at hl
  match cs, hl with
  | [a, b], _ =>
    match xs, hlen with
    | [y0, y1], _ =>
      have f0 : DataW.trod enc Tryz.prog W base spare held n 3 [a] = some y0 := by have := hF 0 _ rfl; simpa [c1] using this
      have f1 : DataW.trod enc Tryz.prog W base spare held n 24 [b] = some y1 := by have := hF 1 _ rfl; simpa [c2] using this
      obtain ⟨m, e0, _, w0⟩ := DataW.trod_int Tryz.underlying3 f0
      obtain rfl := List.singleton_inj.1 e0
      obtain ⟨A, l, c, e1, r1, _, _⟩ := open_nums Tryz.underlying24 Tryz.underlying3 (by kernel_rfl) f1
      obtain rfl := List.singleton_inj.1 e1
      exact ⟨m, _, l, rfl, by simp [Lit.wf, IntKind.min, IntKind.max, IntKind.bits, IntKind.signed] at w0; omega, A, c, rfl, r1⟩
set_option maxRecDepth 100000 in
theorem open_keep {r0 : Reach} {b0 : Nat} {v : Value} {d : DataW H} {ps : List MemPlace} (hv : Value.okWide Tryz.prog W r0 b0 26 v) (h : DataW.Trod enc Tryz.prog W base spare held 26 v d ps) :
    ∃ (n : Int) (t : Value) (tails : List Int), v = .agg #[.int .i64 n, t] ∧ (-9223372036854775808 ≤ n ∧ n ≤ 9223372036854775807) ∧ Ti W t tails := by
  obtain ⟨cs, rfl, hsz⟩ := okWide_struct Tryz.underlying26 hv
  obtain ⟨fuel, hf⟩ := h
  obtain ⟨n, t, tails, e, hr⟩ := open_keepC hf
  refine ⟨n, t, tails, ?_, hr⟩
  have e2 : cs.toList = [.int .i64 n, t] := e
  rw [← Array.toArray_toList (xs := cs), e2]
end
end Go.Proofs.YtononoakdebjeaaGreatDoor.Dk
