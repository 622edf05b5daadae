/- Rows of runs: read, owned, opened; the statement's 'all'. -/
import Derived.Test.YtehndlafbbpofaaRunOpen
import Derived.Test.YtehndlafbbpofaaRunOf
namespace Go.Proofs.Ytehndlafbbpofaa.Run
open Go.RowKit Go.Proofs.YtehndlafbbpofaaW.PrintWords Go.Proofs.Ytehndlafbbpofaa.Base Go.Proofs.Ytehndlafbbpofaa.Pack Go.ChangeShapes Go.WideShapes Go.Deep
set_option linter.unusedVariables false
set_option linter.unusedSimpArgs false

/-- A run in a row: its own rows are read in an elder world W0. -/
def krun (W0 : World) : Kd RunV where
  sz := 6
  E := []
  K := fun _ x cs => ∃ vi vf, cs = [.string x.out, .string x.cmd, .int .i64 x.time, .int .i64 x.mark, vi, vf] ∧ Is W0 vi x.ins ∧ Fs W0 vf x.found
  M := fun _ _ _ x cs => ∃ vi vf, cs = [.string x.out, .string x.cmd, .int .i64 x.time, .int .i64 x.mark, vi, vf] ∧ Is W0 vi x.ins ∧ Fs W0 vf x.found
  K_len := by
    rintro w x cs ⟨vi, vf, rfl, _, _⟩
    rfl
  K_one := by
    rintro w x cs ⟨vi, vf, rfl, h1, h2⟩ u hu
    obtain ⟨A, c, rfl, _, _⟩ := h1.len
    obtain ⟨A, c, rfl, _, _⟩ := h2.len
    simp only [List.mem_cons, List.not_mem_nil, or_false] at hu
    rcases hu with rfl | rfl | rfl | rfl | rfl | rfl <;> rfl
  K_below := fun _ h => h
  K_of_M := fun h => h
  M_mono := fun _ h => h
  M_bound := fun h => h
  M_move := fun _ h => h
  M_lower := fun _ h => h
/-- v reads as the runs l, whose rows are read in W0. -/
def Rz (W0 w : World) (v : Value) (l : List RunV) : Prop := ∃ A c, v = .slice A l.length c ∧ l.length ≤ c ∧ (krun W0).C w A l.length l
theorem Rz.below {W0 w w1 : World} {v : Value} {l : List RunV} (h : Rz W0 w v l) (hb : Below w.heap.size w w1) : Rz W0 w1 v l := by
  obtain ⟨A, c, h1, h2, h3⟩ := h
  exact ⟨A, c, h1, h2, Kd.C_below h3 hb⟩
theorem Rz.len {W0 w : World} {v : Value} {l : List RunV} (h : Rz W0 w v l) : ∃ A c, v = .slice A l.length c ∧ l.length ≤ c ∧ l.length ≤ 9223372036854775807 := by
  obtain ⟨A, c, h1, h2, h3⟩ := h
  exact ⟨A, c, h1, h2, h3.2.1⟩
def zv : RunV := ⟨⟨#[]⟩, ⟨#[]⟩, 0, 0, [], []⟩
/-- The six cells of the run at ad. -/
structure At6 (w : World) (ad : Addr) (r : RunV) (vi vf : Value) : Prop where
  c0 : w.cell? ad = some (.string r.out)
  c1 : w.cell? ⟨ad.block, ad.off + 1, none⟩ = some (.string r.cmd)
  c2 : w.cell? ⟨ad.block, ad.off + 2, none⟩ = some (.int .i64 r.time)
  c3 : w.cell? ⟨ad.block, ad.off + 3, none⟩ = some (.int .i64 r.mark)
  c4 : w.cell? ⟨ad.block, ad.off + 4, none⟩ = some vi
  c5 : w.cell? ⟨ad.block, ad.off + 5, none⟩ = some vf
theorem far_cell {w : World} {a : Addr} {i j : Nat} {u : Value} (h : w.cell? (a.add (i + (j + 1))) = some u) : w.cell? ⟨(a.add i).block, (a.add i).off + (j + 1), none⟩ = some u := by
  rw [← add_more] at h
  exact h
theorem c_at6 {W0 w : World} {A : Option Addr} {n : Nat} {l : List RunV} (h : (krun W0).C w A n l) (i : Nat) (hi : i < l.length) :
    ∃ ad vi vf, A = some ad ∧ At6 w (ad.add (i * 6)) (l.getD i zv) vi vf ∧ Is W0 vi (l.getD i zv).ins ∧ Fs W0 vf (l.getD i zv).found := by
  have hn := h.1
  obtain ⟨ad, e, hc⟩ := h.2.2 (by omega)
  obtain ⟨c, _, ⟨vi, vf, rfl, h1, h2⟩, hu⟩ := hc i _ (List.getElem?_eq_getElem hi)
  have e2 : l.getD i zv = l[i] := by rw [List.getD_eq_getElem?_getD, List.getElem?_eq_getElem hi]; rfl
  rw [e2]
  exact ⟨ad, vi, vf, e, ⟨hu 0 _ rfl, far_cell (hu 1 _ rfl), far_cell (hu 2 _ rfl), far_cell (hu 3 _ rfl), far_cell (hu 4 _ rfl), far_cell (hu 5 _ rfl)⟩, h1, h2⟩
theorem At6.below {w w1 : World} {ad : Addr} {r : RunV} {vi vf : Value} (h : At6 w ad r vi vf) (hb : Below w.heap.size w w1) : At6 w1 ad r vi vf :=
  ⟨pw_cell_below hb h.c0, pw_cell_below hb h.c1, pw_cell_below hb h.c2, pw_cell_below hb h.c3, pw_cell_below hb h.c4, pw_cell_below hb h.c5⟩

section
variable {H : Type} {enc : TypeId × Value → H} {W : World} {base fuel : Nat} {spare : Nat → Bool} {held : Bool}
theorem open_runs {cs : List Value} {x : DataW H × List MemPlace} (h : DataW.trod enc Try.prog W base spare held fuel 52 cs = some x) :
    ∃ (v : Value) (l : List RunV), cs = [v] ∧ Rz W W v l ∧ ∀ r ∈ l, FitR r := by
  obtain ⟨A, len, cap, rfl, hl, hm, he⟩ := open_each Try.underlying52 h
  have hc6 : Try.prog.cellsOf 25 = 6 := by kernel_rfl
  have key : ∀ i : Nat, ∃ r : RunV, i < len → FitR r ∧ ∃ ad vi vf, A = some ad ∧ (∀ j u, [Value.string r.out, .string r.cmd, .int .i64 r.time, .int .i64 r.mark, vi, vf][j]? = some u → W.cell? (ad.add (i * 6 + j)) = some u) ∧ Is W vi r.ins ∧ Fs W vf r.found := by
    intro i
    by_cases hi : i < len
    · obtain ⟨ad, n, e, hf⟩ := he (by omega)
      obtain ⟨cs', y, hcs, hy⟩ := hf i hi
      rw [hc6] at hcs
      obtain ⟨_, hcl, hat⟩ := World.cells?_some hcs
      obtain ⟨r, vi, vf, e6, h1, h2, h3⟩ := open_runc hy
      refine ⟨r, fun _ => ⟨h3, ad, vi, vf, e, fun j u hu => ?_, h1, h2⟩⟩
      rw [← e6] at hu
      have hj : j < 6 := by
        rw [← hcl]
        exact (List.getElem?_eq_some_iff.1 hu).1
      have := hat j hj
      rw [hu, add_more] at this
      exact this
    · exact ⟨zv, fun h => absurd h hi⟩
  obtain ⟨f, hf⟩ := Classical.axiomOfChoice key
  have hlen : ((List.range len).map f).length = len := by simp
  refine ⟨_, (List.range len).map f, rfl, ⟨A, cap, by rw [hlen], by rw [hlen]; exact hl, rfl, by rw [hlen]; omega, fun hp => ?_⟩, fun p hp => ?_⟩
  · rw [hlen] at hp
    obtain ⟨_, ad, _, _, e, _⟩ := hf 0 hp
    refine ⟨ad, e, fun j p hj => ?_⟩
    obtain ⟨hjl, hjp⟩ := List.getElem?_eq_some_iff.1 hj
    rw [hlen] at hjl
    obtain ⟨_, ad', vi, vf, e', hu, h1, h2⟩ := hf j hjl
    rw [e] at e'
    cases e'
    have hp2 : f j = p := by rw [← hjp]; simp
    rw [hp2] at hu h1 h2
    exact ⟨_, rfl, ⟨vi, vf, rfl, h1, h2⟩, hu⟩
  · obtain ⟨i, hi, rfl⟩ := List.mem_map.1 hp
    exact (hf i (List.mem_range.1 hi)).1
theorem open_runs' {A : Option Addr} {len cap : Nat} {d : DataW H} {q : List MemPlace} (h : DataW.Trod enc Try.prog W base spare held 52 (.slice A len cap) d q) :
    ∃ l : List RunV, Rz W W (.slice A len cap) l ∧ ∀ r ∈ l, FitR r := by
  obtain ⟨fuel, hf⟩ := h
  obtain ⟨v, l, e, h1, h2⟩ := open_runs hf
  simp [Value.cells] at e
  subst e
  exact ⟨l, h1, h2⟩
end

set_option maxRecDepth 100000 in
set_option maxHeartbeats 1600000 in
theorem all_any (v : Value) (l : List RunV) (w : World) (h : Rz w w v l) (hf : ∀ r ∈ l, FitR r) :
    Calls Try.prog 22 #[v] w fun e w' => ((e = .returned (.bool true) ∧ l.length ≤ 60 ∧ ∀ r ∈ l, LightR r) ∨ e = .returned (.bool false)) ∧ Below w.heap.size w w' := by
  obtain ⟨A, c, rfl, hc, hC⟩ := h
  have hm := hC.2.1
  have HC := Lib.hid hC
  have HF := Lib.hid hf
  clear hC hf
  by_cases g1 : l.length ≤ 60
  · go_enter Try.func22, Try.ntmps22
    go_wp2
    go_loopw [3] (fun i wr => ∃ k : Nat, k ≤ l.length ∧ i = .int .i64 k ∧ Hid (∀ r ∈ l.take k, LightR r) ∧ Hid (Below w.heap.size w wr)) (fun i _ => l.length - (intOf i).toNat)
    case atStart => exact ⟨0, by omega, rfl, fun p hp => by simp at hp, Below.refl _ _⟩
    case round =>
      obtain ⟨k, hk, rfl, HS, HB⟩ := hrel
      by_cases l1 : k < l.length
      · obtain ⟨ad, vi, vf, e1, a6, h1, h2⟩ := c_at6 HC.out k l1
        cases e1
        have hin : l.take (k + 1) = l.take k ++ [l.getD k zv] := by
          rw [List.take_add_one, List.getElem?_eq_getElem l1, List.getD_eq_getElem?_getD, List.getElem?_eq_getElem l1]; rfl
        have hfk : FitR (l.getD k zv) := HF.out _ (by rw [List.getD_eq_getElem?_getD, List.getElem?_eq_getElem l1]; exact List.getElem_mem l1)
        have HIN := Lib.hid hin
        have HFK := Lib.hid hfk
        have a7 := a6.below HB.out
        have HI1 := Lib.hid (h1.below HB.out)
        have HF1 := Lib.hid (h2.below HB.out)
        clear hin hfk a6 h1 h2
        generalize l.getD k zv = r at a7 HIN HFK HI1 HF1
        obtain ⟨A5, c5, rfl, _, _⟩ := HI1.out.len
        obtain ⟨A6, c6, rfl, _, _⟩ := HF1.out.len
        obtain ⟨ri, hri⟩ : ∃ ri, ri = r.ins.length := ⟨_, rfl⟩
        obtain ⟨rf, hrf⟩ : ∃ rf, rf = r.found.length := ⟨_, rfl⟩
        rw [← hri] at a7 HI1
        rw [← hrf] at a7 HF1
        clear hri hrf
        obtain ⟨q0, q1, q2, q3, q4, q5⟩ := a7
        go_wp2_with fail
        refine (light_any _ r _ ⟨_, _, rfl, HI1.out, HF1.out⟩ HFK.out.out HFK.out.cmd HFK.out.names).mono ?_
        rintro e w1 ⟨he, hb1⟩
        have HB1 := Lib.hid (HB.out.trans (hb1.mono HB.out.size))
        clear hb1 q0 q1 q2 q3 q4 q5
        rcases he with ⟨rfl, hL⟩ | rfl
        · have HL := Lib.hid hL
          clear hL
          go_wp2
          go_roundw
          case rel =>
            refine ⟨k + 1, by omega, by go_num, ?_, HB1.out⟩
            intro p hp
            rw [HIN.out] at hp
            rcases List.mem_append.1 hp with hp | hp
            · exact HS.out p hp
            · rw [List.mem_singleton.1 hp]; exact HL.out
          case measure => simp [intOf]; omega
        · go_wp2
          go_ret
          exact ⟨Or.inr rfl, HB1.out⟩
      · have hk2 : k = l.length := by omega
        have HL : Hid (∀ r ∈ l, LightR r) := by have := HS.out; rw [hk2, List.take_length] at this; exact this
        clear hk2
        go_wp2
        go_ret
        exact ⟨Or.inl ⟨rfl, g1, HL.out⟩, HB.out⟩
  · skip
    go_enter Try.func22, Try.ntmps22
    go_wp2
    go_ret
    exact ⟨Or.inr rfl, Below.refl _ _⟩
end Go.Proofs.Ytehndlafbbpofaa.Run
