/- Runs as they are read and made. -/
import Derived.Test.YtehndlafbbpofaaRecs
import Derived.Test.YtehndlafbbpofaaPackPure
namespace Go.Proofs.Ytehndlafbbpofaa.Run
open Go.RowKit Go.Proofs.YtehndlafbbpofaaW.PrintWords Go.Proofs.Ytehndlafbbpofaa.Base Go.Proofs.Ytehndlafbbpofaa.Pack
set_option linter.unusedVariables false
set_option linter.unusedSimpArgs false

/-- A run. -/
structure RunV where
  out : ByteArray
  cmd : ByteArray
  time : Int
  mark : Int
  ins : List (ByteArray × Int)
  found : List Int
/-- An input: its name and its time. -/
def kin : Kd (ByteArray × Int) := Kd.pair Kd.string (Kd.int .i64)
/-- v reads as the inputs l. -/
def Is (w : World) (v : Value) (l : List (ByteArray × Int)) : Prop := ∃ A c, v = .slice A l.length c ∧ l.length ≤ c ∧ l.length ≤ 9223372036854775807 ∧ (0 < l.length → ∃ ad, A = some ad ∧ ∀ i, i < l.length → w.cell? (ad.add (i * 2)) = some (.string (l.getD i (ByteArray.empty, 0)).1) ∧ w.cell? (ad.add (i * 2 + 1)) = some (.int .i64 (l.getD i (ByteArray.empty, 0)).2))
/-- v reads as the numbers l. -/
def Fs (w : World) (v : Value) (l : List Int) : Prop := ∃ A c, v = .slice A l.length c ∧ l.length ≤ c ∧ ReadsInt w .i64 A l.length l
theorem Is.below {w w1 : World} {v : Value} {l : List (ByteArray × Int)} (h : Is w v l) (hb : Below w.heap.size w w1) : Is w1 v l := by
  obtain ⟨A, c, h1, h2, h3, h4⟩ := h
  exact ⟨A, c, h1, h2, h3, fun hp => by
    obtain ⟨ad, e, hc⟩ := h4 hp
    exact ⟨ad, e, fun i hi => ⟨pw_cell_below hb (hc i hi).1, pw_cell_below hb (hc i hi).2⟩⟩⟩
theorem Fs.below {w w1 : World} {v : Value} {l : List Int} (h : Fs w v l) (hb : Below w.heap.size w w1) : Fs w1 v l := by
  obtain ⟨A, c, h1, h2, h3⟩ := h
  exact ⟨A, c, h1, h2, h3.below hb⟩
theorem Is.len {w : World} {v : Value} {l : List (ByteArray × Int)} (h : Is w v l) : ∃ A c, v = .slice A l.length c ∧ l.length ≤ c ∧ l.length ≤ 9223372036854775807 := by
  obtain ⟨A, c, h1, h2, h3, h4⟩ := h
  exact ⟨A, c, h1, h2, h3⟩
theorem Fs.len {w : World} {v : Value} {l : List Int} (h : Fs w v l) : ∃ A c, v = .slice A l.length c ∧ l.length ≤ c ∧ l.length ≤ 9223372036854775807 := by
  obtain ⟨A, c, h1, h2, h3⟩ := h
  exact ⟨A, c, h1, h2, h3.2.1⟩
/-- An element that is read. -/
theorem Is.get {w : World} {A : Option Addr} {n c : Nat} {l : List (ByteArray × Int)} (h : Is w (.slice A n c) l) (i : Nat) (hi : i < l.length) :
    ∃ ad, A = some ad ∧ w.cell? (ad.add (i * 2)) = some (.string (l.getD i (ByteArray.empty, 0)).1) ∧ w.cell? (ad.add (i * 2 + 1)) = some (.int .i64 (l.getD i (ByteArray.empty, 0)).2) := by
  obtain ⟨A', c', h1, h2, h3, h4⟩ := h
  cases h1
  obtain ⟨ad, e, hc⟩ := h4 (by omega)
  exact ⟨ad, e, hc i hi⟩
/-- A run's value. -/
def RunIs (w : World) (v : Value) (r : RunV) : Prop := ∃ vi vf, v = .agg #[.string r.out, .string r.cmd, .int .i64 r.time, .int .i64 r.mark, vi, vf] ∧ Is w vi r.ins ∧ Fs w vf r.found
theorem RunIs.below {w w1 : World} {v : Value} {r : RunV} (h : RunIs w v r) (hb : Below w.heap.size w w1) : RunIs w1 v r := by
  obtain ⟨vi, vf, h1, h2, h3⟩ := h
  exact ⟨vi, vf, h1, h2.below hb, h3.below hb⟩
/-- Its parts are few and short. -/
structure LightR (r : RunV) : Prop where
  out : r.out.size ≤ 5000
  cmd : r.cmd.size ≤ 5000
  ins : r.ins.length ≤ 500
  found : r.found.length ≤ 700
  names : ∀ p ∈ r.ins, p.1.size ≤ 5000

set_option maxRecDepth 100000 in
set_option maxHeartbeats 1600000 in
theorem light_any (v : Value) (r : RunV) (w : World) (h : RunIs w v r) (ho : r.out.size ≤ 9223372036854775807) (hc : r.cmd.size ≤ 9223372036854775807) (hn : ∀ p ∈ r.ins, p.1.size ≤ 9223372036854775807) :
    Calls Try.prog 13 #[v] w fun e w' => ((e = .returned (.bool true) ∧ LightR r) ∨ e = .returned (.bool false)) ∧ Below w.heap.size w w' := by
  obtain ⟨vi, vf, rfl, hi, hf⟩ := h
  obtain ⟨AI, cI, rfl, hcI, hmI⟩ := hi.len
  obtain ⟨AF, cF, rfl, hcF, hmF⟩ := hf.len
  have HI := Lib.hid hi
  have HN := Lib.hid hn
  obtain ⟨out, cmd, time, mark, ins, found⟩ := r
  simp only at ho hc hcI hmI hcF hmF HI HN
  clear hi hf hn
  by_cases g1 : out.size ≤ 5000
  · by_cases g2 : cmd.size ≤ 5000
    · by_cases g3 : ins.length ≤ 500
      · by_cases g4 : found.length ≤ 600
        · have HB0 := Lib.hid (below_alloc (Below.refl w.heap.size w) (.cells #[.string out, .string cmd, .int .i64 time, .int .i64 mark, .slice AI ins.length cI, .slice AF found.length cF] 25))
          go_enter Try.func13, Try.ntmps13
          go_wp2
          go_loop [3] (fun i => ∃ k : Nat, k ≤ ins.length ∧ i = .int .i64 k ∧ Hid (∀ p ∈ ins.take k, p.1.size ≤ 5000)) (fun i => ins.length - (intOf i).toNat)
          case atStart => exact ⟨0, by omega, rfl, fun p hp => by simp at hp⟩
          case round =>
            obtain ⟨k, hk, rfl, HS⟩ := hrel
            by_cases l1 : k < ins.length
            · obtain ⟨ad, e1, q1, _⟩ := HI.out.get k l1
              cases e1
              have q2 := pw_cell_below HB0.out q1
              have hin : ins.take (k + 1) = ins.take k ++ [ins.getD k (ByteArray.empty, 0)] := by
                rw [List.take_add_one, List.getElem?_eq_getElem l1, List.getD_eq_getElem?_getD, List.getElem?_eq_getElem l1]; rfl
              have hpn : (ins.getD k (ByteArray.empty, 0)).1.size ≤ 9223372036854775807 := by
                rw [List.getD_eq_getElem?_getD, List.getElem?_eq_getElem l1]
                exact HN.out _ (List.getElem_mem l1)
              have HIN := Lib.hid hin
              clear hin q1
              generalize ins.getD k (ByteArray.empty, 0) = pk at q2 HIN hpn
              obtain ⟨nm, tm⟩ := pk
              simp only at q2 hpn
              by_cases l2 : nm.size ≤ 5000
              · go_wp2
                go_round
                case rel =>
                  refine ⟨k + 1, by omega, by go_num, ?_⟩
                  intro p hp
                  rw [HIN.out] at hp
                  rcases List.mem_append.1 hp with hp | hp
                  · exact HS.out p hp
                  · rw [List.mem_singleton.1 hp]; exact l2
                case measure => simp [intOf]; omega
              · go_wp2
                go_ret
                exact ⟨Or.inr rfl, HB0.out⟩
            · have hk2 : k = ins.length := by omega
              have HL : Hid (LightR ⟨out, cmd, time, mark, ins, found⟩) := ⟨g1, g2, g3, Nat.le_trans g4 (by decide), by have := HS.out; rw [hk2, List.take_length] at this; exact this⟩
              clear hk2
              go_wp2
              go_ret
              exact ⟨Or.inl ⟨rfl, HL.out⟩, HB0.out⟩
        · skip
          go_enter Try.func13, Try.ntmps13
          go_wp2
          go_ret
          exact ⟨Or.inr rfl, below_alloc (Below.refl _ _) _⟩
      · skip
        go_enter Try.func13, Try.ntmps13
        go_wp2
        go_ret
        exact ⟨Or.inr rfl, below_alloc (Below.refl _ _) _⟩
    · skip
      go_enter Try.func13, Try.ntmps13
      go_wp2
      go_ret
      exact ⟨Or.inr rfl, below_alloc (Below.refl _ _) _⟩
  · skip
    go_enter Try.func13, Try.ntmps13
    go_wp2
    go_ret
    exact ⟨Or.inr rfl, below_alloc (Below.refl _ _) _⟩
end Go.Proofs.Ytehndlafbbpofaa.Run
