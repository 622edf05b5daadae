/- Rows of records: slices of slices of bytes, read and made. -/
import Derived.Test.YtononoakdebjeaaGreatDoorBase
namespace Go.Proofs.YtononoakdebjeaaGreatDoor.Base
open Go.RowKit Go.Proofs.YtononoakdebjeaaGreatDoorW.PrintWords
set_option linter.unusedVariables false
set_option linter.unusedSimpArgs false

/-- v reads as the records rs. -/
def Rs (w : World) (v : Value) (rs : List (List Int)) : Prop := ∃ A c, v = .slice A rs.length c ∧ rs.length ≤ c ∧ rs.length ≤ 9223372036854775807 ∧ (0 < rs.length → ∃ ad, A = some ad ∧ ∀ i, i < rs.length → ∃ u, w.cell? (ad.add i) = some u ∧ Bs w u (rs.getD i []))
theorem Rs.below {w w1 : World} {v : Value} {rs : List (List Int)} (h : Rs w v rs) (hb : Below w.heap.size w w1) : Rs w1 v rs := by
  obtain ⟨A, c, h1, h2, h3, h4⟩ := h
  exact ⟨A, c, h1, h2, h3, fun hp => by
    obtain ⟨ad, e, hc⟩ := h4 hp
    exact ⟨ad, e, fun i hi => by
      obtain ⟨u, hu, hbs⟩ := hc i hi
      exact ⟨u, pw_cell_below hb hu, hbs.below hb⟩⟩⟩
theorem Rs.nil (w : World) : Rs w (.slice none 0 0) [] := ⟨none, 0, rfl, by simp, by simp, fun h => absurd h (Nat.lt_irrefl 0)⟩

/-- The kind of a record. -/
def kr : Kd (List Int) := Kd.slice 5 (Kd.int .u8)
theorem kd_int_R {w : World} {base : Nat} {ok : Nat → Prop} {v : Value} {xs : List Int} (h : w.ownsRow base 5 1 v xs.length (nums .u8 xs)) (hok : ∀ k, v.ownBlock = some k → ok k) : (Kd.int .u8).R 5 w base ok v xs :=
  Kd.R_of_own (enc := Value.int .u8) (h1 := fun _ => rfl) h hok
theorem info_bs : (Tryz.prog.info? 23).map (fun i => (i.zero, i.size, i.bytes)) = some (some (.slice none 0 0), 1, 24) := by kernel_rfl

/-- Since w0 the row of records has been made. -/
structure Recs (w0 w : World) (v : Value) (rs : List (List Int)) : Prop where
  row : kr.R 23 w w0.heap.size (fun _ => True) v rs
  below : Below w0.heap.size w0 w
theorem Recs.nil {w0 w : World} (h : Below w0.heap.size w0 w) : Recs w0 w (.slice none 0 0) [] := ⟨Kd.R_nil _ _ _ _ _, h⟩
theorem Recs.step {w0 w w1 : World} {v : Value} {rs : List (List Int)} (h : Recs w0 w v rs) (hb : Below w.heap.size w w1) : Recs w0 w1 v rs :=
  ⟨Kd.R_below h.row hb, h.below.trans (hb.mono h.below.size)⟩
theorem Recs.rs {w0 w : World} {v : Value} {rs : List (List Int)} (h : Recs w0 w v rs) : Rs w v rs := by
  obtain ⟨A, c, rfl, hc, hr⟩ := Kd.R_reads h.row
  refine ⟨A, c, rfl, hc, hr.2.1, fun hp => ?_⟩
  obtain ⟨ad, e, hcell⟩ := hr.2.2 hp
  refine ⟨ad, e, fun i hi => ?_⟩
  obtain ⟨cs, _, hk, hcs⟩ := hcell i _ (List.getElem?_eq_getElem hi)
  obtain ⟨A', c', rfl, hc', hC⟩ := hk
  refine ⟨_, by have := hcs 0 _ rfl; rwa [show i * kr.sz + 0 = i from by show i * 1 + 0 = i; omega] at this, ?_⟩
  rw [List.getD_eq_getElem?_getD, List.getElem?_eq_getElem hi]
  exact ⟨A', c', rfl, hc', Kd.reads_of_C (enc := Value.int .u8) (d := (0 : Int)) (h1 := fun _ => rfl) hC⟩
theorem Recs.slice {w0 w : World} {v : Value} {rs : List (List Int)} (h : Recs w0 w v rs) : ∃ A n c, v = .slice A n c ∧ n = rs.length := by
  obtain ⟨A, c, h, _⟩ := Kd.R_reads h.row
  exact ⟨A, _, c, h, rfl⟩

section
variable {ops : Array Oper} {rest : List Oper} {o : Oper} {a : Act} {Q : Exit → Act → World → Prop}
theorem app_rec {w0 W : World} (hgd : o.guard = none) (s x : Operand) (t : TypeId)
    (ho : o.op = .call { callee := .builtin .append, args := #[s, x], argTypes := #[t, t] })
    (ht : Tryz.prog.underlying t = some (.slice 23))
    (v u : Value) (rs : List (List Int)) (p : List Int) (hs : a.eval s = v) (hx : a.eval x = .slice (some ⟨W.heap.size, 0, none⟩) 1 1)
    (HO : Recs w0 W v rs) (HP : Ow w0 W u p) (hl : rs.length + 1 ≤ 5000000000)
    (h : ∀ v1 w1, Recs w0 w1 v1 (rs ++ [p]) → W.grownBy w1 v.ownBlock → wpList Tryz.prog ops Q rest (a.put o.dst v1) w1) :
    Held (wpList Tryz.prog ops Q (o :: rest) a (W.alloc (.cells #[u] 23))) := by
  have hne : ∀ k, u.ownBlock = some k → some k ≠ v.ownBlock := by
    intro k hk he
    obtain ⟨inner, hov⟩ := Kd.R_own HO.row
    rcases own_type_ne HP.own hov (by decide) with h0 | h0
    · rw [h0] at hk; cases hk
    · exact h0 (hk.trans he)
  refine Held.out (Kd.R_append (P := Tryz.prog) kr w0.heap.size hgd s x t 23 (.slice none 0 0) 24 ho ht info_bs rfl (by decide) (by decide) v rs p [u] (fun _ => True) (fun k => some k ≠ v.ownBlock) hs hx ⟨u, rfl, kd_int_R HP.own hne⟩ (fun k hk => ⟨trivial, hk⟩) (fun _ _ => trivial) HO.row HO.below HO.below.size (by omega) ?_)
  intro v1 w1 h1 h2 h3 _
  exact h v1 w1 ⟨h1, h2⟩ h3
end
end Go.Proofs.YtononoakdebjeaaGreatDoor.Base
