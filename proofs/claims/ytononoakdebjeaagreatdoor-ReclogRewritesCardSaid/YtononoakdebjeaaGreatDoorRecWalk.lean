/- The contracts of package reclog's frames, and of the reference's (walks). -/
import Derived.Test.YtononoakdebjeaaGreatDoorRecPure
import Derived.Test.YtononoakdebjeaaGreatDoorRecs
import Derived.Test.YtononoakdebjeaaGreatDoorCrcAll
import Derived.Test.YtononoakdebjeaaGreatDoorPackAll
import Derived.ArgAppend
namespace Go.Proofs.YtononoakdebjeaaGreatDoor.Rec
open Go.RowKit Go.Proofs.YtononoakdebjeaaGreatDoorW.PrintWords Go.Proofs.YtononoakdebjeaaGreatDoor.Base Go.Proofs.YtononoakdebjeaaGreatDoor.Pack
set_option linter.unusedVariables false
set_option linter.unusedSimpArgs false

set_option maxHeartbeats 800000 in
theorem frame_any (v : Value) (xs : List Int) (w : World) (hv : Bs w v xs) (hb : Bytes xs) (h : xs.length ≤ 4096) :
    Calls Tryz.prog 57 #[v] w fun e w' => ∃ v', e = .returned (.tuple #[v', .int .i64 0]) ∧ Ow w w' v' (frameBytes xs) := by
  obtain ⟨A, c, rfl, hc, hm⟩ := hv.len
  have HV := Lib.hid hv
  have hs := sumOf_range xs hb
  clear hv hb
  go_enter Tryz.func57, Tryz.ntmps57
  go_wp2_with fail
  refine (u32_any _ [] _ _ (Bs.nil _) (by simp) (by omega) (by omega)).mono ?_
  rintro e w1 ⟨v1, rfl, o1⟩
  rw [List.nil_append] at o1
  have O1 := Lib.hid o1
  clear o1
  go_wp2_with fail
  refine (Crc.sum_any _ _ _ (HV.out.below O1.out.below)).mono ?_
  rintro e w' ⟨rfl, rfl⟩
  go_wp2_with fail
  refine (u32_any _ _ _ _ O1.out.bs (by rw [leBytes_length]; omega) hs.1 hs.2).mono ?_
  rintro e w2 ⟨v2, rfl, o2⟩
  have O2 := Lib.hid (o2.lower O1.out.below)
  clear o2
  go_wp2_with (at_builtin; refine Held.of ?_)
  refine app_bytes rfl (.tmp 15) (.tmp 16) 23 rfl Tryz.underlying23 _ _ _ xs rfl rfl O2.out (HV.out.below O2.out.below) (by rw [List.length_append, leBytes_length, leBytes_length]; omega) ?_
  intro va w3 o3 _
  have O3 : Hid (Ow w w3 va (frameBytes xs)) := o3
  clear o3
  go_wp2
  go_ret2
  exact ⟨_, rfl, O3.out⟩
theorem frame_long (v : Value) (xs : List Int) (w : World) (hv : Bs w v xs) (h : 4096 < xs.length) :
    Calls Tryz.prog 57 #[v] w fun e w' => e = .returned (.tuple #[.slice none 0 0, .int .i64 3]) ∧ w = w' := by
  obtain ⟨A, c, rfl, hc, hm⟩ := hv.len
  clear hv
  go_enter Tryz.func57, Tryz.ntmps57
  go_wp2
  go_ret2
  exact ⟨rfl, rfl⟩

section
variable {ops : Array Oper} {rest : List Oper} {o : Oper} {a : Act} {Q : Exit → Act → World → Prop}
/-- append onto a full slice that is read: a new row. -/
theorem app_full {w0 W : World} (hgd : o.guard = none) (s x : Operand) (t : TypeId)
    (ho : o.op = .call { callee := .builtin .append, args := #[s, x], argTypes := #[t, t] })
    (ht : Tryz.prog.underlying t = some (.slice 5))
    (A1 A2 : Option Addr) (c2 : Nat) (xs ys : List Int) (hs : a.eval s = .slice A1 xs.length xs.length) (hx : a.eval x = .slice A2 ys.length c2)
    (h1 : ReadsInt W .u8 A1 xs.length xs) (h2 : ReadsInt W .u8 A2 ys.length ys) (hp : 0 < ys.length) (hq : 0 < xs.length) (hb : Below w0.heap.size w0 W) (hl : xs.length + ys.length ≤ 140737488355328)
    (h : ∀ v1 w1, Ow w0 w1 v1 (xs ++ ys) → Below W.heap.size W w1 → wpList Tryz.prog ops Q rest (a.put o.dst v1) w1) :
    Held (wpList Tryz.prog ops Q (o :: rest) a W) := by
  obtain ⟨i0, hi, hzz⟩ := Option.map_eq_some_iff.1 info_u8
  simp only [Prod.mk.injEq] at hzz
  obtain ⟨hz0, hz1, hz2⟩ := hzz
  obtain ⟨a1, rfl, hc1⟩ := h1.2.2 hq
  obtain ⟨a2, rfl, hc2⟩ := h2.2.2 hp
  have cell : ∀ (zs : List Int) (ad : Addr), (∀ i, i < zs.length → W.cell? (ad.add i) = some (.int .u8 (zs.getD i 0))) → ∀ j u, (nums .u8 zs)[j]? = some u → W.cell? (ad.add j) = some u := by
    intro zs ad hc j u hu
    have hj : j < zs.length := by
      rcases Nat.lt_or_ge j zs.length with h' | h'
      · exact h'
      · rw [List.getElem?_eq_none (by rw [nums_length]; exact h')] at hu; cases hu
    rw [hc j hj, ← hu]
    simp [nums, List.getElem?_eq_getElem hj, List.getD_eq_getElem?_getD]
  refine Held.out (wpList_append_grows (P := Tryz.prog) W hgd s x t ho 5 i0 (.int .u8 0) 1 1 ht hi hz0 hz1 hz2 rfl (by decide) (some a1) xs.length xs.length (nums .u8 xs) hs (fun h => by cases h) (by rw [nums_length, Nat.mul_one])
    (fun b hb => by injection hb with hb; subst hb; exact cell xs a1 hc1) a2 ys.length c2 (nums .u8 ys) hx (by rw [nums_length, Nat.mul_one]) (cell ys a2 hc2) (by intro u hu; obtain ⟨q, _, rfl⟩ := List.mem_map.1 hu; rfl) (by omega) (by simp only [maxLen]; omega) (by omega) ?_)
  intro v1 w1 hown hg
  have hbw : Below W.heap.size W w1 := (Below.refl W.heap.size W).grown hg (Nat.le_refl _) (fun k hk => by cases hk)
  refine h v1 w1 ⟨?_, hb.trans (hbw.mono hb.size)⟩ hbw
  have := own_weaken hown hb.size
  rwa [← nums_append, ← List.length_append] at this
end

theorem reads_alloc {W : World} {A : Option Addr} {n : Nat} {xs : List Int} {o : Obj} (h : ReadsInt W .u8 A n xs) : ReadsInt (W.alloc o) .u8 A n xs := by
  have hn : n = xs.length := h.1.symm
  subst hn
  obtain ⟨_, _, e, _, hr⟩ := (show Bs W (.slice A xs.length xs.length) xs from ⟨A, _, rfl, Nat.le_refl _, h⟩).below (below_alloc (Below.refl _ _) o)
  cases e
  exact hr
theorem reads_mark (W : World) (e : TypeId) (xs : List Int) (hm : xs.length ≤ 9223372036854775807) (fr : Nat × Nat) :
    ReadsInt (W.alloc (.cells (nums .u8 xs).toArray e fr)) .u8 (some ⟨W.heap.size, 0, none⟩) xs.length xs := by
  obtain ⟨_, _, e', _, hr⟩ := Bs.mark W e xs xs.length rfl hm fr
  cases e'
  exact hr
set_option maxHeartbeats 800000 in
theorem head_any (k : Int) (w : World) :
    Calls Tryz.prog 51 #[.int .u8 k] w fun e w' => ∃ v, e = .returned v ∧ Ow w w' v (headBytes k) := by
  have kc := fun (w : World) (C : Array Value) (n c : Nat) => Lib.run_convert_bytes_const (P := Tryz.prog) w 23 5 C n c Tryz.underlying23 Tryz.underlying5
  have R1 := Lib.hid (reads_alloc (o := .cells (nums .u8 [k, 0, 0, 0]).toArray 5) (reads_mark w 5 [66, 76, 87, 49] (by simp) (4, 5)))
  have r2 := reads_mark (w.alloc (.cells (nums .u8 [66, 76, 87, 49]).toArray 5 (4, 5))) 5 [k, 0, 0, 0] (by simp) (0, 0)
  rw [show (w.alloc (.cells (nums .u8 [66, 76, 87, 49]).toArray 5 (4, 5))).heap.size = w.heap.size + 1 from by simp] at r2
  have R2 := Lib.hid r2
  clear r2
  have HB := Lib.hid (below_alloc (below_alloc (Below.refl w.heap.size w) (.cells (nums .u8 [66, 76, 87, 49]).toArray 5 (4, 5))) (.cells (nums .u8 [k, 0, 0, 0]).toArray 5))
  go_enter Tryz.func51, Tryz.ntmps51
  go_wp2_with (at_builtin; refine Held.of ?_)
  refine app_full (w0 := w) rfl (.tmp 4) (.tmp 6) 23 rfl Tryz.underlying23 _ _ _ [66, 76, 87, 49] [k, 0, 0, 0] rfl rfl R1.out R2.out (Nat.zero_lt_succ _) (Nat.zero_lt_succ _) HB.out (by simp only [List.length_cons, List.length_nil]; omega) ?_
  intro v1 w1 o1 _
  have O1 := Lib.hid o1
  clear o1
  go_wp2
  go_ret
  exact ⟨_, rfl, O1.out⟩
end Go.Proofs.YtononoakdebjeaaGreatDoor.Rec
