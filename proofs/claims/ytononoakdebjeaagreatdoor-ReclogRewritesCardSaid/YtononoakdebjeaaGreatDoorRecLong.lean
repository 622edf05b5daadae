/- Records that are too long: frames, Append, Rewrite (walks); rows put behind one. -/
import Derived.Test.YtononoakdebjeaaGreatDoorRecLogAll
namespace Go.Proofs.YtononoakdebjeaaGreatDoor.Rec
open Go.RowKit Go.Proofs.YtononoakdebjeaaGreatDoorW.PrintWords Go.Proofs.YtononoakdebjeaaGreatDoorW.PrintLast Go.Proofs.YtononoakdebjeaaGreatDoor.Base Go.Proofs.YtononoakdebjeaaGreatDoor.Path Go.Proofs.YtononoakdebjeaaGreatDoor.Pack Go.Proofs.YtononoakdebjeaaGreatDoor.Dk Go.Maps
set_option linter.unusedVariables false
set_option linter.unusedSimpArgs false
theorem append_long (l g : Nat) (nm : ByteArray) (kd : Int) (v : Value) (xs : List Int) (w : World) (hl : w.heap[l]? = some (logO g nm kd)) (hv : Bs w v xs) (h : 4096 < xs.length) :
    Calls Tryz.prog 30 #[.pointer (some ⟨l, 0, none⟩), v] w fun e w' => e = .returned (.int .i64 3) ∧ w' = w := by
  have HFR := Lib.hid (frame_long v xs w hv h)
  obtain ⟨A, cp, rfl, _, _⟩ := hv.len
  clear hv h
  go_enter Tryz.func30, Tryz.ntmps30
  go_wp2_with fail
  refine HFR.out.mono ?_
  rintro e w1 ⟨rfl, rfl⟩
  go_wp2
  go_ret
  exact ⟨rfl, rfl⟩
theorem frames_long (A0 : Option Addr) (n0 c0 : Nat) (ad : Addr) (n c : Nat) (u : Value) (xs : List Int) (w : World) (hn : 0 < n) (hm : n ≤ 9223372036854775807) (hc : w.cell? ad = some u) (hu : Bs w u xs) (h : 4096 < xs.length) :
    Calls Tryz.prog 52 #[.slice A0 n0 c0, .slice (some ad) n c] w fun e w' => e = .returned (.tuple #[.slice none 0 0, .int .i64 3]) ∧ w' = w := by
  have HFR := Lib.hid (frame_long u xs w hu h)
  obtain ⟨B1, n1, rfl, _, _⟩ := hu.len
  clear hu h
  go_enter Tryz.func52, Tryz.ntmps52
  go_wp2
  go_loopw [0, 12] (fun s0 s12 wr => s12 = .int .i64 0 ∧ w = wr) (fun _ _ _ => 0)
  case atStart => exact ⟨rfl, rfl⟩
  case round =>
    obtain ⟨rfl, rfl⟩ := hrel
    have d1 : decide ((0 : Int) < (n : Int)) = true := decide_eq_true (by omega)
    have d2 : decide (0 < n) = true := decide_eq_true hn
    have l1 : (0 : Int) < (n : Int) := by omega
    go_wp2_with fail
    refine HFR.out.mono ?_
    rintro e w2 ⟨rfl, rfl⟩
    go_wp2
    go_ret2
    exact ⟨rfl, rfl⟩
set_option maxRecDepth 100000 in
set_option maxHeartbeats 4000000 in
theorem rewrite_long (l g : Nat) (nm : ByteArray) (kd : Int) (ad : Addr) (n c : Nat) (u : Value) (xs : List Int) (w : World) (hl : w.heap[l]? = some (logO g nm kd)) (hn : 0 < n) (hm : n ≤ 9223372036854775807) (hc : w.cell? ad = some u) (hu : Bs w u xs) (h : 4096 < xs.length) :
    Calls Tryz.prog 27 #[.pointer (some ⟨l, 0, none⟩), .slice (some ad) n c] w fun e w' => e = .returned (.int .i64 3) ∧ Below w.heap.size w w' := by
  have hw : Below w.heap.size w (w.alloc (boxO l)) := below_alloc (Below.refl _ _) _
  have k1 := pw_cell_below hw (blk_cell hl 2)
  have HU := Lib.hid hu
  have HW := Lib.hid hw
  have HC := Lib.hid hc
  have HH := Lib.hid (And.intro h (And.intro hn hm))
  have HHD := Lib.hid (head_any kd (w.alloc (boxO l)))
  have k1 : (w.alloc (boxO l)).cell? ⟨l, 2, none⟩ = some (.int .u8 kd) := k1
  clear hu hw hc hl h hn hm
  go_enter Tryz.func27, Tryz.ntmps27
  go_wp2_with fail
  refine HHD.out.mono ?_
  rintro e w1 ⟨v1, rfl, o1⟩
  obtain ⟨A1, n1, c1, rfl, hn1⟩ := o1.slice
  have hb1 : Below w.heap.size w w1 := HW.out.trans (o1.below.mono HW.out.size)
  have HB1 := Lib.hid hb1
  have HFR := Lib.hid (frames_long A1 n1 c1 ad n c u xs w1 HH.out.2.1 HH.out.2.2 (pw_cell_below hb1 HC.out) (HU.out.below hb1) HH.out.1)
  clear o1 hb1 k1 hn1
  go_wp2_with fail
  refine HFR.out.mono ?_
  rintro e w2 ⟨rfl, rfl⟩
  go_wp2
  go_ret
  exact ⟨rfl, below_alloc HB1.out _⟩
abbrev OneV := { x : Value // x.oneCell' = true }
section
variable {ops : Array Oper} {rest : List Oper} {o : Oper} {a : Act} {Q : Exit → Act → World → Prop}
/-- Rows put behind a row of one. -/
theorem app_rows {W0 : World} (hgd : o.guard = none) (s x : Operand) (t : TypeId)
    (ho : o.op = .call { callee := .builtin .append, args := #[s, x], argTypes := #[t, t] })
    (ht : Tryz.prog.underlying t = some (.slice 23))
    (A1 : Option Addr) (n1 c1 : Nat) (v2 : Value) (qs : List (List Int)) (hs : a.eval s = .slice (some ⟨W0.heap.size, 0, none⟩) 1 1) (hx : a.eval x = v2)
    (HR : Rs W0 v2 qs) (hl : qs.length ≤ 1000)
    (h : ∀ b c' w1, Below W0.heap.size W0 w1 → w1.cell? ⟨b, 0, none⟩ = some (.slice A1 n1 c1) → wpList Tryz.prog ops Q rest (a.put o.dst (.slice (some ⟨b, 0, none⟩) (1 + qs.length) c')) w1) :
    Held (wpList Tryz.prog ops Q (o :: rest) a (W0.alloc (.cells #[.slice A1 n1 c1] 23))) := by
  obtain ⟨A, c, rfl, hc, hm, hr⟩ := HR
  have key : ∀ i : Nat, ∃ y : OneV, i < qs.length → ∃ ad, A = some ad ∧ W0.cell? (ad.add i) = some y.1 := fun i => by
    by_cases hi : i < qs.length
    · obtain ⟨ad, e, hcell⟩ := hr (by omega)
      obtain ⟨u, hu, hb⟩ := hcell i hi
      obtain ⟨A', c', rfl, _⟩ := hb.len
      exact ⟨⟨.slice A' _ c', rfl⟩, fun _ => ⟨ad, e, hu⟩⟩
    · exact ⟨⟨.int .i64 0, rfl⟩, fun h => absurd h hi⟩
  obtain ⟨f, hf⟩ := Classical.axiomOfChoice key
  let z0 : OneV := ⟨.slice A1 n1 c1, rfl⟩
  have hown := own_lit_of (enc := fun y : OneV => y.1) W0 W0.heap.size 23 [z0] (Nat.le_refl _) (by simp)
  have HO : (Kd.scalar (fun y : OneV => y.1) (fun y => y.2)).R 23 (W0.alloc (.cells #[.slice A1 n1 c1] 23)) W0.heap.size (fun _ => True) (.slice (some ⟨W0.heap.size, 0, none⟩) 1 1) [z0] :=
    Kd.R_of_own hown (fun _ _ => trivial)
  have hb : Below W0.heap.size W0 (W0.alloc (.cells #[.slice A1 n1 c1] 23)) := below_alloc (Below.refl _ _) _
  have HC : (Kd.scalar (fun y : OneV => y.1) (fun y => y.2)).C (W0.alloc (.cells #[.slice A1 n1 c1] 23)) A qs.length ((List.range qs.length).map f) := by
    refine ⟨by simp, hm, fun hp => ?_⟩
    obtain ⟨ad, e, _⟩ := hf 0 hp
    refine ⟨ad, e, fun j p hj => ?_⟩
    obtain ⟨hjl, hjp⟩ := List.getElem?_eq_some_iff.1 hj
    have hjl : j < qs.length := by simpa using hjl
    obtain ⟨ad', e', hu⟩ := hf j hjl
    rw [e] at e'
    cases e'
    have hp2 : f j = p := by rw [← hjp]; simp
    refine ⟨[p.1], rfl, rfl, fun i u hu2 => ?_⟩
    match i, hu2 with
    | 0, hu2 =>
      obtain rfl := Option.some.inj hu2
      rw [← hp2]
      show World.cell? _ (ad.add (j * 1 + 0)) = _
      rw [show j * 1 + 0 = j from by omega]
      exact pw_cell_below hb hu
  refine Held.out (Kd.R_append_row (P := Tryz.prog) (fun y : OneV => y.1) z0 (h1 := fun y => y.2) (w0 := W0) W0.heap.size hgd s x t 23 (.slice none 0 0) 24 ho ht info_bs rfl (by decide) _ [z0] ((List.range qs.length).map f) A qs.length c (fun _ => True) hs hx (fun _ _ => trivial) HO HC hb hb.size (by simp; omega) ?_)
  intro v1 w1 r1 b1 _ _
  obtain ⟨A', c', e1, _, hC⟩ := Kd.R_reads r1
  have hlen : ([z0] ++ (List.range qs.length).map f).length = 1 + qs.length := by simp; omega
  obtain ⟨ad, ea, hcell⟩ := hC.2.2 (by rw [hlen]; omega)
  subst ea
  obtain ⟨b, hbk⟩ := Kd.R_head (e1 ▸ r1)
  subst hbk
  obtain ⟨cs, _, hcs, hu⟩ := hcell 0 z0 rfl
  have hz : w1.cell? ⟨b, 0, none⟩ = some z0.1 := hu 0 z0.1 (by rw [hcs]; rfl)
  rw [e1, hlen]
  exact h b c' w1 b1 hz
end
end Go.Proofs.YtononoakdebjeaaGreatDoor.Rec
