/- slices.Clone of texts, names.(*Book).Names, and the example of chapter 7 (walks). -/
import Derived.Test.YtinonkakpgiblaaNamTold
namespace Go.Proofs.Ytinonkakpgiblaa.Nam
open Go.RowKit Go.Proofs.YtinonkakpgiblaaW.PrintWords Go.Proofs.YtinonkakpgiblaaW.PrintLast Go.Proofs.Ytinonkakpgiblaa.Base Go.Proofs.Ytinonkakpgiblaa.Pack Go.Maps
set_option linter.unusedVariables false
set_option linter.unusedSimpArgs false

set_option maxHeartbeats 800000 in
theorem clone_strs (v : Value) (l : List ByteArray) (w : World) (hv : Ss w v l) (hl : l.length ≤ 1000000000) :
    Calls Try.prog 35 #[v] w fun e w' => ∃ v', e = .returned v' ∧ Kd.string.R 9 w' w.heap.size (fun _ => True) v' l ∧ Below w.heap.size w w' := by
  obtain ⟨A, c, rfl, hc, hm⟩ := ss_len hv
  have hn := fun (w : World) (n c : Nat) (a : Option Addr) => Lib.run_eql_slice_nil (P := Try.prog) w 22 9 a n c 0 0 Try.underlying22
  have R := Lib.hid hv
  clear hv
  cases A with
  | none =>
    have hx : l = [] := by
      rcases Nat.eq_zero_or_pos l.length with h | h
      · exact List.eq_nil_of_length_eq_zero h
      · obtain ⟨_, _, e, _, _, h4⟩ := R.out
        obtain ⟨_, h', _⟩ := h4 h
        subst h'
        injection e with e1
        cases e1
    subst hx
    go_enter Try.func35, Try.ntmps35
    go_wp2
    go_ret
    exact ⟨_, rfl, Kd.R_nil _ _ _ _ _, Below.refl _ _⟩
  | some ad =>
    have HE := Lib.hid (str_nil w w.heap.size (Nat.le_refl _) (fun _ => True) trivial)
    have HR := Lib.hid (Kd.C_below (ss_C R.out) (below_alloc (Below.refl _ _) (.cells #[] 9)))
    go_enter Try.func35, Try.ntmps35
    go_wp2_with (at_builtin; refine Held.of ?_)
    refine Held.out (Kd.R_append_row Value.string ByteArray.empty (h1 := fun _ => rfl) (w0 := w) w.heap.size rfl (.tmp 5) (.tmp 6) 22 9 (.string ⟨#[]⟩) 16 rfl Try.underlying22 (by kernel_rfl) rfl (by decide) (.slice (some ⟨w.heap.size, 0, none⟩) 0 0) [] l (some ad) l.length c (fun _ => True) rfl rfl (fun _ _ => trivial) HE.out HR.out (below_alloc (Below.refl _ _) _) (below_alloc (Below.refl w.heap.size w) _).size (by simp only [List.length_nil]; omega) ?_)
    intro va w1 r1 b1 _ _
    rw [List.nil_append] at r1
    have HRI := Lib.hid r1
    have HB := Lib.hid b1
    clear r1 b1
    go_wp2
    go_ret
    exact ⟨_, rfl, HRI.out, HB.out⟩
set_option maxHeartbeats 800000 in
theorem names_any (S : Nat → Prop) (c g : Nat) (b : BookV) (w : World) (hB : Bk S c w g b) (hc : c ≤ 1000000) :
    Calls Try.prog 14 #[.pointer (some ⟨g, 0, none⟩)] w fun e w' => ∃ v, e = .returned v ∧ Kd.string.R 9 w' w.heap.size (fun _ => True) v b.ns ∧ Below w.heap.size w w' := by
  have hns : b.ns.length ≤ 1000000 := by have := hB.few; omega
  obtain ⟨_, _, _, _, _, vn, m1, m2, n2, f2, h1, _, _, _, _, hRn, _⟩ := hB
  have c0 := blk_cell h1 0
  obtain ⟨A0, cap0, e0⟩ := Kd.R_slice hRn
  subst e0
  have HS := Lib.hid (r_ss hRn)
  clear h1 hRn
  go_enter Try.func14, Try.ntmps14
  go_wp2_with fail
  refine (clone_strs _ _ _ HS.out (by omega)).mono ?_
  rintro e w1 ⟨v1, rfl, r1, b1⟩
  obtain ⟨A1, c1, e1⟩ := Kd.R_slice r1
  obtain ⟨n1, hn1⟩ : ∃ n1, n1 = b.ns.length := ⟨_, rfl⟩
  rw [← hn1] at e1
  subst e1
  have HR := Lib.hid r1
  have HB := Lib.hid b1
  clear r1 b1 hn1
  go_wp2
  go_ret
  exact ⟨_, rfl, HR.out, HB.out⟩
theorem names_none (w : World) :
    Calls Try.prog 14 #[.pointer none] w fun e w' => e = .returned (.slice none 0 0) ∧ w = w' := by
  go_enter Try.func14, Try.ntmps14
  go_wp2
  go_ret
  exact ⟨rfl, rfl⟩
def dd0 : DepV := ⟨⟨#[111]⟩, 5, [⟨#[97]⟩]⟩
theorem dd0_plan : planL [] dd0 = [[1, 1, 0, 111], [1, 1, 0, 97], [2, 0, 0, 0, 0, 5, 0, 0, 0, 0, 0, 0, 0, 1, 0, 0, 0, 1, 0, 0, 0]] := by decide +kernel
theorem dd0_E : planE dd0 = 0 := by decide +kernel
theorem dd0_s0 : ((strOfNums [1, 1, 0, 111]).toList == [1, 1, 0, 111]) = true := by decide +kernel
theorem dd0_s1 : ((strOfNums [1, 1, 0, 97]).toList == [1, 1, 0, 97]) = true := by decide +kernel
set_option maxRecDepth 100000 in
set_option maxHeartbeats 2000000 in
theorem awake_any (w : World) :
    Calls Try.prog 15 #[] w fun e w' => e = .returned (.bool true) ∧ Below w.heap.size w w' := by
  have hs0 := dd0_s0
  have hs1 := dd0_s1
  go_enter Try.func15, Try.ntmps15
  go_wp2_with fail
  refine (bnew_any _).mono ?_
  rintro e w1 ⟨g, rfl, hk, hb1⟩
  obtain ⟨w2, hw2⟩ : ∃ w2, w2 = w1.alloc (.cells #[.string ⟨#[97]⟩] 9) := ⟨_, rfl⟩
  have hb2 : Below w1.heap.size w1 w2 := by rw [hw2]; exact below_alloc (Below.refl _ _) _
  have HK := Lib.hid (hk.below hb2)
  have HB := Lib.hid (hb1.trans (hb2.mono hb1.size))
  have HD : Hid (DepIs w2 (.agg #[.string ⟨#[111]⟩, .int .i64 5, .slice (some ⟨w1.heap.size, 0, none⟩) 1 1]) dd0) := by
    refine ⟨_, rfl, ?_⟩
    rw [hw2]
    exact r_ss (str_lit w1 0 (Nat.zero_le _) (fun _ => True) trivial ⟨#[97]⟩)
  have HW2 := Lib.hid hw2
  clear hk hb1 hb2 hw2
  go_wp2_with fail
  rw [← HW2.out]
  refine (plan_any _ _ g _ _ dd0 _ HK.out HD.out ⟨by decide, by decide, by decide, by decide⟩ (by omega) (by decide)).mono ?_
  rintro e w3 ⟨vo, rfl, hr⟩
  have hp : planL book0.ns dd0 = _ := dd0_plan
  rw [hp] at hr
  rw [dd0_E]
  have HB3 := Lib.hid (HB.out.trans (hr.below.mono HB.out.size))
  obtain ⟨Ao, no, co, rfl, hno⟩ := hr.slice
  simp only [List.length_cons, List.length_nil] at hno
  subst hno
  have hrs := rs_row hr.row
  obtain ⟨ao, u0, rfl, x0, y0⟩ := rs_get hrs 0 (by decide)
  obtain ⟨ao1, u1, e1, x1, y1⟩ := rs_get hrs 1 (by decide)
  injection e1 with e1
  subst e1
  obtain ⟨ao2, u2, e2, x2, y2⟩ := rs_get hrs 2 (by decide)
  injection e2 with e2
  subst e2
  have b0 : Bs w3 u0 [1, 1, 0, 111] := y0
  have b1 : Bs w3 u1 [1, 1, 0, 97] := y1
  have b2 : Bs w3 u2 [2, 0, 0, 0, 0, 5, 0, 0, 0, 0, 0, 0, 0, 1, 0, 0, 0, 1, 0, 0, 0] := y2
  have j0 := str_of b0
  have j1 := str_of b1
  obtain ⟨A0, c0, rfl, l0, _⟩ := b0.len
  obtain ⟨A1, c1, rfl, l1, _⟩ := b1.len
  obtain ⟨A2, c2, rfl, l2, hr2⟩ := id b2
  obtain ⟨a2, rfl, z0⟩ := at_nat hr2 0 (by decide)
  obtain ⟨a2', e3, z5⟩ := at_nat hr2 5 (by decide)
  injection e3 with e3
  subst e3
  have q0 : w3.cell? ao = some (.slice A0 4 c0) := x0
  have q1 : w3.cell? ⟨ao.block, ao.off + 1, none⟩ = some (.slice A1 4 c1) := x1
  have q2 : w3.cell? ⟨ao.block, ao.off + 2, none⟩ = some (.slice (some a2) 21 c2) := x2
  have p0 : w3.cell? a2 = some (.int .u8 2) := z0
  have p5 : w3.cell? ⟨a2.block, a2.off + 5, none⟩ = some (.int .u8 5) := z5
  have k0 : (convert 46 9 (.slice A0 4 c0)).run Try.prog w3 = .ok (.string (strOfNums [1, 1, 0, 111])) w3 := j0
  have k1 : (convert 46 9 (.slice A1 4 c1)).run Try.prog w3 = .ok (.string (strOfNums [1, 1, 0, 97])) w3 := j1
  have hc2 : 21 ≤ c2 := l2
  clear hr hrs b0 b1 b2 hr2 hp x0 x1 x2 y0 y1 y2 z0 z5 j0 j1 l0 l1 l2
  go_wp2
  go_ret
  exact ⟨rfl, HB3.out⟩
end Go.Proofs.Ytinonkakpgiblaa.Nam
