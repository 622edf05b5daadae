/- names.(*Book).Look; the law's found; the reference's Same on what is alike (walks). -/
import Derived.Test.YtinonkakpgiblaaNamLook
namespace Go.Proofs.Ytinonkakpgiblaa.Nam
open Go.RowKit Go.Proofs.YtinonkakpgiblaaW.PrintWords Go.Proofs.YtinonkakpgiblaaW.PrintLast Go.Proofs.Ytinonkakpgiblaa.Base Go.Proofs.Ytinonkakpgiblaa.Pack Go.Maps
set_option linter.unusedVariables false
set_option linter.unusedSimpArgs false

theorem cell_row_tmp {P : Program} {fn : Func} {p u : Tmp} {ty : TypeId} (h : fn.results = #[.cell p ty, .tmp u]) (tmps : Array Value) (w : World) (g : Nat) (t : TypeId) (cs : Array Value) (fr : Nat × Nat) (d : TypeDesc)
    (hp : tmps.getD p undef = .pointer (some ⟨g, 0, none⟩)) (hg : w.heap[g]? = some (.cells cs t fr))
    (hu : P.underlying ty = some d) (hd : (match d with | .struct _ | .array _ _ => true | _ => false) = true) (hi : (P.info? ty).map (·.size) = some cs.size) :
    (results fn tmps).run P w = .ok (.tuple #[.agg cs, tmps.getD u undef]) w := by
  rw [results_cell_tmp h, hp]
  simp [asAddr, run_loadVar_row w g t ty cs fr d hg hu hd hi]
theorem outs_look {S : Nat → Prop} {w : World} {f2 : Nat → Option Value} {os : Nat → Option FndV} {m2 n2 : Nat} (hM2 : VMap 3 ikey w m2 n2 f2) (hO : OutsAt S w f2 os) (n : Nat) (hn : n < 9223372036854775808) :
    ∃ tm A k c, (Instr.lookup 67 (.map (some m2)) (.int .i64 (n : Int)) true).run Try.prog w = .ok (.tuple #[.agg #[.int .i64 tm, .slice A k c], .bool (os n).isSome]) w := by
  have h := (hM2.look keyed_i Try.underlying67 (found_zero w) (s := n) (keyOf_i hn)).1
  rcases hO n with ⟨h1, h2⟩ | ⟨fd, cs, h1, h2, hM⟩
  · rw [h2] at h
    rw [h1]
    exact ⟨0, none, 0, 0, h⟩
  · obtain ⟨cs0, cs1, rfl, ec0, vdv, ec1, hRd⟩ := hM
    have ec0 : cs0 = [.int .i64 fd.time] := ec0
    subst ec0
    subst ec1
    obtain ⟨Af, cf, ev⟩ := Kd.R_slice hRd
    subst ev
    rw [h2] at h
    rw [h1]
    exact ⟨_, _, _, _, h⟩
set_option maxRecDepth 100000 in
set_option maxHeartbeats 4000000 in
theorem look_any (S : Nat → Prop) (c g : Nat) (b : BookV) (s : ByteArray) (w : World) (hB : Bk S c w g b) (hs : s.size ≤ maxLen) (hc : c ≤ 1000000) (hfl : ∀ n f, b.os n = some f → f.deps.length ≤ 1000000) :
    Calls Try.prog 17 #[.pointer (some ⟨g, 0, none⟩), .string s] w fun e w' => ∃ v, e = .returned (.tuple #[v, .bool (lookV b s).isSome]) ∧ DepO w.heap.size w' v ((lookV b s).getD zdep) ∧ Below w.heap.size w w' := by
  have hns : b.ns.length ≤ 1000000 := by have := hB.few; omega
  have HBK := Lib.hid hB
  have HFL := Lib.hid hfl
  obtain ⟨_, _, _, _, _, vn, m1, m2, n2, f2, h1, _, _, _, _, hRn, hM1, hM2, hO⟩ := hB
  obtain ⟨x, hx⟩ : ∃ x, w.heap.size = x := ⟨_, rfl⟩
  obtain ⟨Wb, hWb⟩ : ∃ Wb, Wb = w.alloc (.cells #[.string ⟨#[]⟩, .int .i64 0, .slice none 0 0] 36) := ⟨_, rfl⟩
  have hb0 : Below w.heap.size w Wb := by rw [hWb]; exact below_alloc (Below.refl _ _) _
  have hXr : Wb.heap[x]? = some (.cells #[.string ⟨#[]⟩, .int .i64 0, .slice none 0 0] 36 (0, 0)) := by rw [hWb, ← hx]; exact blk_new w _
  have XG := (hb0.block _ (blk_lt h1)).trans h1
  have c1 := blk_cell XG 1
  have c2 := blk_cell XG 2
  have hgl : g < Wb.heap.size := blk_lt XG
  have HM1 := Lib.hid (hM1.below hb0)
  have HM2 := Lib.hid (hM2.below hb0)
  have HO : Hid (OutsAt S Wb f2 b.os) := hO.move fun k hk hl => hb0.block k hl
  have XR := Lib.hid hXr
  have HB0 := Lib.hid hb0
  have HX := Lib.hid hx
  have HWB := Lib.hid hWb
  have hlk1 := (HM1.out.look keyed_s Try.underlying66 (map_zero_int _) (s := s) (keyOf_s hs)).1
  have hz : (Value.agg #[.string ⟨#[]⟩, .int .i64 0, .slice none 0 0]) = .agg #[.string zdep.out, .int .i64 zdep.time, .slice none 0 0] := rfl
  have HZ : Hid (∀ W, DepO w.heap.size W (.agg #[.string ⟨#[]⟩, .int .i64 0, .slice none 0 0]) zdep) := fun W => ⟨_, rfl, Kd.R_nil _ _ _ _ _⟩
  clear h1 hRn hM1 hM2 hO hb0 hXr hWb XG hz
  cases hi : idx b.ns s with
  | none =>
    have HE : Hid (lookV b s = none) := by show _ = _; unfold lookV; rw [hi]; rfl
    rw [hi] at hlk1
    simp only [Option.map_none, Option.getD_none, Option.isSome_none] at hlk1
    obtain ⟨tm, A, k, cc, hlk2⟩ := outs_look HM2.out HO.out 0 (by decide)
    have hlk2 : (Instr.lookup 67 (.map (some m2)) (.int .i64 0) true).run Try.prog Wb = .ok (.tuple #[.agg #[.int .i64 tm, .slice A k cc], .bool (b.os 0).isSome]) Wb := hlk2
    generalize (b.os 0).isSome = bb at hlk2
    have HX2 : Hid ((Wb.alloc (.cells #[.int .i64 tm, .slice A k cc] 82)).heap[x]? = some (.cells #[.string ⟨#[]⟩, .int .i64 0, .slice none 0 0] 36 (0, 0))) := ((below_alloc (Below.refl _ _) _).block x (blk_lt XR.out)).trans XR.out
    clear hi
    go_enter Try.func17, Try.ntmps17
    go_upto_region 3 with (fail)
    rw [← HWB.out]
    try rw [hx]
    clear hx
    go_wp2_with (with_reducible refine gate_ (.store 36 (.tmp 4) (.tmp 37)) rfl ?_; refine Held.of ?_)
    refine Held.out (wpList_plain rfl fun K hK => wp_store_row 36 (.tmp 4) (.tmp 37) rfl x #[.string ⟨#[]⟩, .int .i64 0, .slice none 0 0] rfl rfl 36 _ HX2.out (by kernel_rfl) rfl (by simp [Value.oneCell']) (hK _ _ ?_))
    have HY := Lib.hid (setRow_heap _ x _ (#[.string ⟨#[]⟩, .int .i64 0, .slice none 0 0]) _ _ HX2.out)
    go_wp2
    (try simp only [Exit.inBlock, Exit.then])
    refine bodyPost_ret (cell_row_tmp rfl _ _ x 36 _ (0, 0) _ rfl HY.out Try.underlying36 rfl (by kernel_rfl)) rfl ?_
    rw [HE.out]
    exact ⟨_, rfl, HZ.out _, row_below (below_alloc HB0.out _) (by rw [HX.out]; exact Nat.le_refl _) _⟩
  | some n =>
    have hn := (idx_some hi).1
    rw [hi] at hlk1
    simp only [Option.map_some, Option.getD_some, Option.isSome_some] at hlk1
    obtain ⟨tm, A, k, cc, hlk2⟩ := outs_look HM2.out HO.out n (by omega)
    have HX2 : Hid ((Wb.alloc (.cells #[.int .i64 tm, .slice A k cc] 82)).heap[x]? = some (.cells #[.string ⟨#[]⟩, .int .i64 0, .slice none 0 0] 36 (0, 0))) := ((below_alloc (Below.refl _ _) _).block x (blk_lt XR.out)).trans XR.out
    cases hf : b.os n with
    | none =>
      have HE : Hid (lookV b s = none) := by show _ = _; unfold lookV; rw [hi]; simp [hf]
      rw [hf] at hlk2
      simp only [Option.isSome_none] at hlk2
      clear hi hf
      go_enter Try.func17, Try.ntmps17
      go_upto_region 3 with (fail)
      rw [← HWB.out]
      try rw [hx]
      clear hx
      go_wp2_with (with_reducible refine gate_ (.store 36 (.tmp 4) (.tmp 37)) rfl ?_; refine Held.of ?_)
      refine Held.out (wpList_plain rfl fun K hK => wp_store_row 36 (.tmp 4) (.tmp 37) rfl x #[.string ⟨#[]⟩, .int .i64 0, .slice none 0 0] rfl rfl 36 _ HX2.out (by kernel_rfl) rfl (by simp [Value.oneCell']) (hK _ _ ?_))
      have HY := Lib.hid (setRow_heap _ x _ (#[.string ⟨#[]⟩, .int .i64 0, .slice none 0 0]) _ _ HX2.out)
      go_wp2
      (try simp only [Exit.inBlock, Exit.then])
      refine bodyPost_ret (cell_row_tmp rfl _ _ x 36 _ (0, 0) _ rfl HY.out Try.underlying36 rfl (by kernel_rfl)) rfl ?_
      rw [HE.out]
      exact ⟨_, rfl, HZ.out _, row_below (below_alloc HB0.out _) (by rw [HX.out]; exact Nat.le_refl _) _⟩
    | some f =>
      have HE : Hid (lookV b s = some (depV b n f)) := by show _ = _; unfold lookV; rw [hi]; simp [hf]
      rw [hf] at hlk2
      simp only [Option.isSome_some] at hlk2
      have HF := Lib.hid hf
      have HBW := Lib.hid (below_alloc HB0.out (.cells #[.int .i64 tm, .slice A k cc] 82))
      clear hi hf
      go_enter Try.func17, Try.ntmps17
      go_upto_region 3 with (fail)
      rw [← HWB.out]
      try rw [hx]
      clear hx
      go_wp2_with fail
      refine (dep_any S c g b n f _ (HBK.out.below HBW.out) HF.out hc (HFL.out n f HF.out)).mono ?_
      rintro e w2 ⟨v2, rfl, hd2, hb2⟩
      have hx3 : w2.heap[x]? = some (.cells #[.string ⟨#[]⟩, .int .i64 0, .slice none 0 0] 36 (0, 0)) := (hb2.block x (blk_lt HX2.out)).trans HX2.out
      obtain ⟨vd, rfl, hss⟩ := hd2
      obtain ⟨A3, c3, ev3⟩ := Kd.R_slice hss
      subst ev3
      obtain ⟨n3, hn3⟩ : ∃ n3, n3 = (depV b n f).deps.length := ⟨_, rfl⟩
      rw [← hn3] at hss ⊢
      have HS3 := Lib.hid hss
      have HX3 := Lib.hid hx3
      have HB3 := Lib.hid (HBW.out.trans (hb2.mono HBW.out.size))
      clear hn3 hss hx3 hb2 hlk1 hlk2 c1 c2
      generalize depV b n f = dv at HE HS3
      go_wp2_with (with_reducible refine gate_ (.store 36 (.tmp 4) (.tmp 40)) rfl ?_; refine Held.of ?_)
      refine Held.out (wpList_plain rfl fun K hK => wp_store_row 36 (.tmp 4) (.tmp 40) rfl x #[.string dv.out, .int .i64 dv.time, .slice A3 n3 c3] rfl rfl 36 _ HX3.out (by kernel_rfl) rfl (by simp [Value.oneCell']) (hK _ _ ?_))
      have HY := Lib.hid (setRow_heap _ x _ (#[.string dv.out, .int .i64 dv.time, .slice A3 n3 c3]) _ _ HX3.out)
      go_wp2
      (try simp only [Exit.inBlock, Exit.then])
      refine bodyPost_ret (cell_row_tmp rfl _ _ x 36 _ (0, 0) _ rfl HY.out Try.underlying36 rfl (by kernel_rfl)) rfl ?_
      rw [HE.out]
      exact ⟨_, rfl, ⟨_, rfl, Kd.R_lower (R_setRow HS3.out HX3.out (by decide) _) HBW.out.size⟩, row_below HB3.out (by rw [HX.out]; exact Nat.le_refl _) _⟩
set_option maxRecDepth 100000 in
set_option maxHeartbeats 1000000 in
theorem look_none (s : ByteArray) (w : World) :
    Calls Try.prog 17 #[.pointer none, .string s] w fun e w' => (∃ v, e = .returned (.tuple #[v, .bool false])) ∧ Below w.heap.size w w' := by
  obtain ⟨x, hx⟩ : ∃ x, w.heap.size = x := ⟨_, rfl⟩
  obtain ⟨Wb, hWb⟩ : ∃ Wb, Wb = w.alloc (.cells #[.string ⟨#[]⟩, .int .i64 0, .slice none 0 0] 36) := ⟨_, rfl⟩
  have hb0 : Below w.heap.size w Wb := by rw [hWb]; exact below_alloc (Below.refl _ _) _
  have hXr : Wb.heap[x]? = some (.cells #[.string ⟨#[]⟩, .int .i64 0, .slice none 0 0] 36 (0, 0)) := by rw [hWb, ← hx]; exact blk_new w _
  have XR := Lib.hid hXr
  have HB0 := Lib.hid hb0
  have HX := Lib.hid hx
  have HWB := Lib.hid hWb
  clear hb0 hXr hWb
  go_enter Try.func17, Try.ntmps17
  go_wp2_with (with_reducible refine gate_ (.store 36 (.tmp 4) (.tmp 12)) rfl ?_; refine Held.of ?_)
  rw [← HWB.out]
  try rw [hx]
  clear hx
  refine Held.out (wpList_plain rfl fun K hK => wp_store_row 36 (.tmp 4) (.tmp 12) rfl x #[.string ⟨#[]⟩, .int .i64 0, .slice none 0 0] rfl rfl 36 _ XR.out (by kernel_rfl) rfl (by simp [Value.oneCell']) (hK _ _ ?_))
  have HY := Lib.hid (setRow_heap _ x _ (#[.string ⟨#[]⟩, .int .i64 0, .slice none 0 0]) _ _ XR.out)
  go_wp2
  (try simp only [Exit.inBlock, Exit.then])
  refine bodyPost_ret (cell_row_tmp rfl _ _ x 36 _ (0, 0) _ rfl HY.out Try.underlying36 rfl (by kernel_rfl)) rfl ?_
  exact ⟨⟨_, rfl⟩, row_below HB0.out (by rw [HX.out]; exact Nat.le_refl _) _⟩
set_option maxRecDepth 100000 in
set_option maxHeartbeats 1000000 in
theorem found_any (v : Value) (d : DepV) (w : World) (h : DepIs w v d) :
    Calls Try.prog 19 #[v] w fun e w' => ∃ v', e = .returned v' ∧ DepIs w' v' d ∧ Below w.heap.size w w' := by
  obtain ⟨vd, rfl, hs⟩ := h
  obtain ⟨Ad, cd, rfl, hcd, hmd⟩ := ss_len hs
  obtain ⟨nd, hnd⟩ : ∃ nd, nd = d.deps.length := ⟨_, rfl⟩
  rw [← hnd] at hcd hmd hs ⊢
  obtain ⟨x, hx⟩ : ∃ x, w.heap.size = x := ⟨_, rfl⟩
  obtain ⟨Wb, hWb⟩ : ∃ Wb, Wb = (w.alloc (.cells #[.string d.out, .int .i64 d.time, .slice Ad nd cd] 36)).alloc (.cells #[.string ⟨#[]⟩, .int .i64 0, .slice none 0 0] 24) := ⟨_, rfl⟩
  have hb1 := below_alloc (Below.refl w.heap.size w) (.cells #[.string d.out, .int .i64 d.time, .slice Ad nd cd] 36)
  have hb0 : Below w.heap.size w Wb := by rw [hWb]; exact below_alloc hb1 _
  have hXr : Wb.heap[x + 1]? = some (.cells #[.string ⟨#[]⟩, .int .i64 0, .slice none 0 0] 24 (0, 0)) := by
    have h := blk_new (w.alloc (.cells #[.string d.out, .int .i64 d.time, .slice Ad nd cd] 36)) (.cells #[.string ⟨#[]⟩, .int .i64 0, .slice none 0 0] 24)
    rw [hWb, ← hx]
    simpa using h
  have hXb : Wb.heap[x]? = some (.cells #[.string d.out, .int .i64 d.time, .slice Ad nd cd] 36 (0, 0)) := by
    have h := blk_new w (.cells #[.string d.out, .int .i64 d.time, .slice Ad nd cd] 36)
    have h2 := below_alloc (Below.refl (w.alloc (.cells #[.string d.out, .int .i64 d.time, .slice Ad nd cd] 36)).heap.size (w.alloc (.cells #[.string d.out, .int .i64 d.time, .slice Ad nd cd] 36))) (.cells #[.string ⟨#[]⟩, .int .i64 0, .slice none 0 0] 24)
    rw [hWb, ← hx]
    exact (h2.block w.heap.size (blk_lt h)).trans h
  have q0 := blk_cell hXb 0
  have q1 := blk_cell hXb 1
  have q2 := blk_cell hXb 2
  have XR := Lib.hid hXr
  have HB0 := Lib.hid hb0
  have HX := Lib.hid hx
  have HWB := Lib.hid hWb
  have HS := Lib.hid hs
  clear hs hb1 hb0 hXr hXb hWb hnd
  go_enter Try.func19, Try.ntmps19
  go_upto_region 1 with (fail)
  rw [← HWB.out]
  try rw [hx]
  clear hx
  go_wp2_with (with_reducible refine gate_ (.store 24 (.tmp 2) (.tmp 9)) rfl ?_; refine Held.of ?_)
  refine Held.out (wpList_plain rfl fun K hK => wp_store_row 24 (.tmp 2) (.tmp 9) rfl (x + 1) #[.string d.out, .int .i64 d.time, .slice Ad nd cd] rfl rfl 24 _ XR.out (by kernel_rfl) rfl (by simp [Value.oneCell']) (hK _ _ ?_))
  have HY := Lib.hid (setRow_heap _ (x + 1) _ (#[.string d.out, .int .i64 d.time, .slice Ad nd cd]) _ _ XR.out)
  go_wp2
  (try simp only [Exit.inBlock, Exit.then])
  refine bodyPost_ret (results_cell_row rfl _ _ (x + 1) 24 _ (0, 0) _ rfl HY.out Try.underlying24 rfl (by kernel_rfl)) rfl ?_
  have hbb := row_below (g := x + 1) HB0.out (by rw [HX.out]; omega) #[.string d.out, .int .i64 d.time, .slice Ad nd cd]
  exact ⟨_, rfl, ⟨_, rfl, HS.out.below hbb⟩, hbb⟩
set_option maxRecDepth 100000 in
set_option maxHeartbeats 2000000 in
theorem same_true (v1 v2 : Value) (d : DepV) (w : World) (h1 : DepIs w v1 d) (h2 : DepIs w v2 d) :
    Calls Try.prog 18 #[v1, v2] w fun e w' => e = .returned (.bool true) ∧ Below w.heap.size w w' := by
  obtain ⟨vd1, rfl, hs1⟩ := h1
  obtain ⟨vd2, rfl, hs2⟩ := h2
  obtain ⟨A1, c1, rfl, hc1, hm1⟩ := ss_len hs1
  obtain ⟨A2, c2, rfl, hc2, hm2⟩ := ss_len hs2
  obtain ⟨nd, hnd⟩ : ∃ nd, nd = d.deps.length := ⟨_, rfl⟩
  rw [← hnd] at hc1 hm1 hc2 hm2 hs1 hs2 ⊢
  obtain ⟨x, hx⟩ : ∃ x, w.heap.size = x := ⟨_, rfl⟩
  obtain ⟨Wb, hWb⟩ : ∃ Wb, Wb = (w.alloc (.cells #[.string d.out, .int .i64 d.time, .slice A1 nd c1] 24)).alloc (.cells #[.string d.out, .int .i64 d.time, .slice A2 nd c2] 24) := ⟨_, rfl⟩
  have hb1 := below_alloc (Below.refl w.heap.size w) (.cells #[.string d.out, .int .i64 d.time, .slice A1 nd c1] 24)
  have hb0 : Below w.heap.size w Wb := by rw [hWb]; exact below_alloc hb1 _
  have hX2 : Wb.heap[x + 1]? = some (.cells #[.string d.out, .int .i64 d.time, .slice A2 nd c2] 24 (0, 0)) := by
    have h := blk_new (w.alloc (.cells #[.string d.out, .int .i64 d.time, .slice A1 nd c1] 24)) (.cells #[.string d.out, .int .i64 d.time, .slice A2 nd c2] 24)
    rw [hWb, ← hx]
    simpa using h
  have hX1 : Wb.heap[x]? = some (.cells #[.string d.out, .int .i64 d.time, .slice A1 nd c1] 24 (0, 0)) := by
    have h := blk_new w (.cells #[.string d.out, .int .i64 d.time, .slice A1 nd c1] 24)
    have h2 := below_alloc (Below.refl (w.alloc (.cells #[.string d.out, .int .i64 d.time, .slice A1 nd c1] 24)).heap.size (w.alloc (.cells #[.string d.out, .int .i64 d.time, .slice A1 nd c1] 24))) (.cells #[.string d.out, .int .i64 d.time, .slice A2 nd c2] 24)
    rw [hWb, ← hx]
    exact (h2.block w.heap.size (blk_lt h)).trans h
  have q0 := blk_cell hX1 0
  have q1 := blk_cell hX1 1
  have q2 := blk_cell hX1 2
  have p0 := blk_cell hX2 0
  have p1 := blk_cell hX2 1
  have p2 := blk_cell hX2 2
  have X1 := Lib.hid hX1
  have X2 := Lib.hid hX2
  have HB0 := Lib.hid hb0
  have HX := Lib.hid hx
  have HWB := Lib.hid hWb
  have S1 := Lib.hid (hs1.below hb0)
  have S2 := Lib.hid (hs2.below hb0)
  have HND := Lib.hid hnd
  have hss : (d.out.toList != d.out.toList) = false := by simp
  have htt : (d.time != d.time) = false := by simp
  have hnn : ((nd : Int) != (nd : Int)) = false := by simp
  clear hs1 hs2 hb1 hb0 hX1 hX2 hWb hnd
  go_enter Try.func18, Try.ntmps18
  go_upto_region 1 with (fail)
  rw [← HWB.out]
  try rw [hx]
  clear hx
  go_wp2
  clear q0 q1 q2 p0 p1 p2
  go_loopw [5] (fun i wr => ∃ k : Nat, k ≤ nd ∧ i = .int .i64 k ∧ Hid (Below Wb.heap.size Wb wr)) (fun i _ => nd - (intOf i).toNat)
  case atStart => exact ⟨0, by omega, rfl, Below.refl _ _⟩
  case round =>
    obtain ⟨k, hk, rfl, HB⟩ := hrel
    have q2 := blk_cell ((HB.out.block _ (blk_lt X1.out)).trans X1.out) 2
    have p2 := blk_cell ((HB.out.block _ (blk_lt X2.out)).trans X2.out) 2
    by_cases l1 : k < nd
    · have hkl : k < d.deps.length := by rw [← HND.out]; exact l1
      obtain ⟨Ax, cx, ex, _, _, hcel⟩ := S1.out.below HB.out
      injection ex with ex1 ex2 ex3
      subst ex1
      obtain ⟨ad1, ead, hc1⟩ := hcel (by omega)
      subst ead
      have r1 := hc1 k hkl
      obtain ⟨Ay, cy, ey, _, _, hcel2⟩ := S2.out.below HB.out
      injection ey with ey1 ey2 ey3
      subst ey1
      obtain ⟨ad2, ead, hc2⟩ := hcel2 (by omega)
      subst ead
      have r2 := hc2 k hkl
      clear hcel hcel2 hc1 hc2 ex2 ex3 ey2 ey3 hkl
      generalize d.deps.getD k ByteArray.empty = sd at r1 r2
      have hsd : (sd.toList != sd.toList) = false := by simp
      go_wp2
      go_quiet (fail)
      have HN : Hid (Below Wb.heap.size Wb (wr.drewN nq)) := pw_below_drewN HB.out _
      go_wp2
      go_roundw
      case rel => exact ⟨k + 1, by omega, by go_num, HN.out⟩
      case measure => simp [intOf]; omega
    · have hk2 : k = nd := by omega
      clear hk2
      go_wp2
      go_ret
      exact ⟨rfl, HB0.out.trans (HB.out.mono HB0.out.size)⟩
end Go.Proofs.Ytinonkakpgiblaa.Nam
