/- bellowslaw13.GraphEdges (walk). -/
import Derived.Test.YtifbkojapfighaaGrOpen
import Derived.Test.YtifbkojapfighaaGrTold
import Derived.Test.YtifbkojapfighaaGrSame
namespace Go.Proofs.Ytifbkojapfighaa.Gr
open Go.RowKit Go.Proofs.YtifbkojapfighaaW.PrintWords Go.Proofs.YtifbkojapfighaaW.PrintLast Go.Proofs.Ytifbkojapfighaa.Base Go.Maps
set_option linter.unusedVariables false
set_option linter.unusedSimpArgs false
theorem info_redge : ∃ i, Try.prog.info? 46 = some i ∧ i.size = 6 := by
  have h : (Try.prog.info? 46).map (·.size) = some 6 := by kernel_rfl
  obtain ⟨i, hi, hz⟩ := Option.map_eq_some_iff.1 h
  exact ⟨i, hi, hz⟩
theorem cut_edge (ad : Addr) (n c k : Nat) (hk : k < n) (hc : n ≤ c) (W : World) : (Instr.slice 22 (.slice (some ad) n c) (some (.int .i64 (k : Int))) (some (.int .i64 ((k : Int) + 1))) none).run Try.prog W = .ok (.slice (some (ad.add (k * 6))) 1 (c - k)) W := by
  obtain ⟨i0, hi, hz⟩ := info_redge
  have hel : Try.prog.elem 22 = 46 := by simp [Program.elem, Try.underlying22]
  have hu : Try.prog.underlying 22 = some (.slice (Try.prog.elem 22)) := by rw [hel]; exact Try.underlying22
  have h := run_slice_lh W 22 (some ad) n c hu .i64 .i64 (k : Int) ((k + 1 : Nat) : Int) (by omega) (by omega) (by omega)
  rw [hel] at h
  have e : ((k + 1 : Nat) : Int) = (k : Int) + 1 := by omega
  rw [e] at h
  rw [h]
  have hne : c ≠ k := by omega
  have e2 : ((k : Int) + 1).toNat = k + 1 := by omega
  simp [sizeOf, typeInfo, hi, hz, sliced, Result.andThen, hne, e2]
theorem Ez.one {w : World} {ad : Addr} {n c : Nat} {es : List EdgeV} (h : Ez w (.slice (some ad) n c) es) {k : Nat} (hk : k < es.length) : Ez w (.slice (some (ad.add (k * 6))) 1 (c - k)) [es.getD k zedge] := by
  obtain ⟨A', c', e, h1, h2, h3⟩ := h
  injection e with e1 e2 e3
  subst e3
  refine ⟨some (ad.add (k * 6)), c - k, rfl, by show 1 ≤ _; omega, by show 1 ≤ _; omega, fun _ => ⟨_, rfl, fun i hi => ?_⟩⟩
  have hi : i < 1 := hi
  obtain rfl : i = 0 := by omega
  obtain ⟨ad', e4, h4⟩ := h3 (by omega)
  rw [← e1] at e4
  injection e4 with e4
  subst e4
  have h5 := h4 k hk
  have e5 : (ad.add (k * 6)).add (0 * 6) = ad.add (k * 6) := by simp [Addr.add]
  rw [e5]
  exact h5
set_option maxRecDepth 100000 in
set_option maxHeartbeats 16000000 in
theorem edges_any (v : Value) (a : Int) (m : ManV) (w : World) (hm : ManIs w v m) (ha1 : -9223372036854775808 ≤ a) (ha2 : a < 9223372036854775808) :
    Calls Try.prog 9 #[v, .int .i64 a] w fun e w' => e = .returned (.bool true) ∧ Below w.heap.size w w' := by
  obtain ⟨ve, vd, rfl, hE, hD⟩ := hm
  obtain ⟨Ae, ce, rfl, hce, hme⟩ := hE.len
  obtain ⟨n, hn⟩ : ∃ n, n = m.edges.length := ⟨_, rfl⟩
  rw [← hn] at hce hme hE ⊢
  obtain ⟨Ad, cd, rfl, hcd, hmd⟩ := ss_len hD
  obtain ⟨nd, hnd⟩ : ∃ nd, nd = m.defs.length := ⟨_, rfl⟩
  rw [← hnd] at hcd hmd hD ⊢
  obtain ⟨x, hx⟩ : ∃ x, w.heap.size = x := ⟨_, rfl⟩
  obtain ⟨w1, hw1⟩ : ∃ w1, w1 = w.alloc (.cells #[.slice Ae n ce, .slice Ad nd cd] 25) := ⟨_, rfl⟩
  have hb1 : Below w.heap.size w w1 := by rw [hw1]; exact below_alloc (Below.refl _ _) _
  have hX : w1.heap[x]? = some (.cells #[.slice Ae n ce, .slice Ad nd cd] 25 (0, 0)) := by rw [hw1, ← hx]; exact blk_new w _
  have HX := Lib.hid hX
  have HE1 := Lib.hid (hE.below hb1)
  have HD1 := Lib.hid (hD.below hb1)
  have HB1 := Lib.hid hb1
  have HW := Lib.hid hw1
  have HN := Lib.hid hn
  have q0 := (show w1.cell? ⟨x, 0, none⟩ = some (.slice Ae n ce) from blk_cell hX 0)
  have q1 := (show w1.cell? ⟨x, 1, none⟩ = some (.slice Ad nd cd) from blk_cell hX 1)
  clear hE hD hb1 hX hw1 hn hnd
  go_enter Try.func9, Try.ntmps9
  go_upto_region 1 with (fail)
  rw [← HW.out]
  try rw [hx]
  clear hx
  go_wp2_with fail
  refine (few_any _ m _ _ _ rfl HE1.out HD1.out).mono ?_
  rintro e w2 ⟨hres, b2⟩
  have HB2 := Lib.hid (HB1.out.trans (b2.mono HB1.out.size))
  rcases hres with rfl | ⟨rfl, hfm⟩
  · clear q0 q1
    go_wp2
    go_ret
    exact ⟨rfl, HB2.out⟩
  have HFM := Lib.hid hfm
  clear hfm q0 q1
  have X2 := Lib.hid ((b2.block x (blk_lt HX.out)).trans HX.out)
  have q0 := (show w2.cell? ⟨x, 0, none⟩ = some (.slice Ae n ce) from blk_cell X2.out 0)
  have q1 := (show w2.cell? ⟨x, 1, none⟩ = some (.slice Ad nd cd) from blk_cell X2.out 1)
  have HE2 := Lib.hid (HE1.out.below b2)
  have HD2 := Lib.hid (HD1.out.below b2)
  clear b2
  go_wp2_with fail
  refine (of_any _ m _ _ _ rfl HE2.out HD2.out HFM.out).mono ?_
  rintro e w3 ⟨⟨ve3, vd3, rfl, hE3, hD3⟩, b3⟩
  obtain ⟨A3, c3, e3, _, _⟩ := hE3.len
  rw [← HN.out] at e3
  subst e3
  obtain ⟨Ad3, cd3, e3, _, _⟩ := ss_len hD3
  obtain ⟨nd3, hnd3⟩ : ∃ nd3, nd3 = m.defs.length := ⟨_, rfl⟩
  rw [← hnd3] at e3
  subst e3
  have HE3 := Lib.hid hE3
  have HD3 := Lib.hid hD3
  have HB3 := Lib.hid (HB2.out.trans (b3.mono HB2.out.size))
  have X3 := Lib.hid ((b3.block x (blk_lt X2.out)).trans X2.out)
  have HER3 := Lib.hid (HE2.out.below b3)
  have HSG := Lib.hid (few_small HFM.out)
  have HDR3 := Lib.hid (HD2.out.below b3)
  clear hE3 hD3 hnd3 b3 q0 q1 X2 HE2 HD2
  go_wp2_with fail
  refine (new_any _ m _ _ _ rfl HE3.out HD3.out HSG.out.toSmallM).mono ?_
  rintro e w4 ⟨hres, b4⟩
  have HB4 := Lib.hid (HB3.out.trans (b4.mono HB3.out.size))
  have X4 := Lib.hid ((b4.block x (blk_lt X3.out)).trans X3.out)
  have HER4 := Lib.hid (HER3.out.below b4)
  have q0 := (show w4.cell? ⟨x, 0, none⟩ = some (.slice Ae n ce) from blk_cell X4.out 0)
  have q1 := (show w4.cell? ⟨x, 1, none⟩ = some (.slice Ad nd cd) from blk_cell X4.out 1)
  have HDR4 := Lib.hid (HDR3.out.below b4)
  clear b4 X3 HER3 HE3 HD3 HDR3
  rcases hres with ⟨rfl, hbad⟩ | ⟨rfl, hnd4, hbad⟩ | ⟨g, rfl, hnd4, hno, hgx⟩
  · have HBAD := Lib.hid hbad
    clear hbad
    go_wp2_with fail
    refine (wrong_any _ m _ _ _ rfl HER4.out HSG.out.toSmallM (by have := HFM.out.edges; omega)).mono ?_
    rintro e w5 ⟨⟨c, rfl, hc⟩, b5⟩
    have HB5 := Lib.hid (HB4.out.trans (b5.mono HB4.out.size))
    have hc0 : c = 11 ∨ c = 12 := by
      rcases hc.any with ⟨h, _⟩ | ⟨h, _⟩ | ⟨_, h1, h2⟩
      · exact .inl h
      · exact .inr h
      · exact absurd h1 HBAD.out
    have c1 : ((c : Int) != 0) = true := by rw [bne_iff_ne]; omega
    have HC0 := Lib.hid hc0
    clear b5 hc hc0 q0 q1
    go_wp2_with fail
    refine (awake_any _).mono ?_
    rintro e w6 ⟨rfl, b6⟩
    have HB6 := Lib.hid (HB5.out.trans (b6.mono HB5.out.size))
    clear b6
    go_wp2
    go_ret
    exact ⟨rfl, HB6.out⟩
  · have HBAD := Lib.hid hbad
    clear hbad hnd4
    go_wp2_with fail
    refine (wrong_any _ m _ _ _ rfl HER4.out HSG.out.toSmallM (by have := HFM.out.edges; omega)).mono ?_
    rintro e w5 ⟨⟨c, rfl, hc⟩, b5⟩
    have HB5 := Lib.hid (HB4.out.trans (b5.mono HB4.out.size))
    have hc0 : c = 11 ∨ c = 12 := by
      rcases hc.any with ⟨h, _⟩ | ⟨h, _⟩ | ⟨_, h1, h2⟩
      · exact .inl h
      · exact .inr h
      · exact absurd HBAD.out h2
    have c1 : ((c : Int) != 0) = true := by rw [bne_iff_ne]; omega
    have HC0 := Lib.hid hc0
    clear b5 hc hc0 q0 q1
    go_wp2_with fail
    refine (awake_any _).mono ?_
    rintro e w6 ⟨rfl, b6⟩
    have HB6 := Lib.hid (HB5.out.trans (b6.mono HB5.out.size))
    clear b6
    go_wp2
    go_ret
    exact ⟨rfl, HB6.out⟩
  have HG : Hid (Gx w4 g m) := hgx
  have HU := Lib.hid hnd4
  have HNO := Lib.hid hno
  clear hnd4 hno hgx
  clear q1
  go_wp2
  clear q0
  --S1
  go_loopw [7] (fun i wr => ∃ k : Nat, k ≤ n ∧ i = .int .i64 k ∧ Hid (Below w4.heap.size w4 wr)) (fun i _ => n - (intOf i).toNat)
  case atStart => exact ⟨0, by omega, rfl, Below.refl _ _⟩
  case round =>
    obtain ⟨i, hi, rfl, HB⟩ := hrel
    have hn30 : n ≤ 30 := by have := HFM.out.edges; have := HN.out; omega
    have hxr := (HB.out.block x (blk_lt X4.out)).trans X4.out
    have q0 := (show wr.cell? ⟨x, 0, none⟩ = some (.slice Ae n ce) from blk_cell hxr 0)
    have q1 := (show wr.cell? ⟨x, 1, none⟩ = some (.slice Ad nd cd) from blk_cell hxr 1)
    by_cases l1 : i < n
    · have hil : i < m.edges.length := by rw [← HN.out]; exact l1
      have HIL : Hid (i < m.edges.length) := hil
      obtain ⟨ad, _, _, _, _, e1, _⟩ := HER4.out.get i hil
      subst e1
      have hcut := cut_edge ad n ce i l1 hce
      clear hil
      go_wp2_with fail
      refine (edge_any g m i _ (HG.out.below HB.out) HSG.out HIL.out).mono ?_
      rintro e w5 ⟨⟨vo, vi, vm, vr, rfl, hO⟩, b5⟩
      generalize hge : m.edges.getD i zedge = ey at hO
      have HGE := Lib.hid hge
      obtain ⟨Ao, co, eo, _, _⟩ := ss_len hO.c.1
      obtain ⟨Ai, ci, ei, _, _⟩ := ss_len hO.c.2.1
      obtain ⟨Am, cm, em, _, _⟩ := ss_len hO.c.2.2.1
      obtain ⟨Ar, cr, er, _, _⟩ := ss_len hO.c.2.2.2
      obtain ⟨no, hno⟩ : ∃ no, no = ey.outs.length := ⟨_, rfl⟩
      obtain ⟨ni, hni⟩ : ∃ ni, ni = ey.ins.length := ⟨_, rfl⟩
      obtain ⟨nm, hnm⟩ : ∃ nm, nm = ey.imp.length := ⟨_, rfl⟩
      obtain ⟨nr, hnr⟩ : ∃ nr, nr = ey.ord.length := ⟨_, rfl⟩
      rw [← hno] at eo
      rw [← hni] at ei
      rw [← hnm] at em
      rw [← hnr] at er
      subst eo ei em er
      have HO := Lib.hid hO
      have HB5 := Lib.hid (HB.out.trans (b5.mono HB.out.size))
      clear hO b5 hno hni hnm hnr hge q0 q1 hxr
      obtain ⟨b, hb⟩ : ∃ b, w5.heap.size = b := ⟨_, rfl⟩
      obtain ⟨w6, hw6⟩ : ∃ w6, w6 = w5.alloc (.cells #[.slice Ao no co, .slice Ai ni ci, .slice Am nm cm, .slice Ar nr cr, .string ey.cmd, .string ey.dep] 44) := ⟨_, rfl⟩
      have hb6 : Below w5.heap.size w5 w6 := by rw [hw6]; exact below_alloc (Below.refl _ _) _
      have HC6 : Hid (w6.heap[b]? = some (.cells #[.slice Ao no co, .slice Ai ni ci, .slice Am nm cm, .slice Ar nr cr, .string ey.cmd, .string ey.dep] 44 (0, 0))) := by show _ = _; rw [hw6, ← hb]; exact blk_new w5 _
      have HO6 := Lib.hid (HO.out.below hb6)
      have HB6 := Lib.hid (HB5.out.trans (hb6.mono HB5.out.size))
      have HW6 := Lib.hid hw6
      clear hb6 hw6 HO
      go_wp2_with fail
      rw [← HW6.out]
      try rw [hb]
      clear hb
      refine (told_one b _ ey _ _ _ _ _ HC6.out HO6.out).mono ?_
      rintro e w7 ⟨⟨v7, rfl, hE7⟩, b7⟩
      obtain ⟨A7, c7, rfl, _, _⟩ := hE7.len
      have HE7' := Lib.hid hE7
      have HB7 := Lib.hid (HB6.out.trans (b7.mono HB6.out.size))
      clear hE7 b7 HC6 HO6
      obtain ⟨y, hy⟩ : ∃ y, w7.heap.size = y := ⟨_, rfl⟩
      obtain ⟨wz, hwz⟩ : ∃ wz, wz = w7.alloc (.cells #[.slice A7 1 c7, .slice none 0 0] 25) := ⟨_, rfl⟩
      have hbz : Below w7.heap.size w7 wz := by rw [hwz]; exact below_alloc (Below.refl _ _) _
      have hyz : wz.heap[y]? = some (.cells #[.slice A7 1 c7, .slice none 0 0] 25 (0, 0)) := by rw [hwz, ← hy]; exact blk_new w7 _
      have HBZ := Lib.hid (HB7.out.trans (hbz.mono HB7.out.size))
      have hxz := (HBZ.out.block x (blk_lt X4.out)).trans X4.out
      have HEZ := Lib.hid (HER4.out.below HBZ.out)
      have HGZ := Lib.hid (HG.out.below HBZ.out)
      have HE7 : Hid (Ez wz (.slice A7 1 c7) [m.edges.getD i zedge]) := by show Ez _ _ _; rw [HGE.out]; exact HE7'.out.below hbz
      have HE1Z := Lib.hid (Ez.one HEZ.out HIL.out)
      have Z0 : Hid (wz.cell? ⟨x, 0, none⟩ = some (.slice (some ad) n ce)) := blk_cell hxz 0
      have Z1 : Hid (wz.cell? ⟨x, 1, none⟩ = some (.slice Ad nd cd)) := blk_cell hxz 1
      have Z2 : Hid (wz.cell? ⟨y, 0, none⟩ = some (.slice A7 1 c7)) := blk_cell hyz 0
      have Z3 : Hid (wz.cell? ⟨y, 1, none⟩ = some (.slice none 0 0)) := blk_cell hyz 1
      have HBD : Hid (Below wz.heap.size wz wz.drew) := Below.drew (Below.refl _ _)
      have HWZ := Lib.hid hwz
      clear hbz hyz hxz hwz HE7'
      go_upto_region 10 with (fail)
      rw [← HWZ.out]
      try rw [hy]
      clear hy
      have hw1 : IntKind.i64.wrap ((i : Int) + 1) = (i : Int) + 1 := IntWalk.i64_in _ (by omega)
      have hw2 : wrap64 ((i : Int) + 1) = (i : Int) + 1 := IntWalk.wrap64_in _ (by omega)
      refine start_ (n := 20) (S := fun w' => Below wz.heap.size wz w' ∧ w'.cell? ⟨x, 0, none⟩ = some (.slice (some ad) n ce) ∧ w'.cell? ⟨x, 1, none⟩ = some (.slice Ad nd cd) ∧ w'.cell? ⟨y, 0, none⟩ = some (.slice A7 1 c7) ∧ w'.cell? ⟨y, 1, none⟩ = some (.slice none 0 0)) (ds := []) #[false, false, false, false, false, false, false, false, false, false, false, false, false, false, false, false, false, false, false, false] (by kernel_rfl) rfl rfl ⟨HBD.out, Z0.out, Z1.out, Z2.out, Z3.out⟩ (fun hHeld => ?_)
      refine pure_ (i := 1) (N := some 50) (v := ?_) (a' := ?_) #[false, true, false, false, false, false, false, false, false, false, false, false, false, false, false, false, false, false, false, false] rfl rfl (by kernel_rfl) (fun _ _ _ h => h) (Or.inl ⟨by rfl, ?_⟩) ?_ ?_
      rotate_left
      · intro w'
        go_simp
        with_reducible rfl
      rotate_left
      · simp only [Act.put, List.setIfInBounds_toArray, List.set_cons_zero, List.set_cons_succ, i64_w, i32_w]
        rfl
      refine pure_ (i := 3) (N := some 52) (v := ?_) (a' := ?_) #[false, true, false, true, false, false, false, false, false, false, false, false, false, false, false, false, false, false, false, false] rfl rfl (by kernel_rfl) (fun _ _ _ h => h) (Or.inl ⟨by rfl, ?_⟩) ?_ ?_
      rotate_left
      · intro w'
        go_simp
        with_reducible rfl
      rotate_left
      · simp only [Act.put, List.setIfInBounds_toArray, List.set_cons_zero, List.set_cons_succ, i64_w, i32_w]
        rfl
      refine pure_ (i := 4) (N := some 53) (v := ?_) (a' := ?_) #[false, true, false, true, true, false, false, false, false, false, false, false, false, false, false, false, false, false, false, false] rfl rfl (by kernel_rfl) (fun _ _ _ h => h) (Or.inl ⟨by rfl, ?_⟩) ?_ ?_
      rotate_left
      · intro w'
        go_simp
        with_reducible rfl
      rotate_left
      · simp only [Act.put, List.setIfInBounds_toArray, List.set_cons_zero, List.set_cons_succ, i64_w, i32_w]
        rfl
      refine pure_ (i := 5) (N := some 54) (v := ?_) (a' := ?_) #[false, true, false, true, true, true, false, false, false, false, false, false, false, false, false, false, false, false, false, false] rfl rfl (by kernel_rfl) (fun _ _ _ h => h) (Or.inl ⟨by rfl, ?_⟩) ?_ ?_
      rotate_left
      · intro w'
        go_simp
        with_reducible rfl
      rotate_left
      · simp only [Act.put, List.setIfInBounds_toArray, List.set_cons_zero, List.set_cons_succ, i64_w, i32_w]
        rfl
      refine take_ (i := 0) (N := some 49) (v := ?_) (a' := ?_) #[true, true, false, true, true, true, false, false, false, false, false, false, false, false, false, false, false, false, false, false] rfl rfl (by kernel_rfl) (fun _ _ _ h => h) (Or.inl ⟨by rfl, ?_⟩) hHeld ?_ ?_
      rotate_left
      · rintro w' ⟨s0, s1, s2, s3, s4⟩
        go_simp
        with_reducible rfl
      rotate_left
      · simp only [Act.put, List.setIfInBounds_toArray, List.set_cons_zero, List.set_cons_succ, i64_w, i32_w]
        rfl
      refine take_ (i := 2) (N := some 51) (v := ?_) (a' := ?_) #[true, true, true, true, true, true, false, false, false, false, false, false, false, false, false, false, false, false, false, false] rfl rfl (by kernel_rfl) (fun _ _ _ h => h) (Or.inl ⟨by rfl, ?_⟩) hHeld ?_ ?_
      rotate_left
      · rintro w' ⟨s0, s1, s2, s3, s4⟩
        go_simp
        with_reducible rfl
      rotate_left
      · simp only [Act.put, List.setIfInBounds_toArray, List.set_cons_zero, List.set_cons_succ, i64_w, i32_w]
        rfl
      refine pure_ (i := 6) (N := some 55) (v := ?_) (a' := ?_) #[true, true, true, true, true, true, true, false, false, false, false, false, false, false, false, false, false, false, false, false] rfl rfl (by kernel_rfl) (fun _ _ _ h => h) (Or.inl ⟨by rfl, ?_⟩) ?_ ?_
      rotate_left
      · intro w'
        go_simp
        with_reducible rfl
      rotate_left
      · simp only [Act.put, List.setIfInBounds_toArray, List.set_cons_zero, List.set_cons_succ, i64_w, i32_w]
        rfl
      refine pure_ (i := 7) (N := some 56) (v := ?_) (a' := ?_) #[true, true, true, true, true, true, true, true, false, false, false, false, false, false, false, false, false, false, false, false] rfl rfl (by kernel_rfl) (fun _ _ _ h => h) (Or.inl ⟨by rfl, ?_⟩) ?_ ?_
      rotate_left
      · intro w'
        go_simp
        with_reducible rfl
      rotate_left
      · simp only [Act.put, List.setIfInBounds_toArray, List.set_cons_zero, List.set_cons_succ, i64_w, i32_w]
        rfl
      refine one_ (i := 8) (N := some 57) #[true, true, true, true, true, true, true, true, true, false, false, false, false, false, false, false, false, false, false, false] rfl rfl (by kernel_rfl) (by decide) (fun K hK => ?_)
      refine goes_ Try.func33 (by kernel_rfl) rfl #[.agg #[.slice A7 1 c7, .slice none 0 0], .agg #[.slice (some (ad.add (i * 6))) 1 (ce - i), .slice none 0 0]] (by rfl) rfl rfl (by first | (simp only [List.map_toArray, List.map_cons, List.map_nil]; done) | (simp only [List.map_toArray, List.map_cons, List.map_nil]; rfl) | rfl) ?_
      with_reducible refine (rsame_any [m.edges.getD i zedge] [] _ _ _ _ _ (HE7.out.below hHeld.1) (HE1Z.out.below hHeld.1) (ss_nil _) (ss_nil _)).mono ?_
      rintro e w8 ⟨rfl, b8⟩
      refine ⟨_, rfl, ?_⟩
      have h8 := hHeld.1.trans (b8.mono hHeld.1.size)
      clear b8
      refine hK.out _ _ ⟨h8, pw_cell_below (h8) Z0.out, pw_cell_below (h8) Z1.out, pw_cell_below (h8) Z2.out, pw_cell_below (h8) Z3.out⟩ (fun hHeld => ?_)
      clear hK K
      refine norm_ (a' := ?_) ?_ ?_
      rotate_left
      · show Act.put _ (some 57) _ = _
        simp only [Act.put, List.setIfInBounds_toArray, List.set_cons_zero, List.set_cons_succ, i64_w, i32_w]
        rfl
      refine pure_ (i := 9) (N := some 58) (v := ?_) (a' := ?_) #[true, true, true, true, true, true, true, true, true, true, false, false, false, false, false, false, false, false, false, false] rfl rfl (by kernel_rfl) (fun _ _ _ h => h) (Or.inl ⟨by rfl, ?_⟩) ?_ ?_
      rotate_left
      · intro w'
        go_simp
        with_reducible rfl
      rotate_left
      · simp only [Act.put, List.setIfInBounds_toArray, List.set_cons_zero, List.set_cons_succ, i64_w, i32_w]
        rfl
      refine pure_ (i := 10) (N := some 59) (v := ?_) (a' := ?_) #[true, true, true, true, true, true, true, true, true, true, true, false, false, false, false, false, false, false, false, false] rfl rfl (by kernel_rfl) (fun _ _ _ h => h) (Or.inl ⟨by rfl, ?_⟩) ?_ ?_
      rotate_left
      · intro w'
        go_simp
        with_reducible rfl
      rotate_left
      · simp only [Act.put, List.setIfInBounds_toArray, List.set_cons_zero, List.set_cons_succ, i64_w, i32_w]
        rfl
      refine pure_ (i := 11) (N := some 60) (v := ?_) (a' := ?_) #[true, true, true, true, true, true, true, true, true, true, true, true, false, false, false, false, false, false, false, false] rfl rfl (by kernel_rfl) (fun _ _ _ h => h) (Or.inl ⟨by rfl, ?_⟩) ?_ ?_
      rotate_left
      · intro w'
        go_simp
        with_reducible rfl
      rotate_left
      · simp only [Act.put, List.setIfInBounds_toArray, List.set_cons_zero, List.set_cons_succ, i64_w, i32_w]
        rfl
      refine pure_ (i := 12) (N := some 61) (v := ?_) (a' := ?_) #[true, true, true, true, true, true, true, true, true, true, true, true, true, false, false, false, false, false, false, false] rfl rfl (by kernel_rfl) (fun _ _ _ h => h) (Or.inl ⟨by rfl, ?_⟩) ?_ ?_
      rotate_left
      · intro w'
        go_simp
        with_reducible rfl
      rotate_left
      · simp only [Act.put, List.setIfInBounds_toArray, List.set_cons_zero, List.set_cons_succ, i64_w, i32_w]
        rfl
      refine pure_ (i := 15) (N := some 64) (v := ?_) (a' := ?_) #[true, true, true, true, true, true, true, true, true, true, true, true, true, false, false, true, false, false, false, false] rfl rfl (by kernel_rfl) (fun _ _ _ h => h) (Or.inl ⟨by rfl, ?_⟩) ?_ ?_
      rotate_left
      · intro w'
        go_simp
        with_reducible rfl
      rotate_left
      · simp only [Act.put, List.setIfInBounds_toArray, List.set_cons_zero, List.set_cons_succ, i64_w, i32_w]
        rfl
      refine take_ (i := 14) (N := some 63) (v := ?_) (a' := ?_) #[true, true, true, true, true, true, true, true, true, true, true, true, true, false, true, true, false, false, false, false] rfl rfl (by kernel_rfl) (fun _ _ _ h => h) (Or.inl ⟨by rfl, ?_⟩) hHeld ?_ ?_
      rotate_left
      · rintro w' ⟨s0, s1, s2, s3, s4⟩
        go_simp
        with_reducible rfl
      rotate_left
      · simp only [Act.put, List.setIfInBounds_toArray, List.set_cons_zero, List.set_cons_succ, i64_w, i32_w]
        rfl
      refine one_ (i := 13) (N := some 62) #[true, true, true, true, true, true, true, true, true, true, true, true, true, true, true, true, false, false, false, false] rfl rfl (by kernel_rfl) (by decide) (fun K hK => ?_)
      refine goes_ Try.func19 (by kernel_rfl) rfl #[.pointer (some ⟨g, 0, none⟩), .int .i64 i] (by rfl) rfl rfl (by first | (simp only [List.map_toArray, List.map_cons, List.map_nil]; done) | (simp only [List.map_toArray, List.map_cons, List.map_nil]; rfl) | rfl) ?_
      with_reducible refine (above_any g m i _ (HGZ.out.below hHeld.1) HSG.out HU.out HIL.out).mono ?_
      rintro e w13 ⟨v13, lr, rfl, hlr, r13, b13⟩
      refine ⟨_, rfl, ?_⟩
      have h13 := hHeld.1.trans (b13.mono hHeld.1.size)
      have HLR := Lib.hid hlr
      have HR13 := Lib.hid (r_ss r13)
      clear r13 hlr
      clear b13
      refine hK.out _ _ ⟨h13, pw_cell_below (h13) Z0.out, pw_cell_below (h13) Z1.out, pw_cell_below (h13) Z2.out, pw_cell_below (h13) Z3.out⟩ (fun hHeld => ?_)
      clear hK K
      refine norm_ (a' := ?_) ?_ ?_
      rotate_left
      · show Act.put _ (some 62) _ = _
        simp only [Act.put, List.setIfInBounds_toArray, List.set_cons_zero, List.set_cons_succ, i64_w, i32_w]
        rfl
      refine one_ (i := 16) (N := some 65) #[true, true, true, true, true, true, true, true, true, true, true, true, true, true, true, true, true, false, false, false] rfl rfl (by kernel_rfl) (by decide) (fun K hK => ?_)
      refine goes_ Try.func34 (by kernel_rfl) rfl #[.agg #[.slice (some ad) n ce, .slice Ad nd cd], .int .i64 i] (by rfl) rfl rfl (by first | (simp only [List.map_toArray, List.map_cons, List.map_nil]; done) | (simp only [List.map_toArray, List.map_cons, List.map_nil]; rfl) | rfl) ?_
      with_reducible refine (rabove_any _ m i _ _ _ rfl (HEZ.out.below hHeld.1) (by have := HFM.out.edges; omega) HSG.out.each HSG.out.all HIL.out).mono ?_
      rintro e w16 ⟨⟨v16, fa, rfl, hfa, r16⟩, b16⟩
      refine ⟨_, rfl, ?_⟩
      have h16 := hHeld.1.trans (b16.mono hHeld.1.size)
      have HFA := Lib.hid (above_told HU.out hfa HLR.out)
      have HR13b := Lib.hid (HR13.out.below b16)
      have HR16 : Hid (Ss w16 v16 (sortS (outsOf m.edges lr))) := by show Ss _ _ _; rw [HFA.out]; exact r16
      clear r16 hfa
      clear b16
      refine hK.out _ _ ⟨h16, pw_cell_below (h16) Z0.out, pw_cell_below (h16) Z1.out, pw_cell_below (h16) Z2.out, pw_cell_below (h16) Z3.out⟩ (fun hHeld => ?_)
      clear hK K
      refine norm_ (a' := ?_) ?_ ?_
      rotate_left
      · show Act.put _ (some 65) _ = _
        simp only [Act.put, List.setIfInBounds_toArray, List.set_cons_zero, List.set_cons_succ, i64_w, i32_w]
        rfl
      refine one_ (i := 17) (N := some 66) #[true, true, true, true, true, true, true, true, true, true, true, true, true, true, true, true, true, true, false, false] rfl rfl (by kernel_rfl) (by decide) (fun K hK => ?_)
      refine goes_ Try.func18 (by kernel_rfl) rfl #[v13, v16] (by rfl) rfl rfl (by first | (simp only [List.map_toArray, List.map_cons, List.map_nil]; done) | (simp only [List.map_toArray, List.map_cons, List.map_nil]; rfl) | rfl) ?_
      with_reducible refine (rnames_any _ _ _ _ _ HR13b.out HR16.out).mono ?_
      rintro e w17 ⟨rfl, b17⟩
      refine ⟨_, rfl, ?_⟩
      have h17 := hHeld.1.trans (b17.mono hHeld.1.size)
      rw [show decide (sortS (outsOf m.edges lr) = sortS (outsOf m.edges lr)) = true from decide_eq_true rfl]
      have HB17 := Lib.hid h17
      clear b17
      refine hK.out _ _ ⟨h17, pw_cell_below (h17) Z0.out, pw_cell_below (h17) Z1.out, pw_cell_below (h17) Z2.out, pw_cell_below (h17) Z3.out⟩ (fun hHeld => ?_)
      clear hK K
      refine norm_ (a' := ?_) ?_ ?_
      rotate_left
      · show Act.put _ (some 66) _ = _
        simp only [Act.put, List.setIfInBounds_toArray, List.set_cons_zero, List.set_cons_succ, i64_w, i32_w]
        rfl
      refine pure_ (i := 18) (N := some 67) (v := ?_) (a' := ?_) #[true, true, true, true, true, true, true, true, true, true, true, true, true, true, true, true, true, true, true, false] rfl rfl (by kernel_rfl) (fun _ _ _ h => h) (Or.inl ⟨by rfl, ?_⟩) ?_ ?_
      rotate_left
      · intro w'
        go_simp
        with_reducible rfl
      rotate_left
      · simp only [Act.put, List.setIfInBounds_toArray, List.set_cons_zero, List.set_cons_succ, i64_w, i32_w]
        rfl
      refine pure_ (i := 19) (N := some 68) (v := ?_) (a' := ?_) #[true, true, true, true, true, true, true, true, true, true, true, true, true, true, true, true, true, true, true, true] rfl rfl (by kernel_rfl) (fun _ _ _ h => h) (Or.inl ⟨by rfl, ?_⟩) ?_ ?_
      rotate_left
      · intro w'
        go_simp
        with_reducible rfl
      rotate_left
      · simp only [Act.put, List.setIfInBounds_toArray, List.set_cons_zero, List.set_cons_succ, i64_w, i32_w]
        rfl
      refine done_ (by kernel_rfl) ?_
      clear hHeld hw1 hw2 hcut
      have HBF := Lib.hid (HBZ.out.trans (HB17.out.mono HBZ.out.size))
      go_wp2
      go_roundw
      case rel => exact ⟨i + 1, by omega, by go_num, HBF.out⟩
      case measure => simp [intOf]; omega
    · have HGR := Lib.hid (HG.out.below HB.out)
      have HBR := Lib.hid (HB4.out.trans (HB.out.mono HB4.out.size))
      by_cases a0 : a < 0
      · have d1 : decide (a < 0) = true := decide_eq_true a0
        have hout : a < 0 ∨ (m.edges.length : Int) ≤ a := .inl a0
        clear a0
        have HOUT := Lib.hid hout
        clear hout
        go_wp2_with fail
        refine (edge_out g m a _ HGR.out HOUT.out).mono ?_
        rintro e w5 ⟨rfl, b5⟩
        have HG5 := Lib.hid (HGR.out.below b5)
        have HB5 := Lib.hid (HBR.out.trans (b5.mono HBR.out.size))
        obtain ⟨z, hz⟩ : ∃ z, w5.heap.size = z := ⟨_, rfl⟩
        obtain ⟨wt, hwt⟩ : ∃ wt, wt = w5.alloc (.cells #[.slice none 0 0, .slice none 0 0, .slice none 0 0, .slice none 0 0, .string ⟨#[]⟩, .string ⟨#[]⟩] 44) := ⟨_, rfl⟩
        have hbt : Below w5.heap.size w5 wt := by rw [hwt]; exact below_alloc (Below.refl _ _) _
        have hzt : wt.heap[z]? = some (.cells #[.slice none 0 0, .slice none 0 0, .slice none 0 0, .slice none 0 0, .string ⟨#[]⟩, .string ⟨#[]⟩] 44 (0, 0)) := by rw [hwt, ← hz]; exact blk_new w5 _
        have HBT := Lib.hid (HB5.out.trans (hbt.mono HB5.out.size))
        have HGT := Lib.hid (HG5.out.below hbt)
        have HWT := Lib.hid hwt
        have e0 := (show wt.cell? ⟨z, 0, none⟩ = some (.slice none 0 0) from blk_cell hzt 0)
        have e4 := (show wt.cell? ⟨z, 4, none⟩ = some (.string ⟨#[]⟩) from blk_cell hzt 4)
        clear b5 hbt hzt hwt q0 d1
        go_upto_region 14 with (fail)
        rw [← HWT.out]
        try rw [hz]
        clear hz
        go_wp2_with fail
        refine (above_out g m a _ HGT.out HOUT.out).mono ?_
        rintro e w6 ⟨rfl, hw6⟩
        have hw6 := hw6.symm
        subst hw6
        clear e0 e4
        have hfield : ∀ W : World, (Instr.field 44 zagg 0).run Try.prog W = .ok (.slice none 0 0) W := fun W => by kernel_rfl
        go_wp2_with fail
        refine (plan_nil _).mono ?_
        rintro e w8 ⟨rfl, hw8⟩
        have hw8 := hw8.symm
        subst hw8
        go_wp2_with fail
        refine (maker_nil _ _).mono ?_
        rintro e w8 ⟨rfl, hw8⟩
        have hw8 := hw8.symm
        subst hw8
        go_wp2_with fail
        refine (edge_nil _ _).mono ?_
        rintro e w9 ⟨rfl, b9⟩
        have HB9 := Lib.hid (HBT.out.trans (b9.mono HBT.out.size))
        clear b9
        go_wp2_with fail
        refine (sources_nil _).mono ?_
        rintro e w10 ⟨rfl, b10⟩
        have HB10 := Lib.hid (HB9.out.trans (b10.mono HB9.out.size))
        clear b10
        go_wp2_with fail
        refine (outs_nil _).mono ?_
        rintro e w8 ⟨rfl, hw8⟩
        have hw8 := hw8.symm
        subst hw8
        go_wp2_with fail
        refine (targets_nil _).mono ?_
        rintro e w8 ⟨rfl, hw8⟩
        have hw8 := hw8.symm
        subst hw8
        go_wp2_with fail
        refine (above_nil _ _).mono ?_
        rintro e w8 ⟨rfl, hw8⟩
        have hw8 := hw8.symm
        subst hw8
        go_wp2_with fail
        refine (awake_any _).mono ?_
        rintro e w11 ⟨rfl, b11⟩
        have HB11 := Lib.hid (HB10.out.trans (b11.mono HB10.out.size))
        clear b11
        go_wp2
        go_ret
        exact ⟨rfl, HB11.out⟩
      · have d1 : decide (a < 0) = false := decide_eq_false a0
        by_cases an : (n : Int) ≤ a
        · have d2 : decide ((n : Int) ≤ a) = true := decide_eq_true an
          have hout : a < 0 ∨ (m.edges.length : Int) ≤ a := .inr (by rw [← HN.out]; exact an)
          clear a0 an
          have HOUT := Lib.hid hout
          clear hout
          go_wp2_with fail
          refine (edge_out g m a _ HGR.out HOUT.out).mono ?_
          rintro e w5 ⟨rfl, b5⟩
          have HG5 := Lib.hid (HGR.out.below b5)
          have HB5 := Lib.hid (HBR.out.trans (b5.mono HBR.out.size))
          obtain ⟨z, hz⟩ : ∃ z, w5.heap.size = z := ⟨_, rfl⟩
          obtain ⟨wt, hwt⟩ : ∃ wt, wt = w5.alloc (.cells #[.slice none 0 0, .slice none 0 0, .slice none 0 0, .slice none 0 0, .string ⟨#[]⟩, .string ⟨#[]⟩] 44) := ⟨_, rfl⟩
          have hbt : Below w5.heap.size w5 wt := by rw [hwt]; exact below_alloc (Below.refl _ _) _
          have hzt : wt.heap[z]? = some (.cells #[.slice none 0 0, .slice none 0 0, .slice none 0 0, .slice none 0 0, .string ⟨#[]⟩, .string ⟨#[]⟩] 44 (0, 0)) := by rw [hwt, ← hz]; exact blk_new w5 _
          have HBT := Lib.hid (HB5.out.trans (hbt.mono HB5.out.size))
          have HGT := Lib.hid (HG5.out.below hbt)
          have HWT := Lib.hid hwt
          have e0 := (show wt.cell? ⟨z, 0, none⟩ = some (.slice none 0 0) from blk_cell hzt 0)
          have e4 := (show wt.cell? ⟨z, 4, none⟩ = some (.string ⟨#[]⟩) from blk_cell hzt 4)
          clear b5 hbt hzt hwt q0 d1
          go_upto_region 14 with (fail)
          rw [← HWT.out]
          try rw [hz]
          clear hz
          go_wp2_with fail
          refine (above_out g m a _ HGT.out HOUT.out).mono ?_
          rintro e w6 ⟨rfl, hw6⟩
          have hw6 := hw6.symm
          subst hw6
          clear e0 e4
          have hfield : ∀ W : World, (Instr.field 44 zagg 0).run Try.prog W = .ok (.slice none 0 0) W := fun W => by kernel_rfl
          go_wp2_with fail
          refine (plan_nil _).mono ?_
          rintro e w8 ⟨rfl, hw8⟩
          have hw8 := hw8.symm
          subst hw8
          go_wp2_with fail
          refine (maker_nil _ _).mono ?_
          rintro e w8 ⟨rfl, hw8⟩
          have hw8 := hw8.symm
          subst hw8
          go_wp2_with fail
          refine (edge_nil _ _).mono ?_
          rintro e w9 ⟨rfl, b9⟩
          have HB9 := Lib.hid (HBT.out.trans (b9.mono HBT.out.size))
          clear b9
          go_wp2_with fail
          refine (sources_nil _).mono ?_
          rintro e w10 ⟨rfl, b10⟩
          have HB10 := Lib.hid (HB9.out.trans (b10.mono HB9.out.size))
          clear b10
          go_wp2_with fail
          refine (outs_nil _).mono ?_
          rintro e w8 ⟨rfl, hw8⟩
          have hw8 := hw8.symm
          subst hw8
          go_wp2_with fail
          refine (targets_nil _).mono ?_
          rintro e w8 ⟨rfl, hw8⟩
          have hw8 := hw8.symm
          subst hw8
          go_wp2_with fail
          refine (above_nil _ _).mono ?_
          rintro e w8 ⟨rfl, hw8⟩
          have hw8 := hw8.symm
          subst hw8
          go_wp2_with fail
          refine (awake_any _).mono ?_
          rintro e w11 ⟨rfl, b11⟩
          have HB11 := Lib.hid (HB10.out.trans (b11.mono HB10.out.size))
          clear b11
          go_wp2
          go_ret
          exact ⟨rfl, HB11.out⟩
        · have d2 : decide ((n : Int) ≤ a) = false := decide_eq_false an
          clear a0 an
          obtain ⟨wt, hwt⟩ : ∃ wt, wt = wr := ⟨_, rfl⟩
          subst hwt
          have HBT := HBR
          have hfield : ∀ W : World, (Instr.field 44 zagg 0).run Try.prog W = .ok (.slice none 0 0) W := fun W => by kernel_rfl
          go_wp2_with fail
          refine (plan_nil _).mono ?_
          rintro e w8 ⟨rfl, hw8⟩
          have hw8 := hw8.symm
          subst hw8
          go_wp2_with fail
          refine (maker_nil _ _).mono ?_
          rintro e w8 ⟨rfl, hw8⟩
          have hw8 := hw8.symm
          subst hw8
          go_wp2_with fail
          refine (edge_nil _ _).mono ?_
          rintro e w9 ⟨rfl, b9⟩
          have HB9 := Lib.hid (HBT.out.trans (b9.mono HBT.out.size))
          clear b9
          go_wp2_with fail
          refine (sources_nil _).mono ?_
          rintro e w10 ⟨rfl, b10⟩
          have HB10 := Lib.hid (HB9.out.trans (b10.mono HB9.out.size))
          clear b10
          go_wp2_with fail
          refine (outs_nil _).mono ?_
          rintro e w8 ⟨rfl, hw8⟩
          have hw8 := hw8.symm
          subst hw8
          go_wp2_with fail
          refine (targets_nil _).mono ?_
          rintro e w8 ⟨rfl, hw8⟩
          have hw8 := hw8.symm
          subst hw8
          go_wp2_with fail
          refine (above_nil _ _).mono ?_
          rintro e w8 ⟨rfl, hw8⟩
          have hw8 := hw8.symm
          subst hw8
          go_wp2_with fail
          refine (awake_any _).mono ?_
          rintro e w11 ⟨rfl, b11⟩
          have HB11 := Lib.hid (HB10.out.trans (b11.mono HB10.out.size))
          clear b11
          go_wp2
          go_ret
          exact ⟨rfl, HB11.out⟩
theorem edges_row (v : Value) (a : Int) (m : ManV) (w : World) (hm : ManIs w v m) (ha : (Lit.int .i64 a).wf = true) :
    Calls Try.prog 9 #[v, .int .i64 a] w fun e w' => e = .returned (.bool true) ∧ Below w.heap.size w w' := by
  simp [Lit.wf, IntKind.min, IntKind.max, IntKind.bits, IntKind.signed] at ha
  exact edges_any v a m w hm (by omega) (by omega)
end Go.Proofs.Ytifbkojapfighaa.Gr
