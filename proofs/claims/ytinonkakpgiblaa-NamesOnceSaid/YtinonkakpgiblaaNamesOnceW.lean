/- The law NamesOnce returns true (a walk). -/
import Derived.Test.YtinonkakpgiblaaNamNames
namespace Go.Proofs.Ytinonkakpgiblaa.Nam
open Go.RowKit Go.Proofs.YtinonkakpgiblaaW.PrintWords Go.Proofs.YtinonkakpgiblaaW.PrintLast Go.Proofs.Ytinonkakpgiblaa.Base Go.Proofs.Ytinonkakpgiblaa.Pack Go.Maps
set_option linter.unusedVariables false
set_option linter.unusedSimpArgs false

/-- One that lies in a block of its own is a row of one. -/
theorem Dz.one {w : World} {d : DepV} {A : Option Addr} {n c : Nat} (hs : Ss w (.slice A n c) d.deps) :
    Dz (w.alloc (.cells #[.string d.out, .int .i64 d.time, .slice A n c] 24)) (.slice (some ⟨w.heap.size, 0, none⟩) 1 1) [d] := by
  have hg := blk_new w (.cells #[.string d.out, .int .i64 d.time, .slice A n c] 24)
  refine ⟨_, _, rfl, Nat.le_refl _, by simp, fun _ => ⟨_, rfl, fun i hi => ?_⟩⟩
  obtain rfl : i = 0 := by simp at hi; exact hi
  exact ⟨_, blk_cell hg 0, blk_cell hg 1, blk_cell hg 2, hs.below (below_alloc (Below.refl _ _) _)⟩
theorem plan_known {ns : List ByteArray} {d : DepV} (he : planE d = 0) (hd : ∀ s ∈ d.out :: d.deps, s ∈ ns) : (planL ns d).length = 1 := by
  unfold planL
  have h := foldN_old (d.out :: d.deps) ns hd
  have hf : freshN ns d = [] := by
    unfold freshN allN
    rw [h, List.drop_length]
  rw [if_pos he, hf]
  rfl
theorem planE_time {d : DepV} (he : planE d = 0) (t : Int) (h0 : 0 ≤ t) (h1 : t < 4611686018427387904) : planE ⟨d.out, t, d.deps⟩ = 0 := by
  unfold planE at he
  split at he
  · cases he
  · split at he
    · cases he
    · rename_i hl
      refine planE_ok ?_ hl
      unfold badTime
      simp only
      omega
--BEGIN WALK
set_option maxRecDepth 100000 in
set_option maxHeartbeats 4000000 in
theorem NamesOnce_any (v : Value) (d : DepV) (t : Nat) (w : World) (h : DepIs w v d) (hf : FitD d) (ht : t < 4294967296) :
    Calls Try.prog 3 #[v, .int .u32 (t : Int)] w fun e w' => e = .returned (.bool true) ∧ Below w.heap.size w w' := by
  obtain ⟨vd, rfl, hs⟩ := h
  obtain ⟨Ad, cd, rfl, hcd, hmd⟩ := ss_len hs
  obtain ⟨nd, hnd⟩ : ∃ nd, nd = d.deps.length := ⟨_, rfl⟩
  rw [← hnd] at hcd hmd hs ⊢
  obtain ⟨x, hx⟩ : ∃ x, w.heap.size = x := ⟨_, rfl⟩
  obtain ⟨Wb, hWb⟩ : ∃ Wb, Wb = w.alloc (.cells #[.string d.out, .int .i64 d.time, .slice Ad nd cd] 24) := ⟨_, rfl⟩
  have hb0 : Below w.heap.size w Wb := by rw [hWb]; exact below_alloc (Below.refl _ _) _
  have hXb : Wb.heap[x]? = some (.cells #[.string d.out, .int .i64 d.time, .slice Ad nd cd] 24 (0, 0)) := by rw [hWb, ← hx]; exact blk_new w _
  have XB := Lib.hid hXb
  have HB0 := Lib.hid hb0
  have HSS := Lib.hid (hs.below hb0)
  have HX := Lib.hid hx
  have HWB := Lib.hid hWb
  have HND := Lib.hid hnd
  have HF := Lib.hid hf
  have HDI : Hid (DepIs Wb (.agg #[.string d.out, .int .i64 d.time, .slice Ad nd cd]) d) := ⟨_, rfl, HSS.out⟩
  have q0 := blk_cell hXb 0
  have q1 := blk_cell hXb 1
  have q2 := blk_cell hXb 2
  clear hs hb0 hXb hWb hnd hf
  go_enter Try.func3, Try.ntmps3
  go_upto_region 1 with (fail)
  rw [← HWB.out]
  try rw [hx]
  clear hx
  go_wp2_with fail
  --S1
  refine (brief_any _ d _ HDI.out HF.out).mono ?_
  rintro e w1 ⟨he, hb1⟩
  have HB1 := Lib.hid (HB0.out.trans (hb1.mono HB0.out.size))
  have XB1 := Lib.hid ((hb1.block _ (blk_lt XB.out)).trans XB.out)
  have SS1 := Lib.hid (HSS.out.below hb1)
  clear hb1 q0 q1 q2
  rcases he with ⟨rfl, hbr⟩ | rfl
  case inr =>
    go_wp2
    go_ret
    exact ⟨rfl, HB1.out⟩
  have HBR := Lib.hid hbr
  clear hbr
  have hlt : x < w1.heap.size := blk_lt XB1.out
  have q0 := blk_cell XB1.out 0
  have q1 := blk_cell XB1.out 1
  have q2 := blk_cell XB1.out 2
  obtain ⟨w2, hw2⟩ : ∃ w2, w2 = w1.alloc (.cells #[.string d.out, .int .i64 d.time, .slice Ad nd cd] 24) := ⟨_, rfl⟩
  have hb2 : Below w1.heap.size w1 w2 := by rw [hw2]; exact below_alloc (Below.refl _ _) _
  have HDZ : Hid (Dz w2 (.slice (some ⟨w1.heap.size, 0, none⟩) 1 1) [d]) := by show Dz _ _ _; rw [hw2]; exact Dz.one SS1.out
  have HB2 := Lib.hid (HB1.out.trans (hb2.mono HB1.out.size))
  have XB2 := Lib.hid ((hb2.block _ (blk_lt XB1.out)).trans XB1.out)
  have SS2 := Lib.hid (SS1.out.below hb2)
  have HW2 := Lib.hid hw2
  clear hb2 hw2
  go_wp2_with fail
  rw [← HW2.out]
  --S2
  refine (told_any _ [d] _ HDZ.out (fun y hy => by rw [List.mem_singleton.1 hy]; exact HF.out) (fun y hy => by rw [List.mem_singleton.1 hy]; exact HBR.out) (by simp)).mono ?_
  rintro e w3 ⟨g, S, rfl, hk, hS, hb3⟩
  have HK3 : Hid (Bk S 60 w3 g (tell book0 d)) := hk
  have HB3 := Lib.hid (HB2.out.trans (hb3.mono HB2.out.size))
  have XB3 := Lib.hid ((hb3.block _ (blk_lt XB2.out)).trans XB2.out)
  have SS3 := Lib.hid (SS2.out.below hb3)
  have Q0 := Lib.hid (show w3.cell? ⟨x, 0, none⟩ = some (.string d.out) from blk_cell XB3.out 0)
  have Q1 := Lib.hid (show w3.cell? ⟨x, 1, none⟩ = some (.int .i64 d.time) from blk_cell XB3.out 1)
  have Q2 := Lib.hid (show w3.cell? ⟨x, 2, none⟩ = some (.slice Ad nd cd) from blk_cell XB3.out 2)
  have HD3 : Hid (DepIs w3 (.agg #[.string d.out, .int .i64 d.time, .slice Ad nd cd]) d) := ⟨_, rfl, SS3.out⟩
  clear hk hS hb3 q0 q1 q2 hlt HDZ
  go_wp2
  --S3
  refine start_ (n := 9) (S := fun w' => Below w3.heap.size w3 w' ∧ w'.cell? ⟨x, 0, none⟩ = some (.string d.out) ∧ w'.cell? ⟨x, 1, none⟩ = some (.int .i64 d.time) ∧ w'.cell? ⟨x, 2, none⟩ = some (.slice Ad nd cd)) (ds := []) #[false, false, false, false, false, false, false, false, false] (by kernel_rfl) rfl rfl ⟨Below.drew (Below.refl _ _), Q0.out, Q1.out, Q2.out⟩ (fun hHeld => ?_)
  refine take_ (i := 1) (N := some 25) (v := ?_) (a' := ?_) #[false, true, false, false, false, false, false, false, false] rfl rfl (by kernel_rfl) (fun _ _ _ h => h) (Or.inl ⟨by rfl, ?_⟩) hHeld ?_ ?_
  rotate_left
  · rintro w' ⟨s0, s1, s2, s3⟩
    go_simp
    with_reducible rfl
  rotate_left
  · simp only [Act.put, List.setIfInBounds_toArray, List.set_cons_zero, List.set_cons_succ, i64_w, i32_w]
    rfl
  refine one_ (i := 0) (N := some 24) #[true, true, false, false, false, false, false, false, false] rfl rfl (by kernel_rfl) (by decide) (fun K hK => ?_)
  refine goes_ Try.func11 (by kernel_rfl) rfl #[] (by rfl) rfl rfl (by first | (simp only [List.map_toArray, List.map_cons, List.map_nil]; done) | (simp only [List.map_toArray, List.map_cons, List.map_nil]; rfl) | rfl) ?_
  with_reducible refine (bnew_any _).mono ?_
  rintro e wn ⟨gn, rfl, kn, bn⟩
  refine ⟨_, rfl, ?_⟩
  have hbn := hHeld.1.trans (bn.mono hHeld.1.size)
  have HKN := Lib.hid kn
  have HBN := Lib.hid bn
  have HSN := Lib.hid hHeld.1.size
  clear kn bn
  refine hK.out _ _ ⟨hbn, pw_cell_below (hbn) Q0.out, pw_cell_below (hbn) Q1.out, pw_cell_below (hbn) Q2.out⟩ (fun hHeld => ?_)
  clear hK K
  refine norm_ (a' := ?_) ?_ ?_
  rotate_left
  · show Act.put _ (some 24) _ = _
    simp only [Act.put, List.setIfInBounds_toArray, List.set_cons_zero, List.set_cons_succ, i64_w, i32_w]
    rfl
  refine one_ (i := 2) (N := some 26) #[true, true, true, false, false, false, false, false, false] rfl rfl (by kernel_rfl) (by decide) (fun K hK => ?_)
  refine goes_ Try.func13 (by kernel_rfl) rfl #[.agg #[.string d.out, .int .i64 d.time, .slice Ad nd cd]] (by rfl) rfl rfl (by first | (simp only [List.map_toArray, List.map_cons, List.map_nil]; done) | (simp only [List.map_toArray, List.map_cons, List.map_nil]; rfl) | rfl) ?_
  with_reducible refine (given_any _ d _ (HD3.out.below hHeld.1) (by have := HBR.out.few; omega)).mono ?_
  rintro e wg ⟨vg, rfl, dg, bg⟩
  refine ⟨_, rfl, ?_⟩
  have hbg := hHeld.1.trans (bg.mono hHeld.1.size)
  have HDG := Lib.hid dg
  have HBG := Lib.hid bg
  clear dg bg
  refine hK.out _ _ ⟨hbg, pw_cell_below (hbg) Q0.out, pw_cell_below (hbg) Q1.out, pw_cell_below (hbg) Q2.out⟩ (fun hHeld => ?_)
  clear hK K
  refine norm_ (a' := ?_) ?_ ?_
  rotate_left
  · show Act.put _ (some 26) _ = _
    simp only [Act.put, List.setIfInBounds_toArray, List.set_cons_zero, List.set_cons_succ, i64_w, i32_w]
    rfl
  refine one_ (i := 3) (N := some 27) #[true, true, true, true, false, false, false, false, false] rfl rfl (by kernel_rfl) (by decide) (fun K hK => ?_)
  refine goes_ Try.func12 (by kernel_rfl) rfl #[.pointer (some ⟨gn, 0, none⟩), vg] (by rfl) rfl rfl (by first | (simp only [List.map_toArray, List.map_cons, List.map_nil]; done) | (simp only [List.map_toArray, List.map_cons, List.map_nil]; rfl) | rfl) ?_
  with_reducible refine (plan_any _ _ gn _ _ d _ (HKN.out.below HBG.out) HDG.out HF.out (by omega) (by have := HBR.out.few; omega)).mono ?_
  rintro e wp ⟨vp, rfl, rp⟩
  refine ⟨_, rfl, ?_⟩
  have hbp := hHeld.1.trans (rp.below.mono hHeld.1.size)
  obtain ⟨Ap, np, cp, rfl, hnp⟩ := rp.slice
  clear rp hnp
  refine hK.out _ _ ⟨hbp, pw_cell_below (hbp) Q0.out, pw_cell_below (hbp) Q1.out, pw_cell_below (hbp) Q2.out⟩ (fun hHeld => ?_)
  clear hK K
  refine norm_ (a' := ?_) ?_ ?_
  rotate_left
  · show Act.put _ (some 27) _ = _
    simp only [Act.put, List.setIfInBounds_toArray, List.set_cons_zero, List.set_cons_succ, i64_w, i32_w]
    rfl
  refine pure_ (i := 4) (N := some 23) (v := ?_) (a' := ?_) #[true, true, true, true, true, false, false, false, false] rfl rfl (by kernel_rfl) (fun _ _ _ h => h) (Or.inl ⟨by rfl, ?_⟩) ?_ ?_
  rotate_left
  · intro w'
    go_simp
    with_reducible rfl
  rotate_left
  · simp only [Act.put, List.setIfInBounds_toArray, List.set_cons_zero, List.set_cons_succ, i64_w, i32_w]
    rfl
  refine pure_ (i := 5) (N := some 28) (v := ?_) (a' := ?_) #[true, true, true, true, true, true, false, false, false] rfl rfl (by kernel_rfl) (fun _ _ _ h => h) (Or.inl ⟨by rfl, ?_⟩) ?_ ?_
  rotate_left
  · intro w'
    go_simp
    with_reducible rfl
  rotate_left
  · simp only [Act.put, List.setIfInBounds_toArray, List.set_cons_zero, List.set_cons_succ, i64_w, i32_w]
    rfl
  refine pure_ (i := 6) (N := some 29) (v := ?_) (a' := ?_) #[true, true, true, true, true, true, true, false, false] rfl rfl (by kernel_rfl) (fun _ _ _ h => h) (Or.inl ⟨by rfl, ?_⟩) ?_ ?_
  rotate_left
  · intro w'
    go_simp
    with_reducible rfl
  rotate_left
  · simp only [Act.put, List.setIfInBounds_toArray, List.set_cons_zero, List.set_cons_succ, i64_w, i32_w]
    rfl
  refine pure_ (i := 7) (N := some 7) (v := ?_) (a' := ?_) #[true, true, true, true, true, true, true, true, false] rfl rfl (by kernel_rfl) (fun _ _ _ h => h) (Or.inl ⟨by rfl, ?_⟩) ?_ ?_
  rotate_left
  · intro w'
    go_simp
    with_reducible rfl
  rotate_left
  · simp only [Act.put, List.setIfInBounds_toArray, List.set_cons_zero, List.set_cons_succ, i64_w, i32_w]
    rfl
  refine pure_ (i := 8) (N := some 8) (v := ?_) (a' := ?_) #[true, true, true, true, true, true, true, true, true] rfl rfl (by kernel_rfl) (fun _ _ _ h => h) (Or.inl ⟨by rfl, ?_⟩) ?_ ?_
  rotate_left
  · intro w'
    go_simp
    with_reducible rfl
  rotate_left
  · simp only [Act.put, List.setIfInBounds_toArray, List.set_cons_zero, List.set_cons_succ, i64_w, i32_w]
    rfl
  refine done_ (by kernel_rfl) ?_
  --S4
  obtain ⟨w4, hw4⟩ : ∃ w4, w4 = wp := ⟨_, rfl⟩
  subst hw4
  have HB4 := Lib.hid (HB3.out.trans (hHeld.1.mono HB3.out.size))
  have HK4 := Lib.hid (HK3.out.below hHeld.1)
  have XB4 := Lib.hid ((hHeld.1.block _ (blk_lt XB3.out)).trans XB3.out)
  have SS4 := Lib.hid (SS3.out.below hHeld.1)
  clear hHeld HKN HBN HSN HDG HBG
  by_cases hpe : planE d = 0
  case neg =>
    have hne : (planE d != 0) = true := by rw [bne_iff_ne]; exact hpe
    have HT : Hid (Bk S 60 w4 g book0) := by have h := HK4.out; rwa [show tell book0 d = book0 from if_neg hpe] at h
    clear hpe
    go_wp2_with fail
    refine (names_any S _ g book0 _ HT.out (by omega)).mono ?_
    rintro e w5 ⟨v5, rfl, r5, b5⟩
    obtain ⟨A5, c5, e5⟩ := Kd.R_slice r5
    have e5 : v5 = .slice A5 0 c5 := e5
    subst e5
    have HB5 := Lib.hid (HB4.out.trans (b5.mono HB4.out.size))
    clear r5 b5
    go_wp2_with fail
    refine (awake_any _).mono ?_
    rintro e wv ⟨rfl, bs⟩
    have HH := Lib.hid (HB5.out.trans (bs.mono HB5.out.size))
    clear bs
    go_wp2
    go_ret
    exact ⟨rfl, HH.out⟩
  have HK : Hid (Bk S 60 w4 g (toldV book0 d)) := by have h := HK4.out; rwa [show tell book0 d = toldV book0 d from if_pos hpe] at h
  have HPE := Lib.hid hpe
  rw [hpe]
  clear hpe
  have q0 := blk_cell XB4.out 0
  have q1 := blk_cell XB4.out 1
  have q2 := blk_cell XB4.out 2
  go_wp2_with fail
  --S5
  refine (given_any _ d _ ⟨_, rfl, SS4.out⟩ (by have := HBR.out.few; omega)).mono ?_
  rintro e w5 ⟨v5, rfl, hd5, b5⟩
  have HB5 := Lib.hid (HB4.out.trans (b5.mono HB4.out.size))
  have HK5 := Lib.hid (HK.out.below b5)
  obtain ⟨vd5, rfl, hs5⟩ := hd5
  obtain ⟨A5, c5, rfl, _, _⟩ := ss_len hs5
  obtain ⟨n5, hn5⟩ : ∃ n5, n5 = d.deps.length := ⟨_, rfl⟩
  rw [← hn5] at hs5 ⊢
  have HS5 := Lib.hid hs5
  obtain ⟨h6, hh6⟩ : ∃ h6, w5.heap.size = h6 := ⟨_, rfl⟩
  obtain ⟨w6, hw6⟩ : ∃ w6, w6 = w5.alloc (.cells #[.string d.out, .int .i64 (t : Int), .slice A5 n5 c5] 36) := ⟨_, rfl⟩
  have hb6 : Below w5.heap.size w5 w6 := by rw [hw6]; exact below_alloc (Below.refl _ _) _
  have X6 : Hid (w6.heap[h6]? = some (.cells #[.string d.out, .int .i64 (t : Int), .slice A5 n5 c5] 36 (0, 0))) := by show _ = _; rw [hw6, ← hh6]; exact blk_new w5 _
  have HK6 := Lib.hid (HK5.out.below hb6)
  have HB6 := Lib.hid (HB5.out.trans (hb6.mono HB5.out.size))
  have HD6 : Hid (DepIs w6 (.agg #[.string d.out, .int .i64 (t : Int), .slice A5 n5 c5]) ⟨d.out, (t : Int), d.deps⟩) := ⟨_, rfl, HS5.out.below hb6⟩
  have HW6 := Lib.hid hw6
  clear b5 hs5 hn5 hb6 hw6 q0 q1 q2
  go_upto_region 11 with (fail)
  try rw [hh6]
  clear hh6
  --S6
  rw [← HW6.out]
  have p0 := blk_cell X6.out 0
  have p1 := blk_cell X6.out 1
  have p2 := blk_cell X6.out 2
  go_wp2_with fail
  --S7
  have HPT : Hid (planE ⟨d.out, (t : Int), d.deps⟩ = 0) := planE_time HPE.out _ (by omega) (by omega)
  refine (plan_any S _ g _ _ ⟨d.out, (t : Int), d.deps⟩ _ HK6.out HD6.out ⟨HF.out.out, HF.out.deps, by simp only; omega, by simp only; omega⟩ (by omega) (by have := HBR.out.few; simp only; omega)).mono ?_
  rintro e w7 ⟨v7, rfl, r7⟩
  rw [HPT.out]
  obtain ⟨A7, n7, c7, rfl, hn7⟩ := r7.slice
  have h1 : n7 = 1 := by
    rw [hn7]
    refine plan_known HPT.out fun s hs => ?_
    rcases List.mem_cons.1 hs with rfl | h
    · exact allN_out _ _
    · exact allN_deps _ _ s h
  subst h1
  have HB7 := Lib.hid (HB6.out.trans (r7.below.mono HB6.out.size))
  clear r7 hn7 p0 p1 p2
  go_wp2_with fail
  refine (awake_any _).mono ?_
  rintro e wv ⟨rfl, bs⟩
  have HH := Lib.hid (HB7.out.trans (bs.mono HB7.out.size))
  clear bs
  go_wp2
  go_ret
  exact ⟨rfl, HH.out⟩
--END WALK
theorem NamesOnce_int (v : Value) (d : DepV) (t : Int) (w : World) (h : DepIs w v d) (hf : FitD d) (ht : (Lit.int .u32 t).wf = true) :
    Calls Try.prog 3 #[v, .int .u32 t] w fun e w' => e = .returned (.bool true) ∧ Below w.heap.size w w' := by
  simp [Lit.wf, IntKind.min, IntKind.max, IntKind.bits, IntKind.signed] at ht
  obtain ⟨n, rfl⟩ := Int.eq_ofNat_of_zero_le ht.1
  exact NamesOnce_any v d n w h hf (by omega)
end Go.Proofs.Ytinonkakpgiblaa.Nam
