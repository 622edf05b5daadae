/- bellowslaw13.GraphPlans (walk). -/
import Derived.Test.YtifbkojapfighaaGrOpen
import Derived.Test.YtifbkojapfighaaGrTar
import Derived.Test.YtifbkojapfighaaGrRefP
namespace Go.Proofs.Ytifbkojapfighaa.Gr
open Go.RowKit Go.Proofs.YtifbkojapfighaaW.PrintWords Go.Proofs.YtifbkojapfighaaW.PrintLast Go.Proofs.Ytifbkojapfighaa.Base Go.Maps
set_option linter.unusedVariables false
set_option linter.unusedSimpArgs false
/-- What a plan is. -/
def PlanIs (m : ManV) (ts : List ByteArray) (o : List Nat) (c : Nat) : Prop := (c = 6 ∧ o = [] ∧ ¬ ∀ t ∈ ts, goodT m.edges t) ∨ (c = 0 ∧ (∀ t ∈ ts, goodT m.edges t) ∧ ∃ l, IsReach (aheadV m.edges) (madeF (makerOf m.edges) ts) l ∧ o = orderV (aheadV m.edges) l)
theorem PlanIs.one {m : ManV} {ts : List ByteArray} {o o' : List Nat} {c c' : Nat} (h : PlanIs m ts o c) (h' : PlanIs m ts o' c') : o' = o ∧ c' = c := by
  rcases h with ⟨rfl, rfl, h⟩ | ⟨rfl, h, l, hl, rfl⟩ <;> rcases h' with ⟨rfl, rfl, h'⟩ | ⟨rfl, h', l', hl', rfl⟩
  · exact ⟨rfl, rfl⟩
  · exact absurd h' h
  · exact absurd h h'
  · have e : l' = l := rise_ext (r := fun a b : Nat => a < b) (fun a h => Nat.lt_irrefl a h) (fun a b h1 h2 => by omega) l' l hl'.up hl.up (fun x => by rw [hl'.mem, hl.mem])
    exact ⟨by rw [e], rfl⟩
theorem is_nil (w : World) : Is w (.slice none 0 0) [] := ⟨none, 0, rfl, by simp, by simp, fun h => absurd h (Nat.lt_irrefl 0)⟩
theorem plan_one (g : Nat) (m : ManV) (v : Value) (ts : List ByteArray) (w : World) (h : Gx w g m) (hs : SmallG m) (hv : Ss w v ts) (hz : ∀ s ∈ ts, s.size ≤ maxLen) (hl : ts.length ≤ 100000) :
    Calls Try.prog 15 #[.pointer (some ⟨g, 0, none⟩), v] w fun e w' => (∃ v' o, ∃ c : Nat, e = .returned (.tuple #[v', .int .i64 c]) ∧ PlanIs m ts o c ∧ Is w' v' o) ∧ Below w.heap.size w w' := by
  refine (plan_any g m v ts w h hs hv hz hl).mono ?_
  rintro e w' ⟨hres, b⟩
  refine ⟨?_, b⟩
  rcases hres with ⟨rfl, hno⟩ | ⟨v', l, rfl, hg, hr, hi⟩
  · exact ⟨_, [], 6, rfl, .inl ⟨rfl, rfl, hno⟩, is_nil _⟩
  · exact ⟨_, _, 0, rfl, .inr ⟨rfl, hg, l, hr, rfl⟩, Ir.is hi⟩
theorem rplan_one (v v2 : Value) (m : ManV) (ts : List ByteArray) (w : World) (ve vd : Value) (hv : v = .agg #[ve, vd]) (hE : Ez w ve m.edges) (hT : Ss w v2 ts) (hn30 : m.edges.length ≤ 1000) (hs : SmallG m) :
    Calls Try.prog 26 #[v, v2] w fun e w' => (∃ v' o, ∃ c : Nat, e = .returned (.tuple #[v', .int .i64 c]) ∧ PlanIs m ts o c ∧ Is w' v' o) ∧ Below w.heap.size w w' := by
  refine (rplan_any v v2 m ts w ve vd hv hE hT hn30 hs).mono ?_
  rintro e w' ⟨hres, b⟩
  refine ⟨?_, b⟩
  rcases hres with ⟨rfl, hno⟩ | ⟨v', l, rfl, hg, hr, hi⟩
  · exact ⟨_, [], 6, rfl, .inl ⟨rfl, rfl, hno⟩, is_nil _⟩
  · exact ⟨_, _, 0, rfl, .inr ⟨rfl, hg, l, hr, rfl⟩, Ir.is hi⟩
theorem outs_same (es : List EdgeV) (h : (allOuts es).Nodup) : putAll [] (allOuts es) = sortS (allOuts es) :=
  up_ext (putAll_up _ _ up_nil) (sortS_up h) fun x => by rw [mem_putAll, mem_sortS]; simp
set_option maxRecDepth 100000 in
set_option maxHeartbeats 16000000 in
theorem plans_any (v v2 : Value) (m : ManV) (ts : List ByteArray) (w : World) (hm : ManIs w v m) (ht : Ss w v2 ts) (hz : ∀ s ∈ ts, s.size ≤ maxLen) :
    Calls Try.prog 8 #[v, v2] w fun e w' => e = .returned (.bool true) ∧ Below w.heap.size w w' := by
  have HZ := Lib.hid hz
  clear hz
  obtain ⟨ve, vd, rfl, hE, hD⟩ := hm
  obtain ⟨Ae, ce, rfl, hce, hme⟩ := hE.len
  obtain ⟨n, hn⟩ : ∃ n, n = m.edges.length := ⟨_, rfl⟩
  rw [← hn] at hce hme hE ⊢
  obtain ⟨Ad, cd, rfl, hcd, hmd⟩ := ss_len hD
  obtain ⟨nd, hnd⟩ : ∃ nd, nd = m.defs.length := ⟨_, rfl⟩
  rw [← hnd] at hcd hmd hD ⊢
  obtain ⟨At, ct, rfl, hct, hmt⟩ := ss_len ht
  obtain ⟨nt, hnt⟩ : ∃ nt, nt = ts.length := ⟨_, rfl⟩
  rw [← hnt] at hct hmt ht ⊢
  have HT := Lib.hid ht
  have HNT := Lib.hid hnt
  clear ht hnt
  obtain ⟨x, hx⟩ : ∃ x, w.heap.size = x := ⟨_, rfl⟩
  obtain ⟨w1, hw1⟩ : ∃ w1, w1 = w.alloc (.cells #[.slice Ae n ce, .slice Ad nd cd] 25) := ⟨_, rfl⟩
  have hb1 : Below w.heap.size w w1 := by rw [hw1]; exact below_alloc (Below.refl _ _) _
  have hX : w1.heap[x]? = some (.cells #[.slice Ae n ce, .slice Ad nd cd] 25 (0, 0)) := by rw [hw1, ← hx]; exact blk_new w _
  have HX := Lib.hid hX
  have HE1 := Lib.hid (hE.below hb1)
  have HD1 := Lib.hid (hD.below hb1)
  have HB1 := Lib.hid hb1
  have HW := Lib.hid hw1
  have HN := Lib.hid hn
  have q0 := (show w1.cell? ⟨x, 0, none⟩ = some (.slice Ae n ce) from blk_cell hX 0)
  have q1 := (show w1.cell? ⟨x, 1, none⟩ = some (.slice Ad nd cd) from blk_cell hX 1)
  clear hE hD hb1 hX hw1 hn hnd
  go_enter Try.func8, Try.ntmps8
  go_upto_region 1 with (fail)
  rw [← HW.out]
  try rw [hx]
  clear hx
  go_wp2_with fail
  refine (few_any _ m _ _ _ rfl HE1.out HD1.out).mono ?_
  rintro e w2 ⟨hres, b2⟩
  have HB2 := Lib.hid (HB1.out.trans (b2.mono HB1.out.size))
  rcases hres with rfl | ⟨rfl, hfm⟩
  · clear q0 q1
    go_wp2
    go_ret
    exact ⟨rfl, HB2.out⟩
  have HFM := Lib.hid hfm
  clear hfm q0 q1
  by_cases t20 : nt ≤ 20
  case neg =>
    have c20 : decide ((20 : Int) < (nt : Int)) = true := decide_eq_true (by omega)
    go_wp2
    go_ret
    exact ⟨rfl, HB2.out⟩
  have c20 : decide ((20 : Int) < (nt : Int)) = false := decide_eq_false (by omega)
  have X2 := Lib.hid ((b2.block x (blk_lt HX.out)).trans HX.out)
  have q0 := (show w2.cell? ⟨x, 0, none⟩ = some (.slice Ae n ce) from blk_cell X2.out 0)
  have q1 := (show w2.cell? ⟨x, 1, none⟩ = some (.slice Ad nd cd) from blk_cell X2.out 1)
  have HE2 := Lib.hid (HE1.out.below b2)
  have HD2 := Lib.hid (HD1.out.below b2)
  clear b2
  go_wp2_with fail
  refine (of_any _ m _ _ _ rfl HE2.out HD2.out HFM.out).mono ?_
  rintro e w3 ⟨⟨ve3, vd3, rfl, hE3, hD3⟩, b3⟩
  obtain ⟨A3, c3, e3, _, _⟩ := hE3.len
  rw [← HN.out] at e3
  subst e3
  obtain ⟨Ad3, cd3, e3, _, _⟩ := ss_len hD3
  obtain ⟨nd3, hnd3⟩ : ∃ nd3, nd3 = m.defs.length := ⟨_, rfl⟩
  rw [← hnd3] at e3
  subst e3
  have HE3 := Lib.hid hE3
  have HD3 := Lib.hid hD3
  have HB3 := Lib.hid (HB2.out.trans (b3.mono HB2.out.size))
  have X3 := Lib.hid ((b3.block x (blk_lt X2.out)).trans X2.out)
  have HER3 := Lib.hid (HE2.out.below b3)
  have HSG := Lib.hid (few_small HFM.out)
  have HDR3 := Lib.hid (HD2.out.below b3)
  clear hE3 hD3 hnd3 b3 q0 q1 X2 HE2 HD2
  go_wp2_with fail
  refine (new_any _ m _ _ _ rfl HE3.out HD3.out HSG.out.toSmallM).mono ?_
  rintro e w4 ⟨hres, b4⟩
  have HB4 := Lib.hid (HB3.out.trans (b4.mono HB3.out.size))
  have X4 := Lib.hid ((b4.block x (blk_lt X3.out)).trans X3.out)
  have HER4 := Lib.hid (HER3.out.below b4)
  have q0 := (show w4.cell? ⟨x, 0, none⟩ = some (.slice Ae n ce) from blk_cell X4.out 0)
  have q1 := (show w4.cell? ⟨x, 1, none⟩ = some (.slice Ad nd cd) from blk_cell X4.out 1)
  have HDR4 := Lib.hid (HDR3.out.below b4)
  clear b4 X3 HER3 HE3 HD3 HDR3
  rcases hres with ⟨rfl, hbad⟩ | ⟨rfl, hnd4, hbad⟩ | ⟨g, rfl, hnd4, hno, hgx⟩
  · have HBAD := Lib.hid hbad
    clear hbad
    go_wp2_with fail
    refine (wrong_any _ m _ _ _ rfl HER4.out HSG.out.toSmallM (by have := HFM.out.edges; omega)).mono ?_
    rintro e w5 ⟨⟨c, rfl, hc⟩, b5⟩
    have HB5 := Lib.hid (HB4.out.trans (b5.mono HB4.out.size))
    have hc0 : c = 11 := by
      rcases hc.any with ⟨h, h1⟩ | ⟨h, h1, h2⟩ | ⟨h, h1, h2⟩
      · exact h
      · exact absurd h1 HBAD.out
      · exact absurd h1 HBAD.out
    subst hc0
    clear b5 hc q0 q1 c20
    go_wp2_with fail
    refine (awake_any _).mono ?_
    rintro e w6 ⟨rfl, b6⟩
    have HB6 := Lib.hid (HB5.out.trans (b6.mono HB5.out.size))
    clear b6
    go_wp2
    go_ret
    exact ⟨rfl, HB6.out⟩
  · have HBAD := Lib.hid hbad
    have HND := Lib.hid hnd4
    clear hbad hnd4
    go_wp2_with fail
    refine (wrong_any _ m _ _ _ rfl HER4.out HSG.out.toSmallM (by have := HFM.out.edges; omega)).mono ?_
    rintro e w5 ⟨⟨c, rfl, hc⟩, b5⟩
    have HB5 := Lib.hid (HB4.out.trans (b5.mono HB4.out.size))
    have hc0 : c = 12 := by
      rcases hc.any with ⟨h, h1⟩ | ⟨h, h1, h2⟩ | ⟨h, h1, h2⟩
      · exact absurd HND.out h1
      · exact h
      · exact absurd HBAD.out h2
    subst hc0
    clear b5 hc q0 q1 c20
    go_wp2_with fail
    refine (awake_any _).mono ?_
    rintro e w6 ⟨rfl, b6⟩
    have HB6 := Lib.hid (HB5.out.trans (b6.mono HB5.out.size))
    clear b6
    go_wp2
    go_ret
    exact ⟨rfl, HB6.out⟩
  have HG : Hid (Gx w4 g m) := hgx
  have HU := Lib.hid hnd4
  have HNO := Lib.hid hno
  have HT4 := Lib.hid (HT.out.below HB4.out)
  clear hnd4 hno hgx c20
  go_wp2_with fail
  refine (wrong_any _ m _ _ _ rfl HER4.out HSG.out.toSmallM (by have := HFM.out.edges; omega)).mono ?_
  rintro e w5 ⟨⟨c, rfl, hc⟩, b5⟩
  have HB5 := Lib.hid (HB4.out.trans (b5.mono HB4.out.size))
  have hc0 : c = 0 := by
    rcases hc.any with ⟨h, h1⟩ | ⟨h, h1, h2⟩ | ⟨h, h1, h2⟩
    · exact absurd HU.out h1
    · exact absurd h2 HNO.out
    · exact h
  subst hc0
  have HG5 := Lib.hid (HG.out.below b5)
  have X5 := Lib.hid ((b5.block x (blk_lt X4.out)).trans X4.out)
  have HER5 := Lib.hid (HER4.out.below b5)
  have HT5 := Lib.hid (HT4.out.below b5)
  have HDR5 := Lib.hid (HDR4.out.below b5)
  have HB5a : Hid (Below w5.heap.size w5 (w5.alloc (.cells #[] 9))) := below_alloc (Below.refl _ _) _
  have HR5 : Hid (Kd.string.R 9 (w5.alloc (.cells #[] 9)) w5.heap.size (fun _ => True) (.slice (some ⟨w5.heap.size, 0, none⟩) 0 0) []) := str_nil w5 _ (Nat.le_refl _) _ trivial
  clear b5 hc q0 q1 HG X4 HER4 HT4
  go_wp2_with (at_builtin; refine Held.of ?_)
  refine Held.out (Kd.R_append_row Value.string ByteArray.empty (h1 := fun _ => rfl) (w0 := w5) w5.heap.size rfl (.tmp 52) (.tmp 53) 23 9 (.string ⟨#[]⟩) 16 rfl Try.underlying23 (by kernel_rfl) rfl (by decide) (.slice (some ⟨w5.heap.size, 0, none⟩) 0 0) [] ts At nt ct (fun _ => True) rfl rfl (fun _ _ => trivial) HR5.out (ss_C (HT5.out.below HB5a.out)) HB5a.out HB5a.out.size (by simp only [List.length_nil]; omega) ?_)
  intro v6 w6 r6 b6 _ _
  rw [List.nil_append] at r6
  obtain ⟨A6, c6, e6⟩ := Kd.R_slice r6
  rw [← HNT.out] at e6
  subst e6
  have HR6 := Lib.hid (r_ss r6)
  have HB6 := Lib.hid (HB5.out.trans (b6.mono HB5.out.size))
  have HG6 := Lib.hid (HG5.out.below b6)
  have X6 := Lib.hid ((b6.block x (blk_lt X5.out)).trans X5.out)
  have HER6 := Lib.hid (HER5.out.below b6)
  have HT6 := Lib.hid (HT5.out.below b6)
  have HDR6 := Lib.hid (HDR5.out.below b6)
  clear r6 b6 HR5 HB5a HG5 X5 HER5 HT5
  go_wp2_with fail
  refine (plan_one g m _ ts _ HG6.out HSG.out HR6.out HZ.out (by rw [← HNT.out]; omega)).mono ?_
  rintro e w7 ⟨⟨vl, o, c, rfl, hpl, hil⟩, b7⟩
  have HPL := Lib.hid hpl
  have HB7 := Lib.hid (HB6.out.trans (b7.mono HB6.out.size))
  have HG7 := Lib.hid (HG6.out.below b7)
  have X7 := Lib.hid ((b7.block x (blk_lt X6.out)).trans X6.out)
  have HER7 := Lib.hid (HER6.out.below b7)
  have HT7 := Lib.hid (HT6.out.below b7)
  have HDR7 := Lib.hid (HDR6.out.below b7)
  obtain ⟨Al, cl, el, _, _⟩ := hil.len
  obtain ⟨nl, hnl⟩ : ∃ nl, nl = o.length := ⟨_, rfl⟩
  rw [← hnl] at el
  obtain ⟨vl', hvl'⟩ : ∃ vl', vl' = Value.slice Al nl cl := ⟨_, rfl⟩
  subst el
  have HIL7 := Lib.hid hil
  have q0 := (show w7.cell? ⟨x, 0, none⟩ = some (.slice Ae n ce) from blk_cell X7.out 0)
  have q1 := (show w7.cell? ⟨x, 1, none⟩ = some (.slice Ad nd cd) from blk_cell X7.out 1)
  clear hpl hil b7 HG6 X6 HER6 HT6 HR6 hnl hvl'
  go_wp2_with fail
  refine (rplan_one _ _ m ts _ _ _ rfl HER7.out HT7.out (by have := HFM.out.edges; omega) HSG.out).mono ?_
  rintro e w8 ⟨⟨vp, o', c', rfl, hpl, hil⟩, b8⟩
  obtain ⟨eo, ec⟩ := HPL.out.one hpl
  subst eo ec
  obtain ⟨Ap, cp, ep, _, _⟩ := hil.len
  obtain ⟨np, hnp⟩ : ∃ np, np = o'.length := ⟨_, rfl⟩
  rw [← hnp] at ep
  subst ep
  have HIW8 := Lib.hid hil
  have HIL8 := Lib.hid (HIL7.out.below b8)
  have HB8 := Lib.hid (HB7.out.trans (b8.mono HB7.out.size))
  have HG8 := Lib.hid (HG7.out.below b8)
  have X8 := Lib.hid ((b8.block x (blk_lt X7.out)).trans X7.out)
  have HER8 := Lib.hid (HER7.out.below b8)
  have HT8 := Lib.hid (HT7.out.below b8)
  have HD8 := Lib.hid (HDR7.out.below b8)
  clear hpl hil b8 HG7 X7 HER7 HT7 hnp q0 q1 HIL7 HPL
  go_wp2
  --S1
  go_loopw [12] (fun i wr => ∃ k : Nat, k ≤ nt ∧ i = .int .i64 k ∧ Hid (Below w8.heap.size w8 wr)) (fun i _ => nt - (intOf i).toNat)
  case atStart => exact ⟨0, by omega, rfl, Below.refl _ _⟩
  case round =>
    obtain ⟨k, hk, rfl, HB⟩ := hrel
    by_cases l1 : k < nt
    · have hkl : k < ts.length := by rw [← HNT.out]; exact l1
      obtain ⟨ad, e1, qs⟩ := ss_get (HT8.out.below HB.out) k hkl
      subst e1
      obtain ⟨s, hs⟩ : ∃ s, s = ts.getD k ByteArray.empty := ⟨_, rfl⟩
      have hsz := HZ.out _ (take_at ts ByteArray.empty k hkl).2
      rw [← hs] at qs hsz
      have HSZ := Lib.hid hsz
      have Z0 : Hid (wr.cell? ⟨x, 0, none⟩ = some (.slice Ae n ce)) := blk_cell ((HB.out.block x (blk_lt X8.out)).trans X8.out) 0
      have Z1 : Hid (wr.cell? ⟨x, 1, none⟩ = some (.slice Ad nd cd)) := blk_cell ((HB.out.block x (blk_lt X8.out)).trans X8.out) 1
      have Z2 := Lib.hid qs
      have HEW := Lib.hid (HER8.out.below HB.out)
      have HBD : Hid (Below wr.heap.size wr wr.drew) := Below.drew (Below.refl _ _)
      obtain ⟨xi, hxi⟩ : ∃ xi, xi = mkI m.edges s := ⟨_, rfl⟩
      have HXI := Lib.hid hxi
      clear hkl hs hxi hsz
      go_wp2_with fail
      refine (maker_any g m s _ (HG8.out.below HB.out) HSZ.out).mono ?_
      rintro e w9 ⟨rfl, hw9⟩
      have hw9 := hw9.symm
      subst hw9
      obtain ⟨t, ht⟩ : ∃ t, t = makerOf m.edges s := ⟨_, rfl⟩
      rw [← ht]
      have HTT := Lib.hid ht
      clear ht qs
      cases t with
      | none =>
        have hx1 : Hid (xi = -1) := by
          have h := HXI.out
          unfold mkI at h
          rw [← HTT.out] at h
          exact h
        simp only [Option.getD_none, Option.isSome_none]
        go_wp2
        refine start_ (n := 7) (S := fun w' => Below wr.heap.size wr w' ∧ w'.cell? ⟨x, 0, none⟩ = some (.slice Ae n ce) ∧ w'.cell? ⟨x, 1, none⟩ = some (.slice Ad nd cd) ∧ w'.cell? (ad.add k) = some (.string s)) (ds := []) #[false, false, false, false, false, false, false] (by kernel_rfl) rfl rfl ⟨HBD.out, Z0.out, Z1.out, Z2.out⟩ (fun hHeld => ?_)
        refine pure_ (i := 1) (N := some 80) (v := ?_) (a' := ?_) #[false, true, false, false, false, false, false] rfl rfl (by kernel_rfl) (fun _ _ _ h => h) (Or.inl ⟨by rfl, ?_⟩) ?_ ?_
        rotate_left
        · intro w'
          go_simp
          with_reducible rfl
        rotate_left
        · simp only [Act.put, List.setIfInBounds_toArray, List.set_cons_zero, List.set_cons_succ, i64_w, i32_w]
          rfl
        refine pure_ (i := 2) (N := some 81) (v := ?_) (a' := ?_) #[false, true, true, false, false, false, false] rfl rfl (by kernel_rfl) (fun _ _ _ h => h) (Or.inl ⟨by rfl, ?_⟩) ?_ ?_
        rotate_left
        · intro w'
          go_simp
          with_reducible rfl
        rotate_left
        · simp only [Act.put, List.setIfInBounds_toArray, List.set_cons_zero, List.set_cons_succ, i64_w, i32_w]
          rfl
        refine pure_ (i := 3) (N := some 82) (v := ?_) (a' := ?_) #[false, true, true, true, false, false, false] rfl rfl (by kernel_rfl) (fun _ _ _ h => h) (Or.inl ⟨by rfl, ?_⟩) ?_ ?_
        rotate_left
        · intro w'
          go_simp
          with_reducible rfl
        rotate_left
        · simp only [Act.put, List.setIfInBounds_toArray, List.set_cons_zero, List.set_cons_succ, i64_w, i32_w]
          rfl
        refine take_ (i := 0) (N := some 79) (v := ?_) (a' := ?_) #[true, true, true, true, false, false, false] rfl rfl (by kernel_rfl) (fun _ _ _ h => h) (Or.inl ⟨by rfl, ?_⟩) hHeld ?_ ?_
        rotate_left
        · rintro w' ⟨s0, s1, s2, s3⟩
          go_simp
          with_reducible rfl
        rotate_left
        · simp only [Act.put, List.setIfInBounds_toArray, List.set_cons_zero, List.set_cons_succ, i64_w, i32_w]
          rfl
        refine take_ (i := 4) (N := some 83) (v := ?_) (a' := ?_) #[true, true, true, true, true, false, false] rfl rfl (by kernel_rfl) (fun _ _ _ h => h) (Or.inl ⟨by rfl, ?_⟩) hHeld ?_ ?_
        rotate_left
        · rintro w' ⟨s0, s1, s2, s3⟩
          go_simp
          with_reducible rfl
        rotate_left
        · simp only [Act.put, List.setIfInBounds_toArray, List.set_cons_zero, List.set_cons_succ, i64_w, i32_w]
          rfl
        refine one_ (i := 5) (N := some 84) #[true, true, true, true, true, true, false] rfl rfl (by kernel_rfl) (by decide) (fun K hK => ?_)
        refine goes_ Try.func27 (by kernel_rfl) rfl #[.agg #[.slice Ae n ce, .slice Ad nd cd], .string s] (by rfl) rfl rfl (by first | (simp only [List.map_toArray, List.map_cons, List.map_nil]; done) | (simp only [List.map_toArray, List.map_cons, List.map_nil]; rfl) | rfl) ?_
        with_reducible refine (rmaker_any _ m.edges s _ _ _ rfl (HEW.out.below hHeld.1)).mono ?_
        rintro e w7z ⟨rfl, b7⟩
        refine ⟨_, rfl, ?_⟩
        rw [← HXI.out]
        have h7 := hHeld.1.trans (b7.mono hHeld.1.size)
        have HB7z := Lib.hid h7
        clear b7
        refine hK.out _ _ ⟨h7, pw_cell_below (h7) Z0.out, pw_cell_below (h7) Z1.out, pw_cell_below (h7) Z2.out⟩ (fun hHeld => ?_)
        clear hK K
        refine norm_ (a' := ?_) ?_ ?_
        rotate_left
        · show Act.put _ (some 84) _ = _
          simp only [Act.put, List.setIfInBounds_toArray, List.set_cons_zero, List.set_cons_succ, i64_w, i32_w]
          rfl
        refine pure_ (i := 6) (N := some 15) (v := ?_) (a' := ?_) #[true, true, true, true, true, true, true] rfl rfl (by kernel_rfl) (fun _ _ _ h => h) (Or.inl ⟨by rfl, ?_⟩) ?_ ?_
        rotate_left
        · intro w'
          go_simp
          with_reducible rfl
        rotate_left
        · simp only [Act.put, List.setIfInBounds_toArray, List.set_cons_zero, List.set_cons_succ, i64_w, i32_w]
          rfl
        refine done_ (by kernel_rfl) ?_
        clear hHeld
        have HB8' := Lib.hid (HB.out.trans (HB7z.out.mono HB.out.size))
        clear Z0 Z1 Z2 HEW HBD
        rw [hx1.out]
        clear hx1 HXI
        go_wp2
        go_roundw
        case rel => exact ⟨k + 1, by omega, by go_num, HB8'.out⟩
        case measure => simp [intOf]; omega
      | some z =>
        have hx1 : Hid (xi = (z : Int)) := by
          have h := HXI.out
          unfold mkI at h
          rw [← HTT.out] at h
          exact h
        simp only [Option.getD_some, Option.isSome_some]
        have d1 : decide ((0 : Int) ≤ (z : Int)) = true := decide_eq_true (by omega)
        have d2 : ((z : Int) != (z : Int)) = false := bne_self_eq_false _
        go_wp2
        refine start_ (n := 7) (S := fun w' => Below wr.heap.size wr w' ∧ w'.cell? ⟨x, 0, none⟩ = some (.slice Ae n ce) ∧ w'.cell? ⟨x, 1, none⟩ = some (.slice Ad nd cd) ∧ w'.cell? (ad.add k) = some (.string s)) (ds := []) #[false, false, false, false, false, false, false] (by kernel_rfl) rfl rfl ⟨HBD.out, Z0.out, Z1.out, Z2.out⟩ (fun hHeld => ?_)
        refine pure_ (i := 1) (N := some 80) (v := ?_) (a' := ?_) #[false, true, false, false, false, false, false] rfl rfl (by kernel_rfl) (fun _ _ _ h => h) (Or.inl ⟨by rfl, ?_⟩) ?_ ?_
        rotate_left
        · intro w'
          go_simp
          with_reducible rfl
        rotate_left
        · simp only [Act.put, List.setIfInBounds_toArray, List.set_cons_zero, List.set_cons_succ, i64_w, i32_w]
          rfl
        refine pure_ (i := 2) (N := some 81) (v := ?_) (a' := ?_) #[false, true, true, false, false, false, false] rfl rfl (by kernel_rfl) (fun _ _ _ h => h) (Or.inl ⟨by rfl, ?_⟩) ?_ ?_
        rotate_left
        · intro w'
          go_simp
          with_reducible rfl
        rotate_left
        · simp only [Act.put, List.setIfInBounds_toArray, List.set_cons_zero, List.set_cons_succ, i64_w, i32_w]
          rfl
        refine pure_ (i := 3) (N := some 82) (v := ?_) (a' := ?_) #[false, true, true, true, false, false, false] rfl rfl (by kernel_rfl) (fun _ _ _ h => h) (Or.inl ⟨by rfl, ?_⟩) ?_ ?_
        rotate_left
        · intro w'
          go_simp
          with_reducible rfl
        rotate_left
        · simp only [Act.put, List.setIfInBounds_toArray, List.set_cons_zero, List.set_cons_succ, i64_w, i32_w]
          rfl
        refine take_ (i := 0) (N := some 79) (v := ?_) (a' := ?_) #[true, true, true, true, false, false, false] rfl rfl (by kernel_rfl) (fun _ _ _ h => h) (Or.inl ⟨by rfl, ?_⟩) hHeld ?_ ?_
        rotate_left
        · rintro w' ⟨s0, s1, s2, s3⟩
          go_simp
          with_reducible rfl
        rotate_left
        · simp only [Act.put, List.setIfInBounds_toArray, List.set_cons_zero, List.set_cons_succ, i64_w, i32_w]
          rfl
        refine take_ (i := 4) (N := some 83) (v := ?_) (a' := ?_) #[true, true, true, true, true, false, false] rfl rfl (by kernel_rfl) (fun _ _ _ h => h) (Or.inl ⟨by rfl, ?_⟩) hHeld ?_ ?_
        rotate_left
        · rintro w' ⟨s0, s1, s2, s3⟩
          go_simp
          with_reducible rfl
        rotate_left
        · simp only [Act.put, List.setIfInBounds_toArray, List.set_cons_zero, List.set_cons_succ, i64_w, i32_w]
          rfl
        refine one_ (i := 5) (N := some 84) #[true, true, true, true, true, true, false] rfl rfl (by kernel_rfl) (by decide) (fun K hK => ?_)
        refine goes_ Try.func27 (by kernel_rfl) rfl #[.agg #[.slice Ae n ce, .slice Ad nd cd], .string s] (by rfl) rfl rfl (by first | (simp only [List.map_toArray, List.map_cons, List.map_nil]; done) | (simp only [List.map_toArray, List.map_cons, List.map_nil]; rfl) | rfl) ?_
        with_reducible refine (rmaker_any _ m.edges s _ _ _ rfl (HEW.out.below hHeld.1)).mono ?_
        rintro e w7z ⟨rfl, b7⟩
        refine ⟨_, rfl, ?_⟩
        rw [← HXI.out]
        have h7 := hHeld.1.trans (b7.mono hHeld.1.size)
        have HB7z := Lib.hid h7
        clear b7
        refine hK.out _ _ ⟨h7, pw_cell_below (h7) Z0.out, pw_cell_below (h7) Z1.out, pw_cell_below (h7) Z2.out⟩ (fun hHeld => ?_)
        clear hK K
        refine norm_ (a' := ?_) ?_ ?_
        rotate_left
        · show Act.put _ (some 84) _ = _
          simp only [Act.put, List.setIfInBounds_toArray, List.set_cons_zero, List.set_cons_succ, i64_w, i32_w]
          rfl
        refine pure_ (i := 6) (N := some 15) (v := ?_) (a' := ?_) #[true, true, true, true, true, true, true] rfl rfl (by kernel_rfl) (fun _ _ _ h => h) (Or.inl ⟨by rfl, ?_⟩) ?_ ?_
        rotate_left
        · intro w'
          go_simp
          with_reducible rfl
        rotate_left
        · simp only [Act.put, List.setIfInBounds_toArray, List.set_cons_zero, List.set_cons_succ, i64_w, i32_w]
          rfl
        refine done_ (by kernel_rfl) ?_
        clear hHeld
        have HB8' := Lib.hid (HB.out.trans (HB7z.out.mono HB.out.size))
        clear Z0 Z1 Z2 HEW HBD
        rw [hx1.out]
        clear hx1 HXI
        go_wp2
        clear d1 d2
        go_roundw
        case rel => exact ⟨k + 1, by omega, by go_num, HB8'.out⟩
        case measure => simp [intOf]; omega
    · obtain ⟨wz, hwz⟩ : ∃ wz, wz = wr := ⟨_, rfl⟩
      subst hwz
      have HIL := Lib.hid (HIL8.out.below HB.out)
      have HIW := Lib.hid (HIW8.out.below HB.out)
      have HGZ := Lib.hid (HG8.out.below HB.out)
      have HEZ := Lib.hid (HER8.out.below HB.out)
      have HDZ := Lib.hid (HD8.out.below HB.out)
      have Z0 : Hid (wz.cell? ⟨x, 0, none⟩ = some (.slice Ae n ce)) := blk_cell ((HB.out.block x (blk_lt X8.out)).trans X8.out) 0
      have Z1 : Hid (wz.cell? ⟨x, 1, none⟩ = some (.slice Ad nd cd)) := blk_cell ((HB.out.block x (blk_lt X8.out)).trans X8.out) 1
      have HBD : Hid (Below wz.heap.size wz wz.drew) := Below.drew (Below.refl _ _)
      have HBZ := Lib.hid (HB8.out.trans (HB.out.mono HB8.out.size))
      have d1 : ((c' : Int) == (c' : Int)) = true := beq_self_eq_true _
      go_wp2
      refine start_ (n := 33) (S := fun w' => Below wz.heap.size wz w' ∧ w'.cell? ⟨x, 0, none⟩ = some (.slice Ae n ce) ∧ w'.cell? ⟨x, 1, none⟩ = some (.slice Ad nd cd)) (ds := []) #[false, false, false, false, false, false, false, false, false, false, false, false, false, false, false, false, false, false, false, false, false, false, false, false, false, false, false, false, false, false, false, false, false] (by kernel_rfl) rfl rfl ⟨HBD.out, Z0.out, Z1.out⟩ (fun hHeld => ?_)
      refine pure_ (i := 0) (N := some 95) (v := ?_) (a' := ?_) #[true, false, false, false, false, false, false, false, false, false, false, false, false, false, false, false, false, false, false, false, false, false, false, false, false, false, false, false, false, false, false, false, false] rfl rfl (by kernel_rfl) (fun _ _ _ h => h) (Or.inl ⟨by rfl, ?_⟩) ?_ ?_
      rotate_left
      · intro w'
        go_simp
        with_reducible rfl
      rotate_left
      · simp only [Act.put, List.setIfInBounds_toArray, List.set_cons_zero, List.set_cons_succ, i64_w, i32_w]
        rfl
      refine pure_ (i := 1) (N := some 96) (v := ?_) (a' := ?_) #[true, true, false, false, false, false, false, false, false, false, false, false, false, false, false, false, false, false, false, false, false, false, false, false, false, false, false, false, false, false, false, false, false] rfl rfl (by kernel_rfl) (fun _ _ _ h => h) (Or.inl ⟨by rfl, ?_⟩) ?_ ?_
      rotate_left
      · intro w'
        go_simp
        with_reducible rfl
      rotate_left
      · simp only [Act.put, List.setIfInBounds_toArray, List.set_cons_zero, List.set_cons_succ, i64_w, i32_w]
        rfl
      refine one_ (i := 2) (N := some 97) #[true, true, true, false, false, false, false, false, false, false, false, false, false, false, false, false, false, false, false, false, false, false, false, false, false, false, false, false, false, false, false, false, false] rfl rfl (by kernel_rfl) (by decide) (fun K hK => ?_)
      refine goes_ Try.func16 (by kernel_rfl) rfl #[.slice Al nl cl, .slice Ap np cp] (by rfl) rfl rfl (by first | (simp only [List.map_toArray, List.map_cons, List.map_nil]; done) | (simp only [List.map_toArray, List.map_cons, List.map_nil]; rfl) | rfl) ?_
      with_reducible refine (numbers_any _ _ o' o' _ (HIL.out.below hHeld.1) (HIW.out.below hHeld.1)).mono ?_
      rintro e w2z ⟨rfl, b2⟩
      refine ⟨_, rfl, ?_⟩
      have h2 := hHeld.1.trans (b2.mono hHeld.1.size)
      rw [show decide (o' = o') = true from decide_eq_true rfl]
      clear b2
      refine hK.out _ _ ⟨h2, pw_cell_below (h2) Z0.out, pw_cell_below (h2) Z1.out⟩ (fun hHeld => ?_)
      clear hK K
      refine norm_ (a' := ?_) ?_ ?_
      rotate_left
      · show Act.put _ (some 97) _ = _
        simp only [Act.put, List.setIfInBounds_toArray, List.set_cons_zero, List.set_cons_succ, i64_w, i32_w]
        rfl
      refine pure_ (i := 3) (N := some 98) (v := ?_) (a' := ?_) #[true, true, true, true, false, false, false, false, false, false, false, false, false, false, false, false, false, false, false, false, false, false, false, false, false, false, false, false, false, false, false, false, false] rfl rfl (by kernel_rfl) (fun _ _ _ h => h) (Or.inl ⟨by rfl, ?_⟩) ?_ ?_
      rotate_left
      · intro w'
        go_simp
        with_reducible rfl
      rotate_left
      · simp only [Act.put, List.setIfInBounds_toArray, List.set_cons_zero, List.set_cons_succ, i64_w, i32_w]
        rfl
      refine pure_ (i := 4) (N := some 99) (v := ?_) (a' := ?_) #[true, true, true, true, true, false, false, false, false, false, false, false, false, false, false, false, false, false, false, false, false, false, false, false, false, false, false, false, false, false, false, false, false] rfl rfl (by kernel_rfl) (fun _ _ _ h => h) (Or.inl ⟨by rfl, ?_⟩) ?_ ?_
      rotate_left
      · intro w'
        go_simp
        with_reducible rfl
      rotate_left
      · simp only [Act.put, List.setIfInBounds_toArray, List.set_cons_zero, List.set_cons_succ, i64_w, i32_w]
        rfl
      refine pure_ (i := 5) (N := some 100) (v := ?_) (a' := ?_) #[true, true, true, true, true, true, false, false, false, false, false, false, false, false, false, false, false, false, false, false, false, false, false, false, false, false, false, false, false, false, false, false, false] rfl rfl (by kernel_rfl) (fun _ _ _ h => h) (Or.inl ⟨by rfl, ?_⟩) ?_ ?_
      rotate_left
      · intro w'
        go_simp
        with_reducible rfl
      rotate_left
      · simp only [Act.put, List.setIfInBounds_toArray, List.set_cons_zero, List.set_cons_succ, i64_w, i32_w]
        rfl
      refine pure_ (i := 6) (N := some 101) (v := ?_) (a' := ?_) #[true, true, true, true, true, true, true, false, false, false, false, false, false, false, false, false, false, false, false, false, false, false, false, false, false, false, false, false, false, false, false, false, false] rfl rfl (by kernel_rfl) (fun _ _ _ h => h) (Or.inl ⟨by rfl, ?_⟩) ?_ ?_
      rotate_left
      · intro w'
        go_simp
        with_reducible rfl
      rotate_left
      · simp only [Act.put, List.setIfInBounds_toArray, List.set_cons_zero, List.set_cons_succ, i64_w, i32_w]
        rfl
      refine pure_ (i := 7) (N := some 102) (v := ?_) (a' := ?_) #[true, true, true, true, true, true, true, true, false, false, false, false, false, false, false, false, false, false, false, false, false, false, false, false, false, false, false, false, false, false, false, false, false] rfl rfl (by kernel_rfl) (fun _ _ _ h => h) (Or.inl ⟨by rfl, ?_⟩) ?_ ?_
      rotate_left
      · intro w'
        go_simp
        with_reducible rfl
      rotate_left
      · simp only [Act.put, List.setIfInBounds_toArray, List.set_cons_zero, List.set_cons_succ, i64_w, i32_w]
        rfl
      refine pure_ (i := 8) (N := some 103) (v := ?_) (a' := ?_) #[true, true, true, true, true, true, true, true, true, false, false, false, false, false, false, false, false, false, false, false, false, false, false, false, false, false, false, false, false, false, false, false, false] rfl rfl (by kernel_rfl) (fun _ _ _ h => h) (Or.inl ⟨by rfl, ?_⟩) ?_ ?_
      rotate_left
      · intro w'
        go_simp
        with_reducible rfl
      rotate_left
      · simp only [Act.put, List.setIfInBounds_toArray, List.set_cons_zero, List.set_cons_succ, i64_w, i32_w]
        rfl
      refine pure_ (i := 9) (N := some 104) (v := ?_) (a' := ?_) #[true, true, true, true, true, true, true, true, true, true, false, false, false, false, false, false, false, false, false, false, false, false, false, false, false, false, false, false, false, false, false, false, false] rfl rfl (by kernel_rfl) (fun _ _ _ h => h) (Or.inl ⟨by rfl, ?_⟩) ?_ ?_
      rotate_left
      · intro w'
        go_simp
        with_reducible rfl
      rotate_left
      · simp only [Act.put, List.setIfInBounds_toArray, List.set_cons_zero, List.set_cons_succ, i64_w, i32_w]
        rfl
      refine take_ (i := 11) (N := some 106) (v := ?_) (a' := ?_) #[true, true, true, true, true, true, true, true, true, true, false, true, false, false, false, false, false, false, false, false, false, false, false, false, false, false, false, false, false, false, false, false, false] rfl rfl (by kernel_rfl) (fun _ _ _ h => h) (Or.inl ⟨by rfl, ?_⟩) hHeld ?_ ?_
      rotate_left
      · rintro w' ⟨s0, s1, s2⟩
        go_simp
        with_reducible rfl
      rotate_left
      · simp only [Act.put, List.setIfInBounds_toArray, List.set_cons_zero, List.set_cons_succ, i64_w, i32_w]
        rfl
      refine one_ (i := 10) (N := some 105) #[true, true, true, true, true, true, true, true, true, true, true, true, false, false, false, false, false, false, false, false, false, false, false, false, false, false, false, false, false, false, false, false, false] rfl rfl (by kernel_rfl) (by decide) (fun K hK => ?_)
      refine goes_ Try.func24 (by kernel_rfl) rfl #[.pointer (some ⟨g, 0, none⟩)] (by rfl) rfl rfl (by first | (simp only [List.map_toArray, List.map_cons, List.map_nil]; done) | (simp only [List.map_toArray, List.map_cons, List.map_nil]; rfl) | rfl) ?_
      with_reducible refine (sources_any g m _ (HGZ.out.below hHeld.1) HSG.out).mono ?_
      rintro e w10 ⟨v10, rfl, r10, b10⟩
      refine ⟨_, rfl, ?_⟩
      have h10 := hHeld.1.trans (b10.mono hHeld.1.size)
      have HR10 := Lib.hid (r_ss r10)
      clear r10
      clear b10
      refine hK.out _ _ ⟨h10, pw_cell_below (h10) Z0.out, pw_cell_below (h10) Z1.out⟩ (fun hHeld => ?_)
      clear hK K
      refine norm_ (a' := ?_) ?_ ?_
      rotate_left
      · show Act.put _ (some 105) _ = _
        simp only [Act.put, List.setIfInBounds_toArray, List.set_cons_zero, List.set_cons_succ, i64_w, i32_w]
        rfl
      refine one_ (i := 12) (N := some 107) #[true, true, true, true, true, true, true, true, true, true, true, true, true, false, false, false, false, false, false, false, false, false, false, false, false, false, false, false, false, false, false, false, false] rfl rfl (by kernel_rfl) (by decide) (fun K hK => ?_)
      refine goes_ Try.func28 (by kernel_rfl) rfl #[.agg #[.slice Ae n ce, .slice Ad nd cd]] (by rfl) rfl rfl (by first | (simp only [List.map_toArray, List.map_cons, List.map_nil]; done) | (simp only [List.map_toArray, List.map_cons, List.map_nil]; rfl) | rfl) ?_
      with_reducible refine (rsources_any _ m.edges _ _ _ rfl (HEZ.out.below hHeld.1) HSG.out.each HSG.out.needs).mono ?_
      rintro e w12 ⟨⟨v12, rfl, r12⟩, b12⟩
      refine ⟨_, rfl, ?_⟩
      have h12 := hHeld.1.trans (b12.mono hHeld.1.size)
      have HR10b := Lib.hid (HR10.out.below b12)
      have HR12 := Lib.hid r12
      clear r12
      clear b12
      refine hK.out _ _ ⟨h12, pw_cell_below (h12) Z0.out, pw_cell_below (h12) Z1.out⟩ (fun hHeld => ?_)
      clear hK K
      refine norm_ (a' := ?_) ?_ ?_
      rotate_left
      · show Act.put _ (some 107) _ = _
        simp only [Act.put, List.setIfInBounds_toArray, List.set_cons_zero, List.set_cons_succ, i64_w, i32_w]
        rfl
      refine one_ (i := 13) (N := some 108) #[true, true, true, true, true, true, true, true, true, true, true, true, true, true, false, false, false, false, false, false, false, false, false, false, false, false, false, false, false, false, false, false, false] rfl rfl (by kernel_rfl) (by decide) (fun K hK => ?_)
      refine goes_ Try.func18 (by kernel_rfl) rfl #[v10, v12] (by rfl) rfl rfl (by first | (simp only [List.map_toArray, List.map_cons, List.map_nil]; done) | (simp only [List.map_toArray, List.map_cons, List.map_nil]; rfl) | rfl) ?_
      with_reducible refine (rnames_any _ _ _ _ _ HR10b.out HR12.out).mono ?_
      rintro e w13 ⟨rfl, b13⟩
      refine ⟨_, rfl, ?_⟩
      have h13 := hHeld.1.trans (b13.mono hHeld.1.size)
      rw [show decide (sourcesV m.edges = sourcesV m.edges) = true from decide_eq_true rfl]
      clear b13
      refine hK.out _ _ ⟨h13, pw_cell_below (h13) Z0.out, pw_cell_below (h13) Z1.out⟩ (fun hHeld => ?_)
      clear hK K
      refine norm_ (a' := ?_) ?_ ?_
      rotate_left
      · show Act.put _ (some 108) _ = _
        simp only [Act.put, List.setIfInBounds_toArray, List.set_cons_zero, List.set_cons_succ, i64_w, i32_w]
        rfl
      refine pure_ (i := 14) (N := some 109) (v := ?_) (a' := ?_) #[true, true, true, true, true, true, true, true, true, true, true, true, true, true, true, false, false, false, false, false, false, false, false, false, false, false, false, false, false, false, false, false, false] rfl rfl (by kernel_rfl) (fun _ _ _ h => h) (Or.inl ⟨by rfl, ?_⟩) ?_ ?_
      rotate_left
      · intro w'
        go_simp
        with_reducible rfl
      rotate_left
      · simp only [Act.put, List.setIfInBounds_toArray, List.set_cons_zero, List.set_cons_succ, i64_w, i32_w]
        rfl
      refine pure_ (i := 15) (N := some 110) (v := ?_) (a' := ?_) #[true, true, true, true, true, true, true, true, true, true, true, true, true, true, true, true, false, false, false, false, false, false, false, false, false, false, false, false, false, false, false, false, false] rfl rfl (by kernel_rfl) (fun _ _ _ h => h) (Or.inl ⟨by rfl, ?_⟩) ?_ ?_
      rotate_left
      · intro w'
        go_simp
        with_reducible rfl
      rotate_left
      · simp only [Act.put, List.setIfInBounds_toArray, List.set_cons_zero, List.set_cons_succ, i64_w, i32_w]
        rfl
      refine pure_ (i := 16) (N := some 111) (v := ?_) (a' := ?_) #[true, true, true, true, true, true, true, true, true, true, true, true, true, true, true, true, true, false, false, false, false, false, false, false, false, false, false, false, false, false, false, false, false] rfl rfl (by kernel_rfl) (fun _ _ _ h => h) (Or.inl ⟨by rfl, ?_⟩) ?_ ?_
      rotate_left
      · intro w'
        go_simp
        with_reducible rfl
      rotate_left
      · simp only [Act.put, List.setIfInBounds_toArray, List.set_cons_zero, List.set_cons_succ, i64_w, i32_w]
        rfl
      refine take_ (i := 18) (N := some 113) (v := ?_) (a' := ?_) #[true, true, true, true, true, true, true, true, true, true, true, true, true, true, true, true, true, false, true, false, false, false, false, false, false, false, false, false, false, false, false, false, false] rfl rfl (by kernel_rfl) (fun _ _ _ h => h) (Or.inl ⟨by rfl, ?_⟩) hHeld ?_ ?_
      rotate_left
      · rintro w' ⟨s0, s1, s2⟩
        go_simp
        with_reducible rfl
      rotate_left
      · simp only [Act.put, List.setIfInBounds_toArray, List.set_cons_zero, List.set_cons_succ, i64_w, i32_w]
        rfl
      refine one_ (i := 17) (N := some 112) #[true, true, true, true, true, true, true, true, true, true, true, true, true, true, true, true, true, true, true, false, false, false, false, false, false, false, false, false, false, false, false, false, false] rfl rfl (by kernel_rfl) (by decide) (fun K hK => ?_)
      refine goes_ Try.func20 (by kernel_rfl) rfl #[.pointer (some ⟨g, 0, none⟩)] (by rfl) rfl rfl (by first | (simp only [List.map_toArray, List.map_cons, List.map_nil]; done) | (simp only [List.map_toArray, List.map_cons, List.map_nil]; rfl) | rfl) ?_
      with_reducible refine (outs_any g m _ (HGZ.out.below hHeld.1) HSG.out HU.out).mono ?_
      rintro e w17 ⟨v17, rfl, r17, b17⟩
      refine ⟨_, rfl, ?_⟩
      have h17 := hHeld.1.trans (b17.mono hHeld.1.size)
      have HR17 := Lib.hid (r_ss r17)
      clear r17
      clear b17
      refine hK.out _ _ ⟨h17, pw_cell_below (h17) Z0.out, pw_cell_below (h17) Z1.out⟩ (fun hHeld => ?_)
      clear hK K
      refine norm_ (a' := ?_) ?_ ?_
      rotate_left
      · show Act.put _ (some 112) _ = _
        simp only [Act.put, List.setIfInBounds_toArray, List.set_cons_zero, List.set_cons_succ, i64_w, i32_w]
        rfl
      refine one_ (i := 19) (N := some 114) #[true, true, true, true, true, true, true, true, true, true, true, true, true, true, true, true, true, true, true, true, false, false, false, false, false, false, false, false, false, false, false, false, false] rfl rfl (by kernel_rfl) (by decide) (fun K hK => ?_)
      refine goes_ Try.func29 (by kernel_rfl) rfl #[.agg #[.slice Ae n ce, .slice Ad nd cd]] (by rfl) rfl rfl (by first | (simp only [List.map_toArray, List.map_cons, List.map_nil]; done) | (simp only [List.map_toArray, List.map_cons, List.map_nil]; rfl) | rfl) ?_
      with_reducible refine (routs_any _ m.edges _ _ _ rfl (HEZ.out.below hHeld.1) HSG.out.all).mono ?_
      rintro e w19 ⟨⟨v19, rfl, r19⟩, b19⟩
      refine ⟨_, rfl, ?_⟩
      have h19 := hHeld.1.trans (b19.mono hHeld.1.size)
      have HR17b := Lib.hid (HR17.out.below b19)
      have HR19 : Hid (Ss w19 v19 (sortS (allOuts m.edges))) := by show Ss _ _ _; rw [← outs_same m.edges HU.out]; exact r19
      clear r19
      clear b19
      refine hK.out _ _ ⟨h19, pw_cell_below (h19) Z0.out, pw_cell_below (h19) Z1.out⟩ (fun hHeld => ?_)
      clear hK K
      refine norm_ (a' := ?_) ?_ ?_
      rotate_left
      · show Act.put _ (some 114) _ = _
        simp only [Act.put, List.setIfInBounds_toArray, List.set_cons_zero, List.set_cons_succ, i64_w, i32_w]
        rfl
      refine one_ (i := 20) (N := some 115) #[true, true, true, true, true, true, true, true, true, true, true, true, true, true, true, true, true, true, true, true, true, false, false, false, false, false, false, false, false, false, false, false, false] rfl rfl (by kernel_rfl) (by decide) (fun K hK => ?_)
      refine goes_ Try.func18 (by kernel_rfl) rfl #[v17, v19] (by rfl) rfl rfl (by first | (simp only [List.map_toArray, List.map_cons, List.map_nil]; done) | (simp only [List.map_toArray, List.map_cons, List.map_nil]; rfl) | rfl) ?_
      with_reducible refine (rnames_any _ _ _ _ _ HR17b.out HR19.out).mono ?_
      rintro e w20 ⟨rfl, b20⟩
      refine ⟨_, rfl, ?_⟩
      have h20 := hHeld.1.trans (b20.mono hHeld.1.size)
      rw [show decide (sortS (allOuts m.edges) = sortS (allOuts m.edges)) = true from decide_eq_true rfl]
      clear b20
      refine hK.out _ _ ⟨h20, pw_cell_below (h20) Z0.out, pw_cell_below (h20) Z1.out⟩ (fun hHeld => ?_)
      clear hK K
      refine norm_ (a' := ?_) ?_ ?_
      rotate_left
      · show Act.put _ (some 115) _ = _
        simp only [Act.put, List.setIfInBounds_toArray, List.set_cons_zero, List.set_cons_succ, i64_w, i32_w]
        rfl
      refine pure_ (i := 21) (N := some 116) (v := ?_) (a' := ?_) #[true, true, true, true, true, true, true, true, true, true, true, true, true, true, true, true, true, true, true, true, true, true, false, false, false, false, false, false, false, false, false, false, false] rfl rfl (by kernel_rfl) (fun _ _ _ h => h) (Or.inl ⟨by rfl, ?_⟩) ?_ ?_
      rotate_left
      · intro w'
        go_simp
        with_reducible rfl
      rotate_left
      · simp only [Act.put, List.setIfInBounds_toArray, List.set_cons_zero, List.set_cons_succ, i64_w, i32_w]
        rfl
      refine pure_ (i := 22) (N := some 117) (v := ?_) (a' := ?_) #[true, true, true, true, true, true, true, true, true, true, true, true, true, true, true, true, true, true, true, true, true, true, true, false, false, false, false, false, false, false, false, false, false] rfl rfl (by kernel_rfl) (fun _ _ _ h => h) (Or.inl ⟨by rfl, ?_⟩) ?_ ?_
      rotate_left
      · intro w'
        go_simp
        with_reducible rfl
      rotate_left
      · simp only [Act.put, List.setIfInBounds_toArray, List.set_cons_zero, List.set_cons_succ, i64_w, i32_w]
        rfl
      refine pure_ (i := 23) (N := some 118) (v := ?_) (a' := ?_) #[true, true, true, true, true, true, true, true, true, true, true, true, true, true, true, true, true, true, true, true, true, true, true, true, false, false, false, false, false, false, false, false, false] rfl rfl (by kernel_rfl) (fun _ _ _ h => h) (Or.inl ⟨by rfl, ?_⟩) ?_ ?_
      rotate_left
      · intro w'
        go_simp
        with_reducible rfl
      rotate_left
      · simp only [Act.put, List.setIfInBounds_toArray, List.set_cons_zero, List.set_cons_succ, i64_w, i32_w]
        rfl
      refine take_ (i := 25) (N := some 120) (v := ?_) (a' := ?_) #[true, true, true, true, true, true, true, true, true, true, true, true, true, true, true, true, true, true, true, true, true, true, true, true, false, true, false, false, false, false, false, false, false] rfl rfl (by kernel_rfl) (fun _ _ _ h => h) (Or.inl ⟨by rfl, ?_⟩) hHeld ?_ ?_
      rotate_left
      · rintro w' ⟨s0, s1, s2⟩
        go_simp
        with_reducible rfl
      rotate_left
      · simp only [Act.put, List.setIfInBounds_toArray, List.set_cons_zero, List.set_cons_succ, i64_w, i32_w]
        rfl
      refine one_ (i := 24) (N := some 119) #[true, true, true, true, true, true, true, true, true, true, true, true, true, true, true, true, true, true, true, true, true, true, true, true, true, true, false, false, false, false, false, false, false] rfl rfl (by kernel_rfl) (by decide) (fun K hK => ?_)
      refine goes_ Try.func25 (by kernel_rfl) rfl #[.pointer (some ⟨g, 0, none⟩)] (by rfl) rfl rfl (by first | (simp only [List.map_toArray, List.map_cons, List.map_nil]; done) | (simp only [List.map_toArray, List.map_cons, List.map_nil]; rfl) | rfl) ?_
      with_reducible refine (targets_any g m _ (HGZ.out.below hHeld.1) HSG.out).mono ?_
      rintro e w24 ⟨⟨v24, rfl, r24⟩, b24⟩
      refine ⟨_, rfl, ?_⟩
      have h24 := hHeld.1.trans (b24.mono hHeld.1.size)
      have HR24 := Lib.hid r24
      clear r24
      clear b24
      refine hK.out _ _ ⟨h24, pw_cell_below (h24) Z0.out, pw_cell_below (h24) Z1.out⟩ (fun hHeld => ?_)
      clear hK K
      refine norm_ (a' := ?_) ?_ ?_
      rotate_left
      · show Act.put _ (some 119) _ = _
        simp only [Act.put, List.setIfInBounds_toArray, List.set_cons_zero, List.set_cons_succ, i64_w, i32_w]
        rfl
      refine one_ (i := 26) (N := some 121) #[true, true, true, true, true, true, true, true, true, true, true, true, true, true, true, true, true, true, true, true, true, true, true, true, true, true, true, false, false, false, false, false, false] rfl rfl (by kernel_rfl) (by decide) (fun K hK => ?_)
      refine goes_ Try.func30 (by kernel_rfl) rfl #[.agg #[.slice Ae n ce, .slice Ad nd cd]] (by rfl) rfl rfl (by first | (simp only [List.map_toArray, List.map_cons, List.map_nil]; done) | (simp only [List.map_toArray, List.map_cons, List.map_nil]; rfl) | rfl) ?_
      with_reducible refine (rtargets_any _ m _ _ _ rfl (HEZ.out.below hHeld.1) (HDZ.out.below hHeld.1) HSG.out.each HSG.out.all).mono ?_
      rintro e w26 ⟨⟨v26, rfl, r26⟩, b26⟩
      refine ⟨_, rfl, ?_⟩
      have h26 := hHeld.1.trans (b26.mono hHeld.1.size)
      have HR24b := Lib.hid (HR24.out.below b26)
      have HR26 := Lib.hid r26
      clear r26
      clear b26
      refine hK.out _ _ ⟨h26, pw_cell_below (h26) Z0.out, pw_cell_below (h26) Z1.out⟩ (fun hHeld => ?_)
      clear hK K
      refine norm_ (a' := ?_) ?_ ?_
      rotate_left
      · show Act.put _ (some 121) _ = _
        simp only [Act.put, List.setIfInBounds_toArray, List.set_cons_zero, List.set_cons_succ, i64_w, i32_w]
        rfl
      refine one_ (i := 27) (N := some 122) #[true, true, true, true, true, true, true, true, true, true, true, true, true, true, true, true, true, true, true, true, true, true, true, true, true, true, true, true, false, false, false, false, false] rfl rfl (by kernel_rfl) (by decide) (fun K hK => ?_)
      refine goes_ Try.func18 (by kernel_rfl) rfl #[v24, v26] (by rfl) rfl rfl (by first | (simp only [List.map_toArray, List.map_cons, List.map_nil]; done) | (simp only [List.map_toArray, List.map_cons, List.map_nil]; rfl) | rfl) ?_
      with_reducible refine (rnames_any _ _ _ _ _ HR24b.out HR26.out).mono ?_
      rintro e w27 ⟨rfl, b27⟩
      refine ⟨_, rfl, ?_⟩
      have h27 := hHeld.1.trans (b27.mono hHeld.1.size)
      rw [show decide (targetsV m = targetsV m) = true from decide_eq_true rfl]
      clear b27
      refine hK.out _ _ ⟨h27, pw_cell_below (h27) Z0.out, pw_cell_below (h27) Z1.out⟩ (fun hHeld => ?_)
      clear hK K
      refine norm_ (a' := ?_) ?_ ?_
      rotate_left
      · show Act.put _ (some 122) _ = _
        simp only [Act.put, List.setIfInBounds_toArray, List.set_cons_zero, List.set_cons_succ, i64_w, i32_w]
        rfl
      refine pure_ (i := 28) (N := some 123) (v := ?_) (a' := ?_) #[true, true, true, true, true, true, true, true, true, true, true, true, true, true, true, true, true, true, true, true, true, true, true, true, true, true, true, true, true, false, false, false, false] rfl rfl (by kernel_rfl) (fun _ _ _ h => h) (Or.inl ⟨by rfl, ?_⟩) ?_ ?_
      rotate_left
      · intro w'
        go_simp
        with_reducible rfl
      rotate_left
      · simp only [Act.put, List.setIfInBounds_toArray, List.set_cons_zero, List.set_cons_succ, i64_w, i32_w]
        rfl
      refine pure_ (i := 29) (N := some 124) (v := ?_) (a' := ?_) #[true, true, true, true, true, true, true, true, true, true, true, true, true, true, true, true, true, true, true, true, true, true, true, true, true, true, true, true, true, true, false, false, false] rfl rfl (by kernel_rfl) (fun _ _ _ h => h) (Or.inl ⟨by rfl, ?_⟩) ?_ ?_
      rotate_left
      · intro w'
        go_simp
        with_reducible rfl
      rotate_left
      · simp only [Act.put, List.setIfInBounds_toArray, List.set_cons_zero, List.set_cons_succ, i64_w, i32_w]
        rfl
      refine one_ (i := 30) (N := some 125) #[true, true, true, true, true, true, true, true, true, true, true, true, true, true, true, true, true, true, true, true, true, true, true, true, true, true, true, true, true, true, true, false, false] rfl rfl (by kernel_rfl) (by decide) (fun K hK => ?_)
      refine goes_ Try.func14 (by kernel_rfl) rfl #[] (by rfl) rfl rfl (by first | (simp only [List.map_toArray, List.map_cons, List.map_nil]; done) | (simp only [List.map_toArray, List.map_cons, List.map_nil]; rfl) | rfl) ?_
      with_reducible refine (awake_any _).mono ?_
      rintro e w30 ⟨rfl, b30⟩
      refine ⟨_, rfl, ?_⟩
      have h30 := hHeld.1.trans (b30.mono hHeld.1.size)
      have HB30 := Lib.hid h30
      clear b30
      refine hK.out _ _ ⟨h30, pw_cell_below (h30) Z0.out, pw_cell_below (h30) Z1.out⟩ (fun hHeld => ?_)
      clear hK K
      refine norm_ (a' := ?_) ?_ ?_
      rotate_left
      · show Act.put _ (some 125) _ = _
        simp only [Act.put, List.setIfInBounds_toArray, List.set_cons_zero, List.set_cons_succ, i64_w, i32_w]
        rfl
      refine pure_ (i := 31) (N := some 126) (v := ?_) (a' := ?_) #[true, true, true, true, true, true, true, true, true, true, true, true, true, true, true, true, true, true, true, true, true, true, true, true, true, true, true, true, true, true, true, true, false] rfl rfl (by kernel_rfl) (fun _ _ _ h => h) (Or.inl ⟨by rfl, ?_⟩) ?_ ?_
      rotate_left
      · intro w'
        go_simp
        with_reducible rfl
      rotate_left
      · simp only [Act.put, List.setIfInBounds_toArray, List.set_cons_zero, List.set_cons_succ, i64_w, i32_w]
        rfl
      refine pure_ (i := 32) (N := some 4) (v := ?_) (a' := ?_) #[true, true, true, true, true, true, true, true, true, true, true, true, true, true, true, true, true, true, true, true, true, true, true, true, true, true, true, true, true, true, true, true, true] rfl rfl (by kernel_rfl) (fun _ _ _ h => h) (Or.inl ⟨by rfl, ?_⟩) ?_ ?_
      rotate_left
      · intro w'
        go_simp
        with_reducible rfl
      rotate_left
      · simp only [Act.put, List.setIfInBounds_toArray, List.set_cons_zero, List.set_cons_succ, i64_w, i32_w]
        rfl
      refine done_ (by kernel_rfl) ?_
      clear hHeld
      have HBF := Lib.hid (HBZ.out.trans (HB30.out.mono HBZ.out.size))
      go_wp2
      go_ret
      exact ⟨rfl, HBF.out⟩
end Go.Proofs.Ytifbkojapfighaa.Gr
