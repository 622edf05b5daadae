/- names.(*Book).All (walk). -/
import Derived.Test.YtinonkakpgiblaaNamKeys
import Derived.Test.YtinonkakpgiblaaNamSorted
import Derived.Test.YtinonkakpgiblaaRoundReg
namespace Go.Proofs.Ytinonkakpgiblaa.Nam
open Go.RowKit Go.Proofs.YtinonkakpgiblaaW.PrintWords Go.Proofs.YtinonkakpgiblaaW.PrintLast Go.Proofs.Ytinonkakpgiblaa.Base Go.Proofs.Ytinonkakpgiblaa.Pack Go.Maps Go.Shelf
set_option linter.unusedVariables false
set_option linter.unusedSimpArgs false
attribute [local go_sem] Oper.semAt_some

/-- All that a book holds, by the outputs' names. -/
structure AllOf (b : BookV) (l : List DepV) : Prop where
  sorted : DSorted l
  nodup : (l.map (·.out)).Nodup
  mem : ∀ d, d ∈ l ↔ ∃ n f, b.os n = some f ∧ d = depV b n f
/-- What is told of a key. -/
def DK {f2 : Nat → Option Value} (b : BookV) (k : KeyOf f2) : DepV := depV b k.1 ((b.os k.1).getD ⟨0, []⟩)
/-- Between two rounds: what has come lies in the row. -/
def AllI {f2 : Nat → Option Value} (x g : Nat) (b : BookV) (w : World) (pre : List (KeyOf f2)) (W : World) : Prop :=
  ∃ v, W.heap[x + 1]? = some (.cells #[v] 49 (0, 0)) ∧ W.heap[x]? = some (.cells #[.pointer (some ⟨g, 0, none⟩)] 27 (0, 0)) ∧ Dr x W v (pre.map (DK b)) ∧ Below w.heap.size w W
theorem below_others {B : Nat} {W W' : World} (h : Below B W W') (hB : W.heap.size ≤ B) : KeepsOthers W W' :=
  ⟨h.size, fun k o hk _ => (h.block k (Nat.lt_of_lt_of_le (blk_lt hk) hB)).trans hk⟩
theorem AllI_own {f2 : Nat → Option Value} {x g : Nat} {b : BookV} {w : World} {B : Nat} (hB : w.heap.size ≤ B) (hBx : x + 1 < B) : OwnFrom B (AllI (f2 := f2) x g b w) := by
  rintro s A B' row ⟨v, h1, h2, h3, h4⟩ hg hr
  refine ⟨v, blk_grown h1 hg ?_, blk_grown h2 hg ?_, R_row h3 hg ?_, h4.grown hg h4.size ?_⟩
  · intro e
    have := (hr _ e.symm).1
    omega
  · intro e
    have := (hr _ e.symm).1
    omega
  · intro k e t ht cells hc
    obtain ⟨_, o, ho, hn⟩ := hr k e
    rw [hc] at ho
    cases ho
    cases hn
  · intro k e
    exact Nat.le_trans hB (hr k e).1
theorem depV_out_inj {b : BookV} (h : Good b) {n m : Nat} {f e : FndV} (hn : b.os n = some f) (hm : b.os m = some e) (he : (depV b n f).out = (depV b m e).out) : n = m := by
  have h1 := (h.at_ n f hn).1
  have h2 := (h.at_ m e hm).1
  unfold depV at he
  simp only [List.getD_eq_getElem?_getD, List.getElem?_eq_getElem h1, List.getElem?_eq_getElem h2, Option.getD_some] at he
  have hp := List.pairwise_iff_getElem.1 (List.nodup_iff_pairwise_ne.1 h.nodup)
  rcases Nat.lt_trichotomy n m with hl | hl | hl
  · exact absurd he (hp n m h1 h2 hl)
  · exact hl
  · exact absurd he.symm (hp m n h2 h1 hl)
theorem all_of {S : Nat → Prop} {w : World} {f2 : Nat → Option Value} {b : BookV} {ys : List (KeyOf f2)} {l : List DepV} (hg : Good b) (hO : OutsAt S w f2 b.os) (hall : AllKeys f2 ys) (hp : l.Perm (ys.map (DK b))) (hs : DSorted l) : AllOf b l := by
  have key : ∀ k : KeyOf f2, ∃ f, b.os k.1 = some f ∧ DK b k = depV b k.1 f := fun k => by
    rcases hO k.1 with ⟨_, h⟩ | ⟨fd, _, h, _⟩
    · have := k.2; rw [h] at this; cases this
    · exact ⟨fd, h, by unfold DK; rw [h]; rfl⟩
  refine ⟨hs, ?_, fun d => ?_⟩
  · have h1 : ((ys.map (DK b)).map (·.out)).Nodup := by
      rw [List.map_map, List.nodup_iff_pairwise_ne, List.pairwise_map]
      have h2 := hall.1
      rw [List.nodup_iff_pairwise_ne, List.pairwise_map] at h2
      refine h2.imp ?_
      intro k q hne he
      obtain ⟨f, h3, h4⟩ := key k
      obtain ⟨e, h5, h6⟩ := key q
      simp only [Function.comp] at he
      rw [h4, h6] at he
      exact hne (depV_out_inj hg h3 h5 he)
    exact (hp.map _).nodup_iff.2 h1
  · rw [hp.mem_iff, List.mem_map]
    constructor
    · rintro ⟨k, _, rfl⟩
      obtain ⟨f, h1, h2⟩ := key k
      exact ⟨k.1, f, h1, h2⟩
    · rintro ⟨n, f, h1, rfl⟩
      have h2 : (f2 n).isSome = true := by
        rcases hO n with ⟨h, _⟩ | ⟨fd, _, h, h3, _⟩
        · rw [h1] at h; cases h
        · rw [h3]; rfl
      obtain ⟨k, hk, rfl⟩ := List.mem_map.1 (hall.2 n h2)
      exact ⟨k, hk, by unfold DK; rw [h1]; rfl⟩
--BEGIN WALK
set_option maxRecDepth 100000 in
set_option maxHeartbeats 4000000 in
theorem ball_any (S : Nat → Prop) (c g : Nat) (b : BookV) (w : World) (hB : Bk S c w g b) (hc : c ≤ 1000000) (hfl : ∀ n f, b.os n = some f → f.deps.length ≤ 1000000) :
    Calls Try.prog 22 #[.pointer (some ⟨g, 0, none⟩)] w fun e w' => ∃ v l, e = .returned v ∧ AllOf b l ∧ l.length ≤ c ∧ Dr w.heap.size w' v l ∧ Below w.heap.size w w' := by
  have HBK := Lib.hid hB
  have HFL := Lib.hid hfl
  obtain ⟨_, _, hgood, _, _, vn, m1, m2, n2, f2, h1, _, _, _, hn2, hRn, hM1, hM2, hO⟩ := hB
  have c2 : w.cell? ⟨g, 2, none⟩ = some (.map (some m2)) := blk_cell h1 2

  have HO := Lib.hid hO
  have HG := Lib.hid hgood
  obtain ⟨x, hx⟩ : ∃ x, w.heap.size = x := ⟨_, rfl⟩
  have hgx : g < x := by rw [← hx]; exact blk_lt h1
  have HX := Lib.hid hx
  have X1 := Lib.hid h1
  have HM2 := Lib.hid hM2
  clear hRn hM1 hO h1 hM2 hfl hgood
  refine (callsIn_wide (n := 5)).1 ?_
  refine callsIn_of_wp_marks Try.func22 rfl trivial ?_ rfl
  simp only [Try.ntmps22, List.size_toArray, List.length_cons, List.length_nil, Nat.reduceAdd, Nat.reduceSub, Array.replicate_succ, Array.replicate_zero, List.push_toArray, List.append_toArray, List.nil_append, List.cons_append]
  gi_wp2_with (refine ⟨trivial, ?_⟩; gi_at_call 40; refine (keys_any _ _ trivial rfl _ _).mono ?_; rintro e wk ⟨rfl, rfl⟩)
  --S1
  obtain ⟨W0, hW0⟩ : ∃ W0, W0 = ((w.alloc (.cells #[.pointer (some ⟨g, 0, none⟩)] 27)).alloc (.cells #[.slice none 0 0] 49)).alloc (.cells #[.map (some m2)] 67) := ⟨_, rfl⟩
  have b1 := below_alloc (Below.refl w.heap.size w) (.cells #[.pointer (some ⟨g, 0, none⟩)] 27)
  have b2 := below_alloc b1 (.cells #[.slice none 0 0] 49)
  have hB0 : Below w.heap.size w W0 := by rw [hW0]; exact below_alloc b2 _
  have e1 : (w.alloc (.cells #[.pointer (some ⟨g, 0, none⟩)] 27)).heap.size = x + 1 := by simp [hx]
  have e2 : ((w.alloc (.cells #[.pointer (some ⟨g, 0, none⟩)] 27)).alloc (.cells #[.slice none 0 0] 49)).heap.size = x + 1 + 1 := by simp [hx]
  have hws : W0.heap.size = x + 1 + 1 + 1 := by rw [hW0]; simp [hx]
  have hK0 : W0.heap[x + 1 + 1]? = some (.cells #[.map (some m2)] 67 (0, 0)) := by
    rw [hW0]
    have h := blk_new ((w.alloc (.cells #[.pointer (some ⟨g, 0, none⟩)] 27)).alloc (.cells #[.slice none 0 0] 49)) (.cells #[.map (some m2)] 67)
    rw [e2] at h
    exact h
  have hO0 : W0.heap[x + 1]? = some (.cells #[.slice none 0 0] 49 (0, 0)) := by
    rw [hW0]
    have h := blk_new (w.alloc (.cells #[.pointer (some ⟨g, 0, none⟩)] 27)) (.cells #[.slice none 0 0] 49)
    rw [e1] at h
    exact ((below_alloc (Below.refl _ _) _).block _ (blk_lt h)).trans h
  have hP0 : W0.heap[x]? = some (.cells #[.pointer (some ⟨g, 0, none⟩)] 27 (0, 0)) := by
    rw [hW0]
    have h := blk_new w (.cells #[.pointer (some ⟨g, 0, none⟩)] 27)
    rw [hx] at h
    have h2 := ((below_alloc (Below.refl _ _) (.cells #[.slice none 0 0] 49)).block _ (blk_lt h)).trans h
    exact ((below_alloc (Below.refl _ _) _).block _ (blk_lt h2)).trans h2
  rw [← hW0]
  have hM0 := HM2.out.below hB0
  have HP0 := Lib.hid hP0
  have HO0 := Lib.hid hO0
  have HB0 := Lib.hid hB0
  have HWS := Lib.hid hws
  have HM0 := Lib.hid hM0
  have hk0 : W0.cell? ⟨x + 1 + 1, 0, none⟩ = some (.map (some m2)) := blk_cell hK0 0
  have hxw0 : x + 1 + 1 < W0.heap.size := by omega
  clear b1 b2 e1 e2 hW0 hO0 hP0 hK0 hx hgx hM0 hB0 hws
  refine wpIn_rangeFunc_ownF rfl (by omega) (gf := 62) (lb := #[.pointer (some ⟨x + 1 + 1, 0, none⟩)]) rfl trivial (enters_of Try.func62 (by kernel_rfl) rfl)
    (keys_stops Fence.wide _ trivial rfl (by omega) (x + 1 + 1) m2 n2 f2 W0 hxw0 hk0 HM0.out) walksK_t walksK_b (Below.refl _ _) (fun _ => rfl)
    (AllI x g b w) (fun _ _ _ => False) (AllI_own (by rw [HWS.out, HX.out]; omega) (by rw [HWS.out]; omega)) (fun _ _ _ _ _ hs _ _ => hs)
    ⟨_, HO0.out, HP0.out, dr_nil _ _, HB0.out⟩
    (fun k => { tmps := #[.pointer (some ⟨g, 0, none⟩), .pointer (some ⟨x, 0, none⟩), .slice none 0 0, .pointer (some ⟨x + 1, 0, none⟩), kenc k, .pointer (some ⟨g, 0, none⟩), .bool false, .pointer (some ⟨g, 0, none⟩), .pointer (some ⟨g, 0, none⟩), .pointer (some ⟨g, 2, none⟩), .map (some m2), .func (.func 62) #[] #[.pointer (some ⟨x + 1 + 1, 0, none⟩)], kenc k, undef, undef, undef, undef, undef, undef, undef, undef, undef], defers := [] }) ?assign ?body ?done ?stop
  case assign =>
    intro l k W K hK
    gi_wp2
    exact hK
  case body =>
    rintro l pre k W ⟨v, hX1, hX0, hR, hBW⟩ hlt
    have HR := Lib.hid hR
    have HX1 := Lib.hid hX1
    have HX0 := Lib.hid hX0
    have HBW := Lib.hid hBW
    obtain ⟨A, cc, ev⟩ := hR.slice
    obtain ⟨nv, hnv⟩ : ∃ nv, nv = (pre.map (DK b)).length := ⟨_, rfl⟩
    rw [← hnv] at ev
    subst ev
    have hlen : (pre.map (DK b)).length ≤ 1000000 := by rw [List.length_map]; omega
    have HLEN := Lib.hid hlen
    obtain ⟨fd, hfd⟩ : ∃ fd, b.os k.1 = some fd := by
      rcases HO.out k.1 with ⟨_, h⟩ | ⟨fd, _, h, _⟩
      · have := k.2; rw [h] at this; cases this
      · exact ⟨fd, h⟩
    have HFD := Lib.hid hfd
    have HDK : Hid (DK b k = depV b k.1 fd) := by show _ = _; unfold DK; rw [hfd]; rfl
    have HXW : Hid (x ≤ W.heap.size) := Nat.le_of_lt (blk_lt hX0)
    have P0 : Hid (W.cell? ⟨x + 1, 0, none⟩ = some (.slice A nv cc)) := blk_cell hX1 0
    have P1 : Hid (W.cell? ⟨x, 0, none⟩ = some (.pointer (some ⟨g, 0, none⟩))) := blk_cell hX0 0
    clear hR hX1 hX0 hBW hnv hlen hfd hlt
    --S2
    gi_wp2_with fail
    refine startR_ (m := 7) (S := fun w' => Below W.heap.size W w' ∧ w'.cell? ⟨x + 1, 0, none⟩ = some (.slice A nv cc) ∧ w'.cell? ⟨x, 0, none⟩ = some (.pointer (some ⟨g, 0, none⟩))) (ds := [5, 6]) #[false, false, false, false, false, false, false] (by kernel_rfl) rfl rfl (by kernel_rfl) (fun _ _ h => h) ⟨Below.drew (Below.refl _ _), P0.out, P1.out⟩ (fun hHeld => ?_)
    refine pure_ (i := 2) (N := some 15) (v := ?_) (a' := ?_) #[false, false, true, false, false, false, false] rfl rfl (by kernel_rfl) (fun _ _ _ h => h) (Or.inl ⟨by rfl, ?_⟩) ?_ ?_
    rotate_left
    · intro w'
      go_simp
      with_reducible rfl
    rotate_left
    · simp only [Act.put, List.setIfInBounds_toArray, List.set_cons_zero, List.set_cons_succ, i64_w, i32_w]
      rfl
    refine take_ (i := 0) (N := some 13) (v := ?_) (a' := ?_) #[true, false, true, false, false, false, false] rfl rfl (by kernel_rfl) (fun _ _ _ h => h) (Or.inl ⟨by rfl, ?_⟩) hHeld ?_ ?_
    rotate_left
    · rintro w' ⟨s0, s1, s2⟩
      go_simp
      with_reducible rfl
    rotate_left
    · simp only [Act.put, List.setIfInBounds_toArray, List.set_cons_zero, List.set_cons_succ, i64_w, i32_w]
      rfl
    refine take_ (i := 1) (N := some 14) (v := ?_) (a' := ?_) #[true, true, true, false, false, false, false] rfl rfl (by kernel_rfl) (fun _ _ _ h => h) (Or.inl ⟨by rfl, ?_⟩) hHeld ?_ ?_
    rotate_left
    · rintro w' ⟨s0, s1, s2⟩
      go_simp
      with_reducible rfl
    rotate_left
    · simp only [Act.put, List.setIfInBounds_toArray, List.set_cons_zero, List.set_cons_succ, i64_w, i32_w]
      rfl
    refine one_ (i := 3) (N := some 16) #[true, true, true, true, false, false, false] rfl rfl (by kernel_rfl) (by decide) (fun K hK => ?_)
    refine goes_ Try.func36 (by kernel_rfl) rfl #[.pointer (some ⟨g, 0, none⟩), .int .i64 (k.1 : Int)] (by rfl) rfl rfl (by first | (simp only [List.map_toArray, List.map_cons, List.map_nil]; done) | (simp only [List.map_toArray, List.map_cons, List.map_nil]; rfl) | rfl) ?_
    with_reducible refine (dep_any S c g b k.1 fd _ (HBK.out.below (HBW.out.trans (hHeld.1.mono HBW.out.size))) HFD.out hc (HFL.out _ _ HFD.out)).mono ?_
    rintro e wd ⟨vN, rfl, hd, hbd⟩
    refine ⟨_, rfl, ?_⟩
    have hb3 := hHeld.1.trans (hbd.mono hHeld.1.size)
    obtain ⟨vd, rfl, hRd⟩ := hd
    rw [← HDK.out] at hRd ⊢
    obtain ⟨Ad, cd, ed⟩ := Kd.R_slice hRd
    obtain ⟨nd, hnd⟩ : ∃ nd, nd = (DK b k).deps.length := ⟨_, rfl⟩
    rw [← hnd] at ed
    subst ed
    have HRD : Hid (Kd.string.R 9 wd x (fun _ => True) (.slice Ad nd cd) (DK b k).deps) := Kd.R_lower hRd (Nat.le_trans HXW.out hHeld.1.size)
    have HRO : Hid (Dr x wd (.slice A nv cc) (pre.map (DK b))) := HR.out.below hb3
    have HX3 : Hid (wd.heap[x + 1]? = some (.cells #[.slice A nv cc] 49 (0, 0))) := (hb3.block _ (blk_lt HX1.out)).trans HX1.out
    have HB3 : Hid (Below W.heap.size W wd) := hb3
    clear hRd hnd hbd
    refine hK.out _ _ ⟨hb3, pw_cell_below (hb3) P0.out, pw_cell_below (hb3) P1.out⟩ (fun hHeld => ?_)
    clear hK K
    refine norm_ (a' := ?_) ?_ ?_
    rotate_left
    · show Act.put _ (some 16) _ = _
      simp only [Act.put, List.setIfInBounds_toArray, List.set_cons_zero, List.set_cons_succ, i64_w, i32_w]
      rfl
    refine one_ (i := 4) (N := some 17) #[true, true, true, true, true, false, false] rfl rfl (by kernel_rfl) (by decide) (fun K hK => ?_)
    refine value_ (w1 := ?_) (v := ?_) (by rfl) rfl ?_ ?_
    rotate_left 2
    · go_simp
      constructor
      · rfl
      · rfl
    refine hK.out _ _ ⟨hHeld.1.alloc hHeld.1.size _, pw_cell_below (hHeld.1.alloc hHeld.1.size _) P0.out, pw_cell_below (hHeld.1.alloc hHeld.1.size _) P1.out⟩ (fun hHeld => ?_)
    clear hK K
    refine norm_ (a' := ?_) ?_ ?_
    rotate_left
    · show Act.put _ (some 17) _ = _
      simp only [Act.put, List.setIfInBounds_toArray, List.set_cons_zero, List.set_cons_succ, i64_w, i32_w]
      rfl
    refine last_ (i := 5) (N := some 18) #[true, true, true, true, true, true, false] rfl rfl (by kernel_rfl) (by decide) (fun K hK => ?_)
    refine app_dep_step (w0 := wd) x rfl (.tmp 13) (.tmp 17) rfl (.slice A nv cc) _ (DK b k) _ rfl rfl HRO.out HRD.out (Below.refl _ _) (Nat.le_trans HXW.out HB3.out.size) (by have := HLEN.out; omega) ?_
    intro va wa ra ba ga
    obtain ⟨Aa, ca, ea⟩ := ra.slice
    obtain ⟨na, hna⟩ : ∃ na, na = (pre.map (DK b) ++ [DK b k]).length := ⟨_, rfl⟩
    rw [← hna] at ea
    subst ea
    have hne : some (x + 1) ≠ (Value.slice A nv cc).ownBlock := Kd.R_ne HRO.out HX3.out (by decide)
    have XA : Hid (wa.heap[x + 1]? = some (.cells #[.slice A nv cc] 49 (0, 0))) := blk_grown HX3.out ga hne
    have HRA := Lib.hid ra
    have HBA := Lib.hid ba
    have HGA := Lib.hid ga
    have fa := blk_frozen XA.out 0
    have ka := blk_cell XA.out 0
    clear ra ba ga hna hne
    refine hK.out _ _ ?_
    clear hK K
    refine norm_ (a' := ?_) ?_ ?_
    rotate_left
    · show Act.put _ (some 18) _ = _
      simp only [Act.put, List.setIfInBounds_toArray, List.set_cons_zero, List.set_cons_succ, i64_w, i32_w]
      rfl
    refine last_ (i := 6) (N := none) #[true, true, true, true, true, true, true] rfl rfl (by kernel_rfl) (by decide) (fun K hK => ?_)
    refine skip_ (w1 := ?_) (by rfl) rfl ?_ ?_
    rotate_left
    · go_simp
      rfl
    refine hK.out _ _ ?_
    clear hK K
    refine done_ (by kernel_rfl) ?_
    --S3
    have X03 : wd.heap[x]? = some (.cells #[.pointer (some ⟨g, 0, none⟩)] 27 (0, 0)) := (HB3.out.block _ (blk_lt HX0.out)).trans HX0.out
    have X0A := blk_grown X03 HGA.out (Kd.R_ne HRO.out X03 (by decide))
    have hKO : KeepsOthers W (wa.setCell ⟨x + 1, 0, none⟩ (.slice Aa na ca)) := by
      refine ((below_others HB3.out (Nat.le_refl _)).trans (KeepsOthers.of_grownBy HGA.out ?_)).trans (KeepsOthers.setCell _ _ _)
      intro j o hj ho
      obtain ⟨cells, hcj⟩ := Kd.R_typed HRO.out j hj
      rw [hcj] at ho
      cases ho
      rfl
    simp only [Exit.inBlock]
    refine ⟨hKO, hKO.walks, _, blk_set XA.out 0 _, blk_far X0A (by show x ≠ x + 1; omega) _, ?_, ?_⟩
    · unfold Dr
      rw [List.map_append]
      exact Kd.R_set HRA.out XA.out (by decide) 0 _
    · have h := HBW.out.trans (HB3.out.mono HBW.out.size)
      have h2 : Below w.heap.size wd wa := by rw [HX.out]; exact HBA.out
      exact (h.trans h2).setCell (by rw [HX.out]; exact Nat.le_succ _) _
  case done =>
    rintro D ys W hD ⟨hall, hcnt⟩ ⟨v, hX1, hX0, hR, hBW⟩ hK
    --S4
    have HR := Lib.hid hR
    have HX1 := Lib.hid hX1
    have HBW := Lib.hid hBW
    have HKD := Lib.hid hK
    have HALL := Lib.hid hall
    have HD := Lib.hid hD
    obtain ⟨A, cc, ev⟩ := hR.slice
    obtain ⟨nv, hnv⟩ : ∃ nv, nv = (ys.map (DK b)).length := ⟨_, rfl⟩
    rw [← hnv] at ev
    subst ev
    have P0 : W.cell? ⟨x + 1, 0, none⟩ = some (.slice A nv cc) := blk_cell hX1 0
    have hlen : (ys.map (DK b)).length ≤ 1000000 := by rw [List.length_map]; omega
    clear hR hX1 hX0 hBW hnv hall hD hK
    gi_wp2_with (refine ⟨trivial, ?_⟩; gi_at_call 41; refine (callsIn_wide.2 (sort_any x _ (ys.map (DK b)) _ HR.out hlen)).mono ?_; rintro e w2 ⟨rfl, l', hp, hs, hr, hg⟩; have HP := Lib.hid hp; have HS := Lib.hid hs; have HR2 := Lib.hid hr; have HG2 := Lib.hid hg; have X2 := blk_grown HX1.out hg (Kd.R_ne HR.out HX1.out (by decide)); have Q0 : w2.cell? ⟨x + 1, 0, none⟩ = some (.slice A nv cc) := blk_cell X2 0; clear hp hs hr hg X2)
    have hK2 : w2.heap[D]? = some (.deferred (some [])) := by
      refine blk_grown HKD.out HG2.out (fun e => ?_)
      obtain ⟨cells, hcj⟩ := Kd.R_typed HR.out D e.symm
      rw [HKD.out] at hcj
      cases hcj
    refine ⟨by simp, .inl ⟨_, _, rfl, run_takeDeferred hK2, ?_⟩⟩
    have hgD := grownBy_putObj' w2 D (.deferred none)
    refine ⟨_, results_tmp rfl _ _ _, _, l', rfl, ?_, ?_, ?_, ?_⟩
    · exact all_of HG.out HO.out HALL.out HP.out HS.out
    · rw [HP.out.length_eq, List.length_map]; omega
    · rw [HX.out]
      refine R_row HR2.out hgD (fun k e t ht cells hc => ?_)
      cases e
      rw [hK2] at hc
      cases hc
    · have hx1 : w.heap.size ≤ D := by have h1 := HWS.out; have h2 := HX.out; have h3 := HD.out; omega
      refine ((HBW.out.grown HG2.out HBW.out.size (fun k e => ?_)).grown hgD ?_ (fun k e => by cases e; exact hx1))
      · rw [HX.out]; exact Kd.R_base HR.out k e
      · exact Nat.le_trans hx1 (Nat.le_of_lt (blk_lt hK2))
  case stop =>
    rintro D c pre W _ _ h _
    exact h.elim
--END WALK
end Go.Proofs.Ytinonkakpgiblaa.Nam
