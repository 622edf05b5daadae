/- The law NamesTold returns true (a walk). -/
import Derived.Test.YtinonkakpgiblaaNamLooks
import Derived.Test.YtinonkakpgiblaaNamOpen
namespace Go.Proofs.Ytinonkakpgiblaa.Nam
open Go.RowKit Go.Proofs.YtinonkakpgiblaaW.PrintWords Go.Proofs.YtinonkakpgiblaaW.PrintLast Go.Proofs.Ytinonkakpgiblaa.Base Go.Proofs.Ytinonkakpgiblaa.Pack Go.Maps
set_option linter.unusedVariables false
set_option linter.unusedSimpArgs false

theorem look_tell_other {b : BookV} (hb : Good b) {d : DepV} {s : ByteArray} (h : ¬ (planE d = 0 ∧ d.out = s)) : lookV (tell b d) s = lookV b s := by
  unfold tell
  split
  · rename_i he
    exact look_told_other hb (fun e => h ⟨he, e.symm⟩)
  · rfl
theorem look_rest (s : ByteArray) : ∀ (l : List DepV) (b : BookV), Good b → (∀ d ∈ l, ¬ (planE d = 0 ∧ d.out = s)) → lookV (l.foldl tell b) s = lookV b s
  | [], _, _, _ => rfl
  | d :: l, b, hb, h => by
    rw [List.foldl_cons, look_rest s l _ (tell_good hb d) (fun x hx => h x (List.mem_cons_of_mem _ hx)), look_tell_other hb (h d (by simp))]
theorem told_last (l : List DepV) (i : Nat) (hi : i < l.length) (he : planE (l.getD i zdep) = 0) (hr : ∀ d ∈ l.drop (i + 1), ¬ (planE d = 0 ∧ d.out = (l.getD i zdep).out)) : lookV (tellA l) (l.getD i zdep).out = some (l.getD i zdep) := by
  have hsp := split_at l zdep i hi
  have e : tellA l = (l.drop (i + 1)).foldl tell (tell (tellA (l.take i)) (l.getD i zdep)) := by
    unfold tellA
    conv => lhs; rw [hsp]
    rw [List.foldl_append, List.foldl_cons]
  rw [e, look_rest _ _ _ (tell_good (tellA_good _) _) hr]
  unfold tell
  rw [if_pos he]
  exact look_told_same
/-- No later one is of the same output. -/
def lastB (l : List DepV) (i k : Nat) : Bool := decide (planE (l.getD i zdep) = 0) && ((l.take k).drop (i + 1)).all fun d => !(decide (planE d = 0) && decide (d.out = (l.getD i zdep).out))
theorem lastB_next {l : List DepV} {i k : Nat} (hi : i < k) (hk : k < l.length) : lastB l i (k + 1) = (lastB l i k && !(decide (planE (l.getD k zdep) = 0) && decide ((l.getD k zdep).out = (l.getD i zdep).out))) := by
  unfold lastB
  rw [(take_at l zdep k hk).1, List.drop_append_of_le_length (by rw [List.length_take]; omega), List.all_append]
  simp [Bool.and_assoc]
theorem lastB_first {l : List DepV} {i : Nat} : lastB l i (i + 1) = decide (planE (l.getD i zdep) = 0) := by
  unfold lastB
  rw [List.drop_eq_nil_of_le (by rw [List.length_take]; omega)]
  simp
theorem lastB_look {l : List DepV} {i : Nat} (hi : i < l.length) (h : lastB l i l.length = true) : lookV (tellA l) (l.getD i zdep).out = some (l.getD i zdep) := by
  unfold lastB at h
  rw [List.take_length] at h
  simp only [Bool.and_eq_true, decide_eq_true_eq, List.all_eq_true, Bool.not_eq_true'] at h
  refine told_last l i hi h.1 fun d hd hc => ?_
  have := h.2 d hd
  simp [hc.1, hc.2] at this
theorem tellA_deps (l : List DepV) (hb : ∀ d ∈ l, d.deps.length ≤ 1000000) : ∀ n f, (tellA l).os n = some f → f.deps.length ≤ 1000000 := by
  have key : ∀ (l : List DepV) (b : BookV), (∀ d ∈ l, d.deps.length ≤ 1000000) → (∀ n f, b.os n = some f → f.deps.length ≤ 1000000) → ∀ n f, (l.foldl tell b).os n = some f → f.deps.length ≤ 1000000 := by
    intro l
    induction l with
    | nil => exact fun b _ h => h
    | cons d l ih =>
      intro b hl h
      refine ih _ (fun x hx => hl x (List.mem_cons_of_mem _ hx)) fun n f hf => ?_
      unfold tell at hf
      split at hf
      · simp only [toldV, putO] at hf
        split at hf
        · cases hf
          rw [List.length_map]
          exact hl d (by simp)
        · exact h n f hf
      · exact h n f hf
  exact key l _ hb (fun n f h => by cases h)
--BEGIN WALK
set_option maxRecDepth 100000 in
set_option maxHeartbeats 8000000 in
theorem NamesTold_any (v : Value) (l : List DepV) (w : World) (h : Dz w v l) (hfit : ∀ d ∈ l, FitD d) :
    Calls Try.prog 4 #[v] w fun e w' => e = .returned (.bool true) ∧ Below w.heap.size w w' := by
  obtain ⟨A, c, rfl, hc, hm⟩ := h.len
  have HL := Lib.hid h
  have HFIT := Lib.hid hfit
  clear h hfit
  obtain ⟨n, hn⟩ : ∃ n, n = l.length := ⟨_, rfl⟩
  rw [← hn] at hc hm HL ⊢
  have HN := Lib.hid hn
  clear hn
  go_enter Try.func4, Try.ntmps4
  go_wp2_with fail
  refine (all_any _ l _ HL.out HFIT.out).mono ?_
  rintro e w1 ⟨he, hb1⟩
  have HB1 := Lib.hid hb1
  clear hb1
  rcases he with ⟨rfl, hl30, hbr⟩ | rfl
  case inr =>
    go_wp2
    go_ret
    exact ⟨rfl, HB1.out⟩
  have HBR := Lib.hid hbr
  have hn30 : n ≤ 30 := by rw [HN.out]; exact hl30
  clear hbr hl30
  go_wp2_with fail
  refine (told_any _ l _ (HL.out.below HB1.out) HFIT.out HBR.out (by rw [← HN.out]; exact hn30)).mono ?_
  rintro e w2 ⟨g, S, rfl, hk, hS, hb2⟩
  have HK := Lib.hid hk
  have HB2 := Lib.hid (HB1.out.trans (hb2.mono HB1.out.size))
  have hc60 : 60 * l.length ≤ 1800 := by rw [← HN.out]; omega
  have HC60 := Lib.hid hc60
  clear hk hS hb2 hc60
  go_wp2
  --S1
  go_loopw [5] (fun i wr => ∃ k : Nat, k ≤ n ∧ i = .int .i64 k ∧ Hid (Below w2.heap.size w2 wr)) (fun i _ => n - (intOf i).toNat)
  case atStart => exact ⟨0, by omega, rfl, Below.refl _ _⟩
  case round =>
    obtain ⟨i, hi, rfl, HB⟩ := hrel
    by_cases l1 : i < n
    · have hil : i < l.length := by rw [← HN.out]; exact l1
      have RL := HL.out.below (HB2.out.trans (HB.out.mono HB2.out.size))
      obtain ⟨ad, _, ea0, _, _, _, _⟩ := RL.get i hil
      subst ea0
      obtain ⟨ad', vdQ, eaQ, p0Q, p1Q, p2Q, hsQ⟩ := RL.get i hil
      injection eaQ with eaQ
      subst eaQ
      have hmemQ := (take_at l zdep i hil).2
      have QF := Lib.hid (HFIT.out _ hmemQ)
      have QB := Lib.hid (HBR.out _ hmemQ)
      obtain ⟨d, hdQ⟩ : ∃ d, d = l.getD i zdep := ⟨_, rfl⟩
      rw [← hdQ] at p0Q p1Q hsQ QF QB
      have QE := Lib.hid hdQ
      obtain ⟨AQ, cQ, evQ, _, _⟩ := ss_len hsQ
      subst evQ
      obtain ⟨nQ, hnQ⟩ : ∃ nQ, nQ = d.deps.length := ⟨_, rfl⟩
      rw [← hnQ] at hsQ p2Q
      have QD : Hid (DepIs wr (.agg #[.string d.out, .int .i64 d.time, .slice AQ nQ cQ]) d) := ⟨_, rfl, hsQ⟩
      have Q0 := Lib.hid p0Q
      have Q1 := Lib.hid p1Q
      have Q2 := Lib.hid p2Q
      clear hmemQ hdQ hsQ hnQ p0Q p1Q p2Q
      have HIL := Lib.hid hil
      clear RL hil
      go_wp2
      --S2
      refine start_ (n := 12) (S := fun w' => Below wr.heap.size wr w' ∧ w'.cell? (ad.add (i * 3)) = some (.string d.out) ∧ w'.cell? ⟨(ad.add (i * 3)).block, (ad.add (i * 3)).off + 1, none⟩ = some (.int .i64 d.time) ∧ w'.cell? ⟨(ad.add (i * 3)).block, (ad.add (i * 3)).off + 2, none⟩ = some (.slice AQ nQ cQ)) (ds := []) #[false, false, false, false, false, false, false, false, false, false, false, false] (by kernel_rfl) rfl rfl ⟨Below.drew (Below.refl _ _), Q0.out, Q1.out, Q2.out⟩ (fun hHeld => ?_)
      refine pure_ (i := 1) (N := some 32) (v := ?_) (a' := ?_) #[false, true, false, false, false, false, false, false, false, false, false, false] rfl rfl (by kernel_rfl) (fun _ _ _ h => h) (Or.inl ⟨by rfl, ?_⟩) ?_ ?_
      rotate_left
      · intro w'
        go_simp
        with_reducible rfl
      rotate_left
      · simp only [Act.put, List.setIfInBounds_toArray, List.set_cons_zero, List.set_cons_succ, i64_w, i32_w]
        rfl
      refine pure_ (i := 2) (N := some 33) (v := ?_) (a' := ?_) #[false, true, true, false, false, false, false, false, false, false, false, false] rfl rfl (by kernel_rfl) (fun _ _ _ h => h) (Or.inl ⟨by rfl, ?_⟩) ?_ ?_
      rotate_left
      · intro w'
        go_simp
        with_reducible rfl
      rotate_left
      · simp only [Act.put, List.setIfInBounds_toArray, List.set_cons_zero, List.set_cons_succ, i64_w, i32_w]
        rfl
      refine pure_ (i := 3) (N := some 34) (v := ?_) (a' := ?_) #[false, true, true, true, false, false, false, false, false, false, false, false] rfl rfl (by kernel_rfl) (fun _ _ _ h => h) (Or.inl ⟨by rfl, ?_⟩) ?_ ?_
      rotate_left
      · intro w'
        go_simp
        with_reducible rfl
      rotate_left
      · simp only [Act.put, List.setIfInBounds_toArray, List.set_cons_zero, List.set_cons_succ, i64_w, i32_w]
        rfl
      refine take_ (i := 4) (N := some 35) (v := ?_) (a' := ?_) #[false, true, true, true, true, false, false, false, false, false, false, false] rfl rfl (by kernel_rfl) (fun _ _ _ h => h) (Or.inl ⟨by rfl, ?_⟩) hHeld ?_ ?_
      rotate_left
      · rintro w' ⟨s0, s1, s2, s3⟩
        go_simp
        with_reducible rfl
      rotate_left
      · simp only [Act.put, List.setIfInBounds_toArray, List.set_cons_zero, List.set_cons_succ, i64_w, i32_w]
        rfl
      refine one_ (i := 0) (N := some 31) #[true, true, true, true, true, false, false, false, false, false, false, false] rfl rfl (by kernel_rfl) (by decide) (fun K hK => ?_)
      refine goes_ Try.func11 (by kernel_rfl) rfl #[] (by rfl) rfl rfl (by first | (simp only [List.map_toArray, List.map_cons, List.map_nil]; done) | (simp only [List.map_toArray, List.map_cons, List.map_nil]; rfl) | rfl) ?_
      with_reducible refine (bnew_any _).mono ?_
      rintro e wn ⟨gn, rfl, kn, bn⟩
      refine ⟨_, rfl, ?_⟩
      have hbn := hHeld.1.trans (bn.mono hHeld.1.size)
      have HKN := Lib.hid kn
      clear kn bn
      refine hK.out _ _ ⟨hbn, pw_cell_below (hbn) Q0.out, pw_cell_below (hbn) Q1.out, pw_cell_below (hbn) Q2.out⟩ (fun hHeld => ?_)
      clear hK K
      refine norm_ (a' := ?_) ?_ ?_
      rotate_left
      · show Act.put _ (some 31) _ = _
        simp only [Act.put, List.setIfInBounds_toArray, List.set_cons_zero, List.set_cons_succ, i64_w, i32_w]
        rfl
      refine one_ (i := 5) (N := some 36) #[true, true, true, true, true, true, false, false, false, false, false, false] rfl rfl (by kernel_rfl) (by decide) (fun K hK => ?_)
      refine goes_ Try.func13 (by kernel_rfl) rfl #[.agg #[.string d.out, .int .i64 d.time, .slice AQ nQ cQ]] (by rfl) rfl rfl (by first | (simp only [List.map_toArray, List.map_cons, List.map_nil]; done) | (simp only [List.map_toArray, List.map_cons, List.map_nil]; rfl) | rfl) ?_
      with_reducible refine (given_any _ d _ (QD.out.below hHeld.1) (by have := QB.out.few; omega)).mono ?_
      rintro e wg ⟨vg, rfl, dg, bg⟩
      refine ⟨_, rfl, ?_⟩
      have hbg := hHeld.1.trans (bg.mono hHeld.1.size)
      have HDG := Lib.hid dg
      have HBG := Lib.hid bg
      clear dg bg
      refine hK.out _ _ ⟨hbg, pw_cell_below (hbg) Q0.out, pw_cell_below (hbg) Q1.out, pw_cell_below (hbg) Q2.out⟩ (fun hHeld => ?_)
      clear hK K
      refine norm_ (a' := ?_) ?_ ?_
      rotate_left
      · show Act.put _ (some 36) _ = _
        simp only [Act.put, List.setIfInBounds_toArray, List.set_cons_zero, List.set_cons_succ, i64_w, i32_w]
        rfl
      refine one_ (i := 6) (N := some 37) #[true, true, true, true, true, true, true, false, false, false, false, false] rfl rfl (by kernel_rfl) (by decide) (fun K hK => ?_)
      refine goes_ Try.func12 (by kernel_rfl) rfl #[.pointer (some ⟨gn, 0, none⟩), vg] (by rfl) rfl rfl (by first | (simp only [List.map_toArray, List.map_cons, List.map_nil]; done) | (simp only [List.map_toArray, List.map_cons, List.map_nil]; rfl) | rfl) ?_
      with_reducible refine (plan_any _ _ gn _ _ d _ (HKN.out.below HBG.out) HDG.out QF.out (by omega) (by have := QB.out.few; omega)).mono ?_
      rintro e wp ⟨vp, rfl, rp⟩
      refine ⟨_, rfl, ?_⟩
      have hbp := hHeld.1.trans (rp.below.mono hHeld.1.size)
      obtain ⟨Ap, np, cp, rfl, hnp⟩ := rp.slice
      clear rp hnp
      refine hK.out _ _ ⟨hbp, pw_cell_below (hbp) Q0.out, pw_cell_below (hbp) Q1.out, pw_cell_below (hbp) Q2.out⟩ (fun hHeld => ?_)
      clear hK K
      refine norm_ (a' := ?_) ?_ ?_
      rotate_left
      · show Act.put _ (some 37) _ = _
        simp only [Act.put, List.setIfInBounds_toArray, List.set_cons_zero, List.set_cons_succ, i64_w, i32_w]
        rfl
      refine pure_ (i := 7) (N := some 30) (v := ?_) (a' := ?_) #[true, true, true, true, true, true, true, true, false, false, false, false] rfl rfl (by kernel_rfl) (fun _ _ _ h => h) (Or.inl ⟨by rfl, ?_⟩) ?_ ?_
      rotate_left
      · intro w'
        go_simp
        with_reducible rfl
      rotate_left
      · simp only [Act.put, List.setIfInBounds_toArray, List.set_cons_zero, List.set_cons_succ, i64_w, i32_w]
        rfl
      refine pure_ (i := 8) (N := some 38) (v := ?_) (a' := ?_) #[true, true, true, true, true, true, true, true, true, false, false, false] rfl rfl (by kernel_rfl) (fun _ _ _ h => h) (Or.inl ⟨by rfl, ?_⟩) ?_ ?_
      rotate_left
      · intro w'
        go_simp
        with_reducible rfl
      rotate_left
      · simp only [Act.put, List.setIfInBounds_toArray, List.set_cons_zero, List.set_cons_succ, i64_w, i32_w]
        rfl
      refine pure_ (i := 9) (N := some 39) (v := ?_) (a' := ?_) #[true, true, true, true, true, true, true, true, true, true, false, false] rfl rfl (by kernel_rfl) (fun _ _ _ h => h) (Or.inl ⟨by rfl, ?_⟩) ?_ ?_
      rotate_left
      · intro w'
        go_simp
        with_reducible rfl
      rotate_left
      · simp only [Act.put, List.setIfInBounds_toArray, List.set_cons_zero, List.set_cons_succ, i64_w, i32_w]
        rfl
      refine pure_ (i := 10) (N := some 6) (v := ?_) (a' := ?_) #[true, true, true, true, true, true, true, true, true, true, true, false] rfl rfl (by kernel_rfl) (fun _ _ _ h => h) (Or.inl ⟨by rfl, ?_⟩) ?_ ?_
      rotate_left
      · intro w'
        go_simp
        with_reducible rfl
      rotate_left
      · simp only [Act.put, List.setIfInBounds_toArray, List.set_cons_zero, List.set_cons_succ, i64_w, i32_w]
        rfl
      refine pure_ (i := 11) (N := some 7) (v := ?_) (a' := ?_) #[true, true, true, true, true, true, true, true, true, true, true, true] rfl rfl (by kernel_rfl) (fun _ _ _ h => h) (Or.inl ⟨by rfl, ?_⟩) ?_ ?_
      rotate_left
      · intro w'
        go_simp
        with_reducible rfl
      rotate_left
      · simp only [Act.put, List.setIfInBounds_toArray, List.set_cons_zero, List.set_cons_succ, i64_w, i32_w]
        rfl
      refine done_ (by kernel_rfl) ?_
      --S3
      have HB3 := Lib.hid (HB.out.trans (hHeld.1.mono HB.out.size))
      have HL3 := Lib.hid (HL.out.below (HB2.out.trans (HB3.out.mono HB2.out.size)))
      have HLB : Hid (lastB l i (i + 1) = (planE d == 0)) := by
        show _ = _
        rw [lastB_first, ← QE.out]
        by_cases h : planE d = 0 <;> simp [h]
      obtain ⟨wo, hwo⟩ : ∃ wo, wo = wp := ⟨_, rfl⟩
      subst hwo
      obtain ⟨lb, hlb⟩ : ∃ lb, lb = (planE d == 0) := ⟨_, rfl⟩
      rw [← hlb] at HLB
      have HLBE := Lib.hid hlb
      have hpd : (planE d == 0) = lb := hlb.symm
      clear hHeld HKN HDG HBG hlb Q0 Q1 Q2 QD
      go_wp2
      --S4
      clear hpd
      go_loopw [8, 9] (fun sl ik wr => ∃ (k : Nat) (lc : Bool), i < k ∧ k ≤ n ∧ ik = .int .i64 k ∧ sl = .bool lc ∧ Hid (lc = lastB l i k) ∧ Hid (Below wo.heap.size wo wr)) (fun _ ik _ => n - (intOf ik).toNat)
      case atStart => exact ⟨i + 1, _, by omega, by omega, by go_num, rfl, HLB.out.symm, Below.refl _ _⟩
      case round =>
        obtain ⟨k, lc, hik, hk, rfl, rfl, HLC, HBk⟩ := hrel
        by_cases l2 : k < n
        · have hkl : k < l.length := by rw [← HN.out]; exact l2
          have RL := HL3.out.below HBk.out
          obtain ⟨ad', vdR, eaR, p0R, p1R, p2R, hsR⟩ := RL.get k hkl
          injection eaR with eaR
          subst eaR
          have hmemR := (take_at l zdep k hkl).2
          have RF := Lib.hid (HFIT.out _ hmemR)
          have RB := Lib.hid (HBR.out _ hmemR)
          obtain ⟨dk, hdR⟩ : ∃ dk, dk = l.getD k zdep := ⟨_, rfl⟩
          rw [← hdR] at p0R p1R hsR RF RB
          have RE := Lib.hid hdR
          obtain ⟨AR, cR, evR, _, _⟩ := ss_len hsR
          subst evR
          obtain ⟨nR, hnR⟩ : ∃ nR, nR = dk.deps.length := ⟨_, rfl⟩
          rw [← hnR] at hsR p2R
          have RD : Hid (DepIs wr (.agg #[.string dk.out, .int .i64 dk.time, .slice AR nR cR]) dk) := ⟨_, rfl, hsR⟩
          have R0 := Lib.hid p0R
          have R1 := Lib.hid p1R
          have R2 := Lib.hid p2R
          clear hmemR hdR hsR hnR p0R p1R p2R
          obtain ⟨adx, vdx, eax, p0x, _⟩ := RL.get i HIL.out
          injection eax with eax
          subst eax
          rw [← QE.out] at p0x
          have X0 := Lib.hid p0x
          have HKL := Lib.hid hkl
          clear RL hkl p0x
          go_wp2
          --S5
          refine start_ (n := 12) (S := fun w' => Below wr.heap.size wr w' ∧ w'.cell? (ad.add (k * 3)) = some (.string dk.out) ∧ w'.cell? ⟨(ad.add (k * 3)).block, (ad.add (k * 3)).off + 1, none⟩ = some (.int .i64 dk.time) ∧ w'.cell? ⟨(ad.add (k * 3)).block, (ad.add (k * 3)).off + 2, none⟩ = some (.slice AR nR cR)) (ds := []) #[false, false, false, false, false, false, false, false, false, false, false, false] (by kernel_rfl) rfl rfl ⟨Below.drew (Below.refl _ _), R0.out, R1.out, R2.out⟩ (fun hHeld => ?_)
          refine pure_ (i := 1) (N := some 52) (v := ?_) (a' := ?_) #[false, true, false, false, false, false, false, false, false, false, false, false] rfl rfl (by kernel_rfl) (fun _ _ _ h => h) (Or.inl ⟨by rfl, ?_⟩) ?_ ?_
          rotate_left
          · intro w'
            go_simp
            with_reducible rfl
          rotate_left
          · simp only [Act.put, List.setIfInBounds_toArray, List.set_cons_zero, List.set_cons_succ, i64_w, i32_w]
            rfl
          refine pure_ (i := 2) (N := some 53) (v := ?_) (a' := ?_) #[false, true, true, false, false, false, false, false, false, false, false, false] rfl rfl (by kernel_rfl) (fun _ _ _ h => h) (Or.inl ⟨by rfl, ?_⟩) ?_ ?_
          rotate_left
          · intro w'
            go_simp
            with_reducible rfl
          rotate_left
          · simp only [Act.put, List.setIfInBounds_toArray, List.set_cons_zero, List.set_cons_succ, i64_w, i32_w]
            rfl
          refine pure_ (i := 3) (N := some 54) (v := ?_) (a' := ?_) #[false, true, true, true, false, false, false, false, false, false, false, false] rfl rfl (by kernel_rfl) (fun _ _ _ h => h) (Or.inl ⟨by rfl, ?_⟩) ?_ ?_
          rotate_left
          · intro w'
            go_simp
            with_reducible rfl
          rotate_left
          · simp only [Act.put, List.setIfInBounds_toArray, List.set_cons_zero, List.set_cons_succ, i64_w, i32_w]
            rfl
          refine take_ (i := 4) (N := some 55) (v := ?_) (a' := ?_) #[false, true, true, true, true, false, false, false, false, false, false, false] rfl rfl (by kernel_rfl) (fun _ _ _ h => h) (Or.inl ⟨by rfl, ?_⟩) hHeld ?_ ?_
          rotate_left
          · rintro w' ⟨s0, s1, s2, s3⟩
            go_simp
            with_reducible rfl
          rotate_left
          · simp only [Act.put, List.setIfInBounds_toArray, List.set_cons_zero, List.set_cons_succ, i64_w, i32_w]
            rfl
          refine one_ (i := 0) (N := some 51) #[true, true, true, true, true, false, false, false, false, false, false, false] rfl rfl (by kernel_rfl) (by decide) (fun K hK => ?_)
          refine goes_ Try.func11 (by kernel_rfl) rfl #[] (by rfl) rfl rfl (by first | (simp only [List.map_toArray, List.map_cons, List.map_nil]; done) | (simp only [List.map_toArray, List.map_cons, List.map_nil]; rfl) | rfl) ?_
          with_reducible refine (bnew_any _).mono ?_
          rintro e wn ⟨gn, rfl, kn, bn⟩
          refine ⟨_, rfl, ?_⟩
          have hbn := hHeld.1.trans (bn.mono hHeld.1.size)
          have HKN := Lib.hid kn
          clear kn bn
          refine hK.out _ _ ⟨hbn, pw_cell_below (hbn) R0.out, pw_cell_below (hbn) R1.out, pw_cell_below (hbn) R2.out⟩ (fun hHeld => ?_)
          clear hK K
          refine norm_ (a' := ?_) ?_ ?_
          rotate_left
          · show Act.put _ (some 51) _ = _
            simp only [Act.put, List.setIfInBounds_toArray, List.set_cons_zero, List.set_cons_succ, i64_w, i32_w]
            rfl
          refine one_ (i := 5) (N := some 56) #[true, true, true, true, true, true, false, false, false, false, false, false] rfl rfl (by kernel_rfl) (by decide) (fun K hK => ?_)
          refine goes_ Try.func13 (by kernel_rfl) rfl #[.agg #[.string dk.out, .int .i64 dk.time, .slice AR nR cR]] (by rfl) rfl rfl (by first | (simp only [List.map_toArray, List.map_cons, List.map_nil]; done) | (simp only [List.map_toArray, List.map_cons, List.map_nil]; rfl) | rfl) ?_
          with_reducible refine (given_any _ dk _ (RD.out.below hHeld.1) (by have := RB.out.few; omega)).mono ?_
          rintro e wg ⟨vg, rfl, dg, bg⟩
          refine ⟨_, rfl, ?_⟩
          have hbg := hHeld.1.trans (bg.mono hHeld.1.size)
          have HDG := Lib.hid dg
          have HBG := Lib.hid bg
          clear dg bg
          refine hK.out _ _ ⟨hbg, pw_cell_below (hbg) R0.out, pw_cell_below (hbg) R1.out, pw_cell_below (hbg) R2.out⟩ (fun hHeld => ?_)
          clear hK K
          refine norm_ (a' := ?_) ?_ ?_
          rotate_left
          · show Act.put _ (some 56) _ = _
            simp only [Act.put, List.setIfInBounds_toArray, List.set_cons_zero, List.set_cons_succ, i64_w, i32_w]
            rfl
          refine one_ (i := 6) (N := some 57) #[true, true, true, true, true, true, true, false, false, false, false, false] rfl rfl (by kernel_rfl) (by decide) (fun K hK => ?_)
          refine goes_ Try.func12 (by kernel_rfl) rfl #[.pointer (some ⟨gn, 0, none⟩), vg] (by rfl) rfl rfl (by first | (simp only [List.map_toArray, List.map_cons, List.map_nil]; done) | (simp only [List.map_toArray, List.map_cons, List.map_nil]; rfl) | rfl) ?_
          with_reducible refine (plan_any _ _ gn _ _ dk _ (HKN.out.below HBG.out) HDG.out RF.out (by omega) (by have := RB.out.few; omega)).mono ?_
          rintro e wp ⟨vp, rfl, rp⟩
          refine ⟨_, rfl, ?_⟩
          have hbp := hHeld.1.trans (rp.below.mono hHeld.1.size)
          obtain ⟨Ap, np, cp, rfl, hnp⟩ := rp.slice
          clear rp hnp
          refine hK.out _ _ ⟨hbp, pw_cell_below (hbp) R0.out, pw_cell_below (hbp) R1.out, pw_cell_below (hbp) R2.out⟩ (fun hHeld => ?_)
          clear hK K
          refine norm_ (a' := ?_) ?_ ?_
          rotate_left
          · show Act.put _ (some 57) _ = _
            simp only [Act.put, List.setIfInBounds_toArray, List.set_cons_zero, List.set_cons_succ, i64_w, i32_w]
            rfl
          refine pure_ (i := 7) (N := some 50) (v := ?_) (a' := ?_) #[true, true, true, true, true, true, true, true, false, false, false, false] rfl rfl (by kernel_rfl) (fun _ _ _ h => h) (Or.inl ⟨by rfl, ?_⟩) ?_ ?_
          rotate_left
          · intro w'
            go_simp
            with_reducible rfl
          rotate_left
          · simp only [Act.put, List.setIfInBounds_toArray, List.set_cons_zero, List.set_cons_succ, i64_w, i32_w]
            rfl
          refine pure_ (i := 8) (N := some 58) (v := ?_) (a' := ?_) #[true, true, true, true, true, true, true, true, true, false, false, false] rfl rfl (by kernel_rfl) (fun _ _ _ h => h) (Or.inl ⟨by rfl, ?_⟩) ?_ ?_
          rotate_left
          · intro w'
            go_simp
            with_reducible rfl
          rotate_left
          · simp only [Act.put, List.setIfInBounds_toArray, List.set_cons_zero, List.set_cons_succ, i64_w, i32_w]
            rfl
          refine pure_ (i := 9) (N := some 59) (v := ?_) (a' := ?_) #[true, true, true, true, true, true, true, true, true, true, false, false] rfl rfl (by kernel_rfl) (fun _ _ _ h => h) (Or.inl ⟨by rfl, ?_⟩) ?_ ?_
          rotate_left
          · intro w'
            go_simp
            with_reducible rfl
          rotate_left
          · simp only [Act.put, List.setIfInBounds_toArray, List.set_cons_zero, List.set_cons_succ, i64_w, i32_w]
            rfl
          refine pure_ (i := 10) (N := some 10) (v := ?_) (a' := ?_) #[true, true, true, true, true, true, true, true, true, true, true, false] rfl rfl (by kernel_rfl) (fun _ _ _ h => h) (Or.inl ⟨by rfl, ?_⟩) ?_ ?_
          rotate_left
          · intro w'
            go_simp
            with_reducible rfl
          rotate_left
          · simp only [Act.put, List.setIfInBounds_toArray, List.set_cons_zero, List.set_cons_succ, i64_w, i32_w]
            rfl
          refine pure_ (i := 11) (N := some 11) (v := ?_) (a' := ?_) #[true, true, true, true, true, true, true, true, true, true, true, true] rfl rfl (by kernel_rfl) (fun _ _ _ h => h) (Or.inl ⟨by rfl, ?_⟩) ?_ ?_
          rotate_left
          · intro w'
            go_simp
            with_reducible rfl
          rotate_left
          · simp only [Act.put, List.setIfInBounds_toArray, List.set_cons_zero, List.set_cons_succ, i64_w, i32_w]
            rfl
          refine done_ (by kernel_rfl) ?_
          --S6
          have hb6 := hHeld.1
          have HB6 := Lib.hid (HBk.out.trans (hb6.mono HBk.out.size))
          have r0 := pw_cell_below hb6 R0.out
          have x0 := pw_cell_below hb6 X0.out
          have HNX : Hid (lastB l i (k + 1) = (lc && !(decide (planE dk = 0) && decide (dk.out = d.out)))) := by show _ = _; rw [lastB_next hik HKL.out, ← RE.out, ← QE.out, ← HLC.out]
          clear hHeld HKN HDG HBG R0 R1 R2 RD X0 hb6
          by_cases hpe : planE dk = 0
          · have hpq : (planE dk == 0) = true := by rw [beq_iff_eq]; exact hpe
            by_cases hs : dk.out = d.out
            · have hq : (dk.out.toList == d.out.toList) = true := by rw [seq_iff]; exact decide_eq_true hs
              have HE : Hid (lastB l i (k + 1) = false) := by show _ = _; rw [HNX.out, decide_eq_true hpe, decide_eq_true hs]; simp
              clear hs hpe
              go_wp2
              go_quiet (fail)
              go_wp2
              go_roundw
              case rel => exact ⟨k + 1, false, by omega, by omega, by go_num, rfl, HE.out.symm, pw_below_drewN HB6.out _⟩
              case measure => simp [intOf]; omega
            · have hq : (dk.out.toList == d.out.toList) = false := by rw [seq_iff]; exact decide_eq_false hs
              have HE : Hid (lastB l i (k + 1) = lc) := by show _ = _; rw [HNX.out, decide_eq_false hs]; simp
              clear hs hpe
              go_wp2
              go_quiet (fail)
              go_wp2
              go_roundw
              case rel => exact ⟨k + 1, lc, by omega, by omega, by go_num, rfl, HE.out.symm, pw_below_drewN HB6.out _⟩
              case measure => simp [intOf]; omega
          · have hpq : (planE dk == 0) = false := by rw [beq_eq_false_iff_ne]; exact hpe
            have HE : Hid (lastB l i (k + 1) = lc) := by show _ = _; rw [HNX.out, decide_eq_false hpe]; simp
            clear hpe
            go_wp2
            go_quiet (fail)
            go_wp2
            go_roundw
            case rel => exact ⟨k + 1, lc, by omega, by omega, by go_num, rfl, HE.out.symm, pw_below_drewN HB6.out _⟩
            case measure => simp [intOf]; omega
        · have hk2 : k = n := by omega
          have HLE : Hid (lc = lastB l i l.length) := by have h := HLC.out; rw [hk2, HN.out] at h; exact h
          have hkl : i < l.length := HIL.out
          have RL := HL3.out.below HBk.out
          clear hk2
          obtain ⟨ad', vdR, eaR, p0R, p1R, p2R, hsR⟩ := RL.get i hkl
          injection eaR with eaR
          subst eaR
          have hmemR := (take_at l zdep i hkl).2
          have RF := Lib.hid (HFIT.out _ hmemR)
          have RB := Lib.hid (HBR.out _ hmemR)
          obtain ⟨d2, hdR⟩ : ∃ d2, d2 = l.getD i zdep := ⟨_, rfl⟩
          rw [← hdR] at p0R p1R hsR RF RB
          have RE := Lib.hid hdR
          obtain ⟨AR, cR, evR, _, _⟩ := ss_len hsR
          subst evR
          obtain ⟨nR, hnR⟩ : ∃ nR, nR = d2.deps.length := ⟨_, rfl⟩
          rw [← hnR] at hsR p2R
          have RD : Hid (DepIs wr (.agg #[.string d2.out, .int .i64 d2.time, .slice AR nR cR]) d2) := ⟨_, rfl, hsR⟩
          have R0 := Lib.hid p0R
          have R1 := Lib.hid p1R
          have R2 := Lib.hid p2R
          clear hmemR hdR hsR hnR p0R p1R p2R
          obtain rfl : d2 = d := by rw [RE.out, QE.out]
          have HB4 := Lib.hid (HB3.out.trans (HBk.out.mono HB3.out.size))
          have HKr := Lib.hid (HK.out.below HB4.out)
          have r0 := R0.out
          clear RL hkl
          go_wp2_with fail
          --S8
          refine (look_any S _ g _ d2.out _ HKr.out (by have := QB.out.out; simp only [maxLen]; omega) (by have := HC60.out; omega) (tellA_deps l (fun x hx => by have := (HBR.out x hx).few; omega))).mono ?_
          rintro e w5 ⟨v5, rfl, hd5, hb5⟩
          have HB5 := Lib.hid (HB4.out.trans (hb5.mono HB4.out.size))
          have HR5 := Lib.hid (RD.out.below hb5)
          have T0 := Lib.hid (pw_cell_below hb5 R0.out)
          have T1 := Lib.hid (pw_cell_below hb5 R1.out)
          have T2 := Lib.hid (pw_cell_below hb5 R2.out)
          clear r0 hb5
          cases lc
          case false =>
            generalize (lookV (tellA l) d2.out).getD zdep = dx at hd5
            generalize (lookV (tellA l) d2.out).isSome = bx
            obtain ⟨vd5, rfl, hr5⟩ := hd5
            obtain ⟨A5, c5, ev5⟩ := Kd.R_slice hr5
            subst ev5
            clear hr5
            have HBA := Lib.hid (below_alloc HB5.out (.cells #[.string dx.out, .int .i64 dx.time, .slice A5 dx.deps.length c5] 36))
            have HS5 := Lib.hid HB5.out.size
            go_wp2
            go_quiet (fail)
            go_wp2
            go_roundw
            case rel => exact ⟨i + 1, by omega, by go_num, pw_below_drewN (HB5.out.alloc HB5.out.size _) _⟩
            case measure => simp [intOf]; omega
          case true =>
            have hlk := lastB_look HIL.out HLE.out.symm
            rw [← QE.out] at hlk
            rw [hlk] at hd5 ⊢
            simp only [Option.getD_some, Option.isSome_some] at hd5 ⊢
            obtain ⟨vd5, rfl, hr5⟩ := hd5
            obtain ⟨A5, c5, ev5⟩ := Kd.R_slice hr5
            obtain ⟨n5, hn5⟩ : ∃ n5, n5 = d2.deps.length := ⟨_, rfl⟩
            rw [← hn5] at ev5
            subst ev5
            obtain ⟨x5, hx5⟩ : ∃ x5, w5.heap.size = x5 := ⟨_, rfl⟩
            obtain ⟨w6, hw6⟩ : ∃ w6, w6 = w5.alloc (.cells #[.string d2.out, .int .i64 d2.time, .slice A5 n5 c5] 36) := ⟨_, rfl⟩
            have hb6 : Below w5.heap.size w5 w6 := by rw [hw6]; exact below_alloc (Below.refl _ _) _
            have X6 : Hid (w6.heap[x5]? = some (.cells #[.string d2.out, .int .i64 d2.time, .slice A5 n5 c5] 36 (0, 0))) := by show _ = _; rw [hw6, ← hx5]; exact blk_new w5 _
            have HD6 : Hid (DepIs w6 (.agg #[.string d2.out, .int .i64 d2.time, .slice A5 n5 c5]) d2) := ⟨_, rfl, (r_ss hr5).below hb6⟩
            have HR6 := Lib.hid (HR5.out.below hb6)
            have HB6 := Lib.hid (HB5.out.trans (hb6.mono HB5.out.size))
            have U0 := Lib.hid (pw_cell_below hb6 T0.out)
            have U1 := Lib.hid (pw_cell_below hb6 T1.out)
            have U2 := Lib.hid (pw_cell_below hb6 T2.out)
            have V0 := Lib.hid (show w6.cell? ⟨x5, 0, none⟩ = some (.string d2.out) from blk_cell X6.out 0)
            have V1 := Lib.hid (show w6.cell? ⟨x5, 1, none⟩ = some (.int .i64 d2.time) from blk_cell X6.out 1)
            have V2 := Lib.hid (show w6.cell? ⟨x5, 2, none⟩ = some (.slice A5 n5 c5) from blk_cell X6.out 2)
            have HW6 := Lib.hid hw6
            clear hr5 hn5 hb6 hw6 hlk
            go_upto_region 18 with (fail)
            rw [← HW6.out]
            try rw [hx5]
            clear hx5
            --S9
            refine start_ (n := 15) (S := fun w' => Below w6.heap.size w6 w' ∧ w'.cell? ⟨x5, 0, none⟩ = some (.string d2.out) ∧ w'.cell? ⟨x5, 1, none⟩ = some (.int .i64 d2.time) ∧ w'.cell? ⟨x5, 2, none⟩ = some (.slice A5 n5 c5) ∧ w'.cell? (ad.add (i * 3)) = some (.string d2.out) ∧ w'.cell? ⟨(ad.add (i * 3)).block, (ad.add (i * 3)).off + 1, none⟩ = some (.int .i64 d2.time) ∧ w'.cell? ⟨(ad.add (i * 3)).block, (ad.add (i * 3)).off + 2, none⟩ = some (.slice AR nR cR)) (ds := []) #[false, false, false, false, false, false, false, false, false, false, false, false, false, false, false] (by kernel_rfl) rfl rfl ⟨Below.drew (Below.refl _ _), V0.out, V1.out, V2.out, U0.out, U1.out, U2.out⟩ (fun hHeld => ?_)
            refine pure_ (i := 0) (N := some 85) (v := ?_) (a' := ?_) #[true, false, false, false, false, false, false, false, false, false, false, false, false, false, false] rfl rfl (by kernel_rfl) (fun _ _ _ h => h) (Or.inl ⟨by rfl, ?_⟩) ?_ ?_
            rotate_left
            · intro w'
              go_simp
              with_reducible rfl
            rotate_left
            · simp only [Act.put, List.setIfInBounds_toArray, List.set_cons_zero, List.set_cons_succ, i64_w, i32_w]
              rfl
            refine pure_ (i := 1) (N := some 86) (v := ?_) (a' := ?_) #[true, true, false, false, false, false, false, false, false, false, false, false, false, false, false] rfl rfl (by kernel_rfl) (fun _ _ _ h => h) (Or.inl ⟨by rfl, ?_⟩) ?_ ?_
            rotate_left
            · intro w'
              go_simp
              with_reducible rfl
            rotate_left
            · simp only [Act.put, List.setIfInBounds_toArray, List.set_cons_zero, List.set_cons_succ, i64_w, i32_w]
              rfl
            refine pure_ (i := 2) (N := some 87) (v := ?_) (a' := ?_) #[true, true, true, false, false, false, false, false, false, false, false, false, false, false, false] rfl rfl (by kernel_rfl) (fun _ _ _ h => h) (Or.inl ⟨by rfl, ?_⟩) ?_ ?_
            rotate_left
            · intro w'
              go_simp
              with_reducible rfl
            rotate_left
            · simp only [Act.put, List.setIfInBounds_toArray, List.set_cons_zero, List.set_cons_succ, i64_w, i32_w]
              rfl
            refine pure_ (i := 3) (N := some 88) (v := ?_) (a' := ?_) #[true, true, true, true, false, false, false, false, false, false, false, false, false, false, false] rfl rfl (by kernel_rfl) (fun _ _ _ h => h) (Or.inl ⟨by rfl, ?_⟩) ?_ ?_
            rotate_left
            · intro w'
              go_simp
              with_reducible rfl
            rotate_left
            · simp only [Act.put, List.setIfInBounds_toArray, List.set_cons_zero, List.set_cons_succ, i64_w, i32_w]
              rfl
            refine pure_ (i := 4) (N := some 89) (v := ?_) (a' := ?_) #[true, true, true, true, true, false, false, false, false, false, false, false, false, false, false] rfl rfl (by kernel_rfl) (fun _ _ _ h => h) (Or.inl ⟨by rfl, ?_⟩) ?_ ?_
            rotate_left
            · intro w'
              go_simp
              with_reducible rfl
            rotate_left
            · simp only [Act.put, List.setIfInBounds_toArray, List.set_cons_zero, List.set_cons_succ, i64_w, i32_w]
              rfl
            refine pure_ (i := 7) (N := some 92) (v := ?_) (a' := ?_) #[true, true, true, true, true, false, false, true, false, false, false, false, false, false, false] rfl rfl (by kernel_rfl) (fun _ _ _ h => h) (Or.inl ⟨by rfl, ?_⟩) ?_ ?_
            rotate_left
            · intro w'
              go_simp
              with_reducible rfl
            rotate_left
            · simp only [Act.put, List.setIfInBounds_toArray, List.set_cons_zero, List.set_cons_succ, i64_w, i32_w]
              rfl
            refine pure_ (i := 8) (N := some 93) (v := ?_) (a' := ?_) #[true, true, true, true, true, false, false, true, true, false, false, false, false, false, false] rfl rfl (by kernel_rfl) (fun _ _ _ h => h) (Or.inl ⟨by rfl, ?_⟩) ?_ ?_
            rotate_left
            · intro w'
              go_simp
              with_reducible rfl
            rotate_left
            · simp only [Act.put, List.setIfInBounds_toArray, List.set_cons_zero, List.set_cons_succ, i64_w, i32_w]
              rfl
            refine pure_ (i := 9) (N := some 94) (v := ?_) (a' := ?_) #[true, true, true, true, true, false, false, true, true, true, false, false, false, false, false] rfl rfl (by kernel_rfl) (fun _ _ _ h => h) (Or.inl ⟨by rfl, ?_⟩) ?_ ?_
            rotate_left
            · intro w'
              go_simp
              with_reducible rfl
            rotate_left
            · simp only [Act.put, List.setIfInBounds_toArray, List.set_cons_zero, List.set_cons_succ, i64_w, i32_w]
              rfl
            refine take_ (i := 5) (N := some 90) (v := ?_) (a' := ?_) #[true, true, true, true, true, true, false, true, true, true, false, false, false, false, false] rfl rfl (by kernel_rfl) (fun _ _ _ h => h) (Or.inl ⟨by rfl, ?_⟩) hHeld ?_ ?_
            rotate_left
            · rintro w' ⟨s0, s1, s2, s3, s4, s5, s6⟩
              go_simp
              with_reducible rfl
            rotate_left
            · simp only [Act.put, List.setIfInBounds_toArray, List.set_cons_zero, List.set_cons_succ, i64_w, i32_w]
              rfl
            refine take_ (i := 10) (N := some 95) (v := ?_) (a' := ?_) #[true, true, true, true, true, true, false, true, true, true, true, false, false, false, false] rfl rfl (by kernel_rfl) (fun _ _ _ h => h) (Or.inl ⟨by rfl, ?_⟩) hHeld ?_ ?_
            rotate_left
            · rintro w' ⟨s0, s1, s2, s3, s4, s5, s6⟩
              go_simp
              with_reducible rfl
            rotate_left
            · simp only [Act.put, List.setIfInBounds_toArray, List.set_cons_zero, List.set_cons_succ, i64_w, i32_w]
              rfl
            refine one_ (i := 6) (N := some 91) #[true, true, true, true, true, true, true, true, true, true, true, false, false, false, false] rfl rfl (by kernel_rfl) (by decide) (fun K hK => ?_)
            refine goes_ Try.func19 (by kernel_rfl) rfl #[.agg #[.string d2.out, .int .i64 d2.time, .slice A5 n5 c5]] (by rfl) rfl rfl (by first | (simp only [List.map_toArray, List.map_cons, List.map_nil]; done) | (simp only [List.map_toArray, List.map_cons, List.map_nil]; rfl) | rfl) ?_
            with_reducible refine (found_any _ d2 _ (HD6.out.below hHeld.1)).mono ?_
            rintro e wf ⟨vf, rfl, df, bf⟩
            refine ⟨_, rfl, ?_⟩
            have hbf := hHeld.1.trans (bf.mono hHeld.1.size)
            have HDF := Lib.hid df
            clear df bf
            refine hK.out _ _ ⟨hbf, pw_cell_below (hbf) V0.out, pw_cell_below (hbf) V1.out, pw_cell_below (hbf) V2.out, pw_cell_below (hbf) U0.out, pw_cell_below (hbf) U1.out, pw_cell_below (hbf) U2.out⟩ (fun hHeld => ?_)
            clear hK K
            refine norm_ (a' := ?_) ?_ ?_
            rotate_left
            · show Act.put _ (some 91) _ = _
              simp only [Act.put, List.setIfInBounds_toArray, List.set_cons_zero, List.set_cons_succ, i64_w, i32_w]
              rfl
            refine one_ (i := 11) (N := some 96) #[true, true, true, true, true, true, true, true, true, true, true, true, false, false, false] rfl rfl (by kernel_rfl) (by decide) (fun K hK => ?_)
            refine goes_ Try.func18 (by kernel_rfl) rfl #[vf, .agg #[.string d2.out, .int .i64 d2.time, .slice AR nR cR]] (by rfl) rfl rfl (by first | (simp only [List.map_toArray, List.map_cons, List.map_nil]; done) | (simp only [List.map_toArray, List.map_cons, List.map_nil]; rfl) | rfl) ?_
            with_reducible refine (same_true _ _ d2 _ HDF.out (HR6.out.below hHeld.1)).mono ?_
            rintro e ws ⟨rfl, bs⟩
            refine ⟨_, rfl, ?_⟩
            have hbs := hHeld.1.trans (bs.mono hHeld.1.size)
            clear bs
            refine hK.out _ _ ⟨hbs, pw_cell_below (hbs) V0.out, pw_cell_below (hbs) V1.out, pw_cell_below (hbs) V2.out, pw_cell_below (hbs) U0.out, pw_cell_below (hbs) U1.out, pw_cell_below (hbs) U2.out⟩ (fun hHeld => ?_)
            clear hK K
            refine norm_ (a' := ?_) ?_ ?_
            rotate_left
            · show Act.put _ (some 96) _ = _
              simp only [Act.put, List.setIfInBounds_toArray, List.set_cons_zero, List.set_cons_succ, i64_w, i32_w]
              rfl
            refine pure_ (i := 12) (N := some 97) (v := ?_) (a' := ?_) #[true, true, true, true, true, true, true, true, true, true, true, true, true, false, false] rfl rfl (by kernel_rfl) (fun _ _ _ h => h) (Or.inl ⟨by rfl, ?_⟩) ?_ ?_
            rotate_left
            · intro w'
              go_simp
              with_reducible rfl
            rotate_left
            · simp only [Act.put, List.setIfInBounds_toArray, List.set_cons_zero, List.set_cons_succ, i64_w, i32_w]
              rfl
            refine pure_ (i := 13) (N := some 98) (v := ?_) (a' := ?_) #[true, true, true, true, true, true, true, true, true, true, true, true, true, true, false] rfl rfl (by kernel_rfl) (fun _ _ _ h => h) (Or.inl ⟨by rfl, ?_⟩) ?_ ?_
            rotate_left
            · intro w'
              go_simp
              with_reducible rfl
            rotate_left
            · simp only [Act.put, List.setIfInBounds_toArray, List.set_cons_zero, List.set_cons_succ, i64_w, i32_w]
              rfl
            refine pure_ (i := 14) (N := some 99) (v := ?_) (a' := ?_) #[true, true, true, true, true, true, true, true, true, true, true, true, true, true, true] rfl rfl (by kernel_rfl) (fun _ _ _ h => h) (Or.inl ⟨by rfl, ?_⟩) ?_ ?_
            rotate_left
            · intro w'
              go_simp
              with_reducible rfl
            rotate_left
            · simp only [Act.put, List.setIfInBounds_toArray, List.set_cons_zero, List.set_cons_succ, i64_w, i32_w]
              rfl
            refine done_ (by kernel_rfl) ?_
            --S10
            have HH := Lib.hid (HB6.out.trans (hHeld.1.mono HB6.out.size))
            clear hHeld
            go_wp2
            go_roundw
            case rel => exact ⟨i + 1, by omega, by go_num, HH.out⟩
            case measure => simp [intOf]; omega
    · have hk2 : i = n := by omega
      clear hk2
      go_wp2_with fail
      refine (awake_any _).mono ?_
      rintro e wv ⟨rfl, bs⟩
      have HH := Lib.hid (HB.out.trans (bs.mono HB.out.size))
      clear bs
      go_wp2
      go_ret
      exact ⟨rfl, HB2.out.trans (HH.out.mono HB2.out.size)⟩
--END WALK
end Go.Proofs.Ytinonkakpgiblaa.Nam
