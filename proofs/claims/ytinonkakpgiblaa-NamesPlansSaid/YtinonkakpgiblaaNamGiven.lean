/- The law's brief and given (walks). -/
import Derived.Test.YtinonkakpgiblaaNamPlan
import Derived.Test.YtinonkakpgiblaaStoreRow
namespace Go.Proofs.Ytinonkakpgiblaa.Nam
open Go.RowKit Go.Proofs.YtinonkakpgiblaaW.PrintWords Go.Proofs.YtinonkakpgiblaaW.PrintLast Go.Proofs.Ytinonkakpgiblaa.Base Go.Proofs.Ytinonkakpgiblaa.Pack Go.Maps
set_option linter.unusedVariables false
set_option linter.unusedSimpArgs false

structure BriefD (d : DepV) : Prop where
  out : d.out.size ≤ 5000
  few : d.deps.length ≤ 50
  deps : ∀ s ∈ d.deps, s.size ≤ 5000
set_option maxRecDepth 100000 in
set_option maxHeartbeats 1600000 in
theorem brief_any (v : Value) (d : DepV) (w : World) (h : DepIs w v d) (hf : FitD d) :
    Calls Try.prog 9 #[v] w fun e w' => ((e = .returned (.bool true) ∧ BriefD d) ∨ e = .returned (.bool false)) ∧ Below w.heap.size w w' := by
  obtain ⟨vd, rfl, hs⟩ := h
  obtain ⟨A, c, rfl, hc, hm⟩ := ss_len hs
  have HS := Lib.hid hs
  have HN := Lib.hid hf.deps
  have ho := hf.out
  obtain ⟨out, time, deps⟩ := d
  simp only at ho hc hm HS HN
  clear hs hf
  by_cases g1 : out.size ≤ 5000
  case neg =>
    go_enter Try.func9, Try.ntmps9
    go_wp2
    go_ret
    exact ⟨Or.inr rfl, below_alloc (Below.refl _ _) _⟩
  by_cases g2 : deps.length ≤ 50
  case neg =>
    go_enter Try.func9, Try.ntmps9
    go_wp2
    go_ret
    exact ⟨Or.inr rfl, below_alloc (Below.refl _ _) _⟩
  have HB0 := Lib.hid (below_alloc (Below.refl w.heap.size w) (.cells #[.string out, .int .i64 time, .slice A deps.length c] 24))
  go_enter Try.func9, Try.ntmps9
  go_wp2
  go_loop [3] (fun i => ∃ k : Nat, k ≤ deps.length ∧ i = .int .i64 k ∧ Hid (∀ p ∈ deps.take k, p.size ≤ 5000)) (fun i => deps.length - (intOf i).toNat)
  case atStart => exact ⟨0, by omega, rfl, fun p hp => by simp at hp⟩
  case round =>
    obtain ⟨k, hk, rfl, HK⟩ := hrel
    by_cases l1 : k < deps.length
    · obtain ⟨A', c', e', _, _, hcel⟩ := HS.out.below HB0.out
      injection e' with e1 e2 e3
      subst e1
      obtain ⟨ad, ead, hcell⟩ := hcel (by omega)
      subst ead
      have q2 := hcell k l1
      have hin : deps.take (k + 1) = deps.take k ++ [deps.getD k ByteArray.empty] := by
        rw [List.take_add_one, List.getElem?_eq_getElem l1, List.getD_eq_getElem?_getD, List.getElem?_eq_getElem l1]; rfl
      have hpn : (deps.getD k ByteArray.empty).size ≤ 9223372036854775807 := by
        rw [List.getD_eq_getElem?_getD, List.getElem?_eq_getElem l1]
        exact HN.out _ (List.getElem_mem l1)
      have HIN := Lib.hid hin
      clear hin hcel hcell e2 e3
      generalize deps.getD k ByteArray.empty = nm at q2 HIN hpn
      by_cases l2 : nm.size ≤ 5000
      · go_wp2
        go_round
        case rel =>
          refine ⟨k + 1, by omega, by go_num, ?_⟩
          intro p hp
          rw [HIN.out] at hp
          rcases List.mem_append.1 hp with hp | hp
          · exact HK.out p hp
          · rw [List.mem_singleton.1 hp]; exact l2
        case measure => simp [intOf]; omega
      · go_wp2
        go_ret
        exact ⟨Or.inr rfl, HB0.out⟩
    · have hk2 : k = deps.length := by omega
      have HL : Hid (BriefD ⟨out, time, deps⟩) := ⟨g1, g2, by have := HK.out; rw [hk2, List.take_length] at this; exact this⟩
      clear hk2
      go_wp2
      go_ret
      exact ⟨Or.inl ⟨rfl, HL.out⟩, HB0.out⟩
--BEGIN WALK
set_option maxRecDepth 100000 in
set_option maxHeartbeats 2000000 in
theorem given_any (v : Value) (d : DepV) (w : World) (h : DepIs w v d) (hn : d.deps.length ≤ 1000000) :
    Calls Try.prog 13 #[v] w fun e w' => ∃ v', e = .returned v' ∧ DepIs w' v' d ∧ Below w.heap.size w w' := by
  obtain ⟨vd, rfl, hs⟩ := h
  obtain ⟨Ad, cd, rfl, hcd, hmd⟩ := ss_len hs
  obtain ⟨nd, hnd⟩ : ∃ nd, nd = d.deps.length := ⟨_, rfl⟩
  rw [← hnd] at hn hcd hmd hs ⊢
  obtain ⟨x, hx⟩ : ∃ x, w.heap.size = x := ⟨_, rfl⟩
  obtain ⟨Wb, hWb⟩ : ∃ Wb, Wb = (w.alloc (.cells #[.string d.out, .int .i64 d.time, .slice Ad nd cd] 24)).alloc (.cells #[.string ⟨#[]⟩, .int .i64 0, .slice none 0 0] 36) := ⟨_, rfl⟩
  have hb1 := below_alloc (Below.refl w.heap.size w) (.cells #[.string d.out, .int .i64 d.time, .slice Ad nd cd] 24)
  have hb0 : Below w.heap.size w Wb := by rw [hWb]; exact below_alloc hb1 _
  have hXr : Wb.heap[x + 1]? = some (.cells #[.string ⟨#[]⟩, .int .i64 0, .slice none 0 0] 36 (0, 0)) := by
    have h := blk_new (w.alloc (.cells #[.string d.out, .int .i64 d.time, .slice Ad nd cd] 24)) (.cells #[.string ⟨#[]⟩, .int .i64 0, .slice none 0 0] 36)
    rw [hWb, ← hx]
    simpa using h
  have hXb : Wb.heap[x]? = some (.cells #[.string d.out, .int .i64 d.time, .slice Ad nd cd] 24 (0, 0)) := by
    have h := blk_new w (.cells #[.string d.out, .int .i64 d.time, .slice Ad nd cd] 24)
    have h2 := below_alloc (Below.refl (w.alloc (.cells #[.string d.out, .int .i64 d.time, .slice Ad nd cd] 24)).heap.size (w.alloc (.cells #[.string d.out, .int .i64 d.time, .slice Ad nd cd] 24))) (.cells #[.string ⟨#[]⟩, .int .i64 0, .slice none 0 0] 36)
    rw [hWb, ← hx]
    exact (h2.block w.heap.size (blk_lt h)).trans h
  have hws : Wb.heap.size = x + 1 + 1 := by rw [hWb, ← hx]; simp
  have Q0 := Lib.hid (show Wb.cell? ⟨x, 0, none⟩ = some (.string d.out) from blk_cell hXb 0)
  have Q1 := Lib.hid (show Wb.cell? ⟨x, 1, none⟩ = some (.int .i64 d.time) from blk_cell hXb 1)
  have Q2 := Lib.hid (show Wb.cell? ⟨x, 2, none⟩ = some (.slice Ad nd cd) from blk_cell hXb 2)
  have XR := Lib.hid hXr
  have HB0 := Lib.hid hb0
  have HSS := Lib.hid (hs.below hb0)
  have HX := Lib.hid hx
  have HWB := Lib.hid hWb
  have HND := Lib.hid hnd
  have HWS := Lib.hid hws
  have HXW : Hid (x ≤ Wb.heap.size) := by show x ≤ Wb.heap.size; omega
  clear hs hb1 hb0 hXr hXb hWb hws hnd
  go_enter Try.func13, Try.ntmps13
  go_wp2
  rw [← HWB.out]
  try rw [hx]
  clear hx
  --S1
  refine start_ (n := 10) (S := fun w' => Below Wb.heap.size Wb w' ∧ w'.cell? ⟨x, 0, none⟩ = some (.string d.out) ∧ w'.cell? ⟨x, 1, none⟩ = some (.int .i64 d.time) ∧ w'.cell? ⟨x, 2, none⟩ = some (.slice Ad nd cd)) (ds := [9]) #[false, false, false, false, false, false, false, false, false, false] (by kernel_rfl) rfl rfl ⟨Below.drew (Below.refl _ _), Q0.out, Q1.out, Q2.out⟩ (fun hHeld => ?_)
  refine pure_ (i := 0) (N := some 3) (v := ?_) (a' := ?_) #[true, false, false, false, false, false, false, false, false, false] rfl rfl (by kernel_rfl) (fun _ _ _ h => h) (Or.inl ⟨by rfl, ?_⟩) ?_ ?_
  rotate_left
  · intro w'
    go_simp
    with_reducible rfl
  rotate_left
  · simp only [Act.put, List.setIfInBounds_toArray, List.set_cons_zero, List.set_cons_succ, i64_w, i32_w]
    rfl
  refine pure_ (i := 2) (N := some 5) (v := ?_) (a' := ?_) #[true, false, true, false, false, false, false, false, false, false] rfl rfl (by kernel_rfl) (fun _ _ _ h => h) (Or.inl ⟨by rfl, ?_⟩) ?_ ?_
  rotate_left
  · intro w'
    go_simp
    with_reducible rfl
  rotate_left
  · simp only [Act.put, List.setIfInBounds_toArray, List.set_cons_zero, List.set_cons_succ, i64_w, i32_w]
    rfl
  refine pure_ (i := 5) (N := some 8) (v := ?_) (a' := ?_) #[true, false, true, false, false, true, false, false, false, false] rfl rfl (by kernel_rfl) (fun _ _ _ h => h) (Or.inl ⟨by rfl, ?_⟩) ?_ ?_
  rotate_left
  · intro w'
    go_simp
    with_reducible rfl
  rotate_left
  · simp only [Act.put, List.setIfInBounds_toArray, List.set_cons_zero, List.set_cons_succ, i64_w, i32_w]
    rfl
  refine take_ (i := 1) (N := some 4) (v := ?_) (a' := ?_) #[true, true, true, false, false, true, false, false, false, false] rfl rfl (by kernel_rfl) (fun _ _ _ h => h) (Or.inl ⟨by rfl, ?_⟩) hHeld ?_ ?_
  rotate_left
  · rintro w' ⟨s0, s1, s2, s3⟩
    go_simp
    with_reducible rfl
  rotate_left
  · simp only [Act.put, List.setIfInBounds_toArray, List.set_cons_zero, List.set_cons_succ, i64_w, i32_w]
    rfl
  refine take_ (i := 3) (N := some 6) (v := ?_) (a' := ?_) #[true, true, true, true, false, true, false, false, false, false] rfl rfl (by kernel_rfl) (fun _ _ _ h => h) (Or.inl ⟨by rfl, ?_⟩) hHeld ?_ ?_
  rotate_left
  · rintro w' ⟨s0, s1, s2, s3⟩
    go_simp
    with_reducible rfl
  rotate_left
  · simp only [Act.put, List.setIfInBounds_toArray, List.set_cons_zero, List.set_cons_succ, i64_w, i32_w]
    rfl
  refine take_ (i := 6) (N := some 9) (v := ?_) (a' := ?_) #[true, true, true, true, false, true, true, false, false, false] rfl rfl (by kernel_rfl) (fun _ _ _ h => h) (Or.inl ⟨by rfl, ?_⟩) hHeld ?_ ?_
  rotate_left
  · rintro w' ⟨s0, s1, s2, s3⟩
    go_simp
    with_reducible rfl
  rotate_left
  · simp only [Act.put, List.setIfInBounds_toArray, List.set_cons_zero, List.set_cons_succ, i64_w, i32_w]
    rfl
  refine one_ (i := 4) (N := some 7) #[true, true, true, true, true, true, true, false, false, false] rfl rfl (by kernel_rfl) (by decide) (fun K hK => ?_)
  refine value_ (w1 := ?_) (v := ?_) (by rfl) rfl ?_ ?_
  rotate_left 2
  · go_simp
    constructor
    · rfl
    · rfl
  refine hK.out _ _ ⟨hHeld.1.alloc hHeld.1.size _, pw_cell_below (hHeld.1.alloc hHeld.1.size _) Q0.out, pw_cell_below (hHeld.1.alloc hHeld.1.size _) Q1.out, pw_cell_below (hHeld.1.alloc hHeld.1.size _) Q2.out⟩ (fun hHeld => ?_)
  clear hK K
  refine norm_ (a' := ?_) ?_ ?_
  rotate_left
  · show Act.put _ (some 7) _ = _
    simp only [Act.put, List.setIfInBounds_toArray, List.set_cons_zero, List.set_cons_succ, i64_w, i32_w]
    rfl
  refine one_ (i := 7) (N := some 10) #[true, true, true, true, true, true, true, true, false, false] rfl rfl (by kernel_rfl) (by decide) (fun K hK => ?_)
  refine app_strs_step (w0 := Wb) 0 rfl (.tmp 7) (.tmp 9) rfl (.slice (some ⟨Wb.heap.size, 0, none⟩) 0 0) [] d.deps Ad nd cd (fun k => x ≤ k) rfl rfl (str_nil _ 0 (Nat.zero_le _) (fun k => x ≤ k) (Nat.le_trans HXW.out (by first | exact Nat.le_refl _ | simp))) (Kd.C_below (ss_C HSS.out) hHeld.1) (fun k hk => Nat.le_trans HXW.out (Nat.le_trans hHeld.1.size hk)) ((hHeld.1.mono (Nat.zero_le _))) (Nat.zero_le _) (by simp only [List.length_nil]; omega) ?_
  intro va wa ra _ ga
  obtain ⟨Aa, ca, ea⟩ := Kd.R_slice ra
  obtain ⟨na, hna⟩ : ∃ na, na = ([] ++ d.deps).length := ⟨_, rfl⟩
  rw [← hna] at ea
  subst ea
  have HRA := Lib.hid ra
  have hba : Below Wb.heap.size Wb wa := hHeld.1.grown ga hHeld.1.size (fun k hk => Nat.le_of_eq (by simpa [Value.ownBlock] using hk))
  have XRA : Hid (wa.heap[x + 1]? = some (.cells #[.string ⟨#[]⟩, .int .i64 0, .slice none 0 0] 36 (0, 0))) := (hba.block _ (blk_lt XR.out)).trans XR.out
  clear ra ga hna
  refine hK.out _ _ ⟨hba, pw_cell_below (hba) Q0.out, pw_cell_below (hba) Q1.out, pw_cell_below (hba) Q2.out⟩ (fun hHeld => ?_)
  clear hK K
  refine norm_ (a' := ?_) ?_ ?_
  rotate_left
  · show Act.put _ (some 10) _ = _
    simp only [Act.put, List.setIfInBounds_toArray, List.set_cons_zero, List.set_cons_succ, i64_w, i32_w]
    rfl
  refine pure_ (i := 8) (N := some 11) (v := ?_) (a' := ?_) #[true, true, true, true, true, true, true, true, true, false] rfl rfl (by kernel_rfl) (fun _ _ _ h => h) (Or.inl ⟨by rfl, ?_⟩) ?_ ?_
  rotate_left
  · intro w'
    go_simp
    with_reducible rfl
  rotate_left
  · simp only [Act.put, List.setIfInBounds_toArray, List.set_cons_zero, List.set_cons_succ, i64_w, i32_w]
    rfl
  refine last_ (i := 9) (N := none) #[true, true, true, true, true, true, true, true, true, true] rfl rfl (by kernel_rfl) (by decide) (fun K hK => ?_)
  refine put_row_step rfl rfl 36 (.tmp 2) (.tmp 11) rfl (x + 1) _ rfl rfl 36 _ XRA.out (by kernel_rfl) rfl (by simp [Value.oneCell']) ?_
  refine hK.out _ _ ?_
  clear hK K
  refine done_ (by kernel_rfl) ?_
  --S2
  have HY := Lib.hid (setRow_heap wa (x + 1) _ (#[.string d.out, .int .i64 d.time, .slice Aa na ca]) _ _ XRA.out)
  have hba2 := Lib.hid hba
  clear hHeld hba
  go_wp2
  (try simp only [Exit.inBlock, Exit.then])
  refine bodyPost_ret (results_cell_row rfl _ _ (x + 1) 36 _ (0, 0) _ rfl HY.out Try.underlying36 rfl (by kernel_rfl)) rfl ?_
  refine ⟨_, rfl, ⟨_, rfl, ?_⟩, ?_⟩
  · exact r_ss (R_setRow HRA.out XRA.out (by decide) _)
  · exact row_below (HB0.out.trans (hba2.out.mono HB0.out.size)) (by rw [HX.out]; omega) _
--END WALK
end Go.Proofs.Ytinonkakpgiblaa.Nam
