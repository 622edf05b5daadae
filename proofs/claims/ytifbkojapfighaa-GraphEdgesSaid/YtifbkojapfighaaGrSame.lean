/- bellowsref11.Same at manifests that are alike (walk). -/
import Derived.Test.YtifbkojapfighaaGrEdgeQ
namespace Go.Proofs.Ytifbkojapfighaa.Gr
open Go.RowKit Go.Proofs.YtifbkojapfighaaW.PrintWords Go.Proofs.YtifbkojapfighaaW.PrintLast Go.Proofs.Ytifbkojapfighaa.Base Go.Maps
set_option linter.unusedVariables false
set_option linter.unusedSimpArgs false
set_option maxRecDepth 100000 in
set_option maxHeartbeats 8000000 in
theorem rsame_any (es : List EdgeV) (ds : List ByteArray) (w : World) (va vb da db : Value) (hA : Ez w va es) (hB : Ez w vb es) (hDA : Ss w da ds) (hDB : Ss w db ds) :
    Calls Try.prog 33 #[.agg #[va, da], .agg #[vb, db]] w fun r w' => r = .returned (.bool true) ∧ Below w.heap.size w w' := by
  obtain ⟨Aa, ca, rfl, hca, hma⟩ := hA.len
  obtain ⟨Ab, cb, rfl, hcb, hmb⟩ := hB.len
  obtain ⟨Da, da', rfl, _, _⟩ := ss_len hDA
  obtain ⟨Db, db', rfl, _, _⟩ := ss_len hDB
  obtain ⟨n, hn⟩ : ∃ n, n = es.length := ⟨_, rfl⟩
  obtain ⟨nd, hnd⟩ : ∃ nd, nd = ds.length := ⟨_, rfl⟩
  rw [← hn] at hca hma hcb hmb hA hB ⊢
  rw [← hnd] at hDA hDB ⊢
  obtain ⟨x, hx⟩ : ∃ x, w.heap.size = x := ⟨_, rfl⟩
  obtain ⟨w1, hw1⟩ : ∃ w1, w1 = (w.alloc (.cells #[.slice Aa n ca, .slice Da nd da'] 25)).alloc (.cells #[.slice Ab n cb, .slice Db nd db'] 25) := ⟨_, rfl⟩
  have hb1 : Below w.heap.size w w1 := by rw [hw1]; exact below_alloc (below_alloc (Below.refl _ _) _) _
  have hX : w1.heap[x]? = some (.cells #[.slice Aa n ca, .slice Da nd da'] 25 (0, 0)) := by
    rw [hw1, ← hx]
    have h := blk_new w (.cells #[.slice Aa n ca, .slice Da nd da'] 25)
    exact ((below_alloc (Below.refl _ _) _).block _ (blk_lt h)).trans h
  have hR : w1.heap[x + 1]? = some (.cells #[.slice Ab n cb, .slice Db nd db'] 25 (0, 0)) := by
    rw [hw1, ← hx]
    have h := blk_new (w.alloc (.cells #[.slice Aa n ca, .slice Da nd da'] 25)) (.cells #[.slice Ab n cb, .slice Db nd db'] 25)
    simpa using h
  have HX := Lib.hid hX
  have HR := Lib.hid hR
  have HA := Lib.hid (hA.below hb1)
  have HB := Lib.hid (hB.below hb1)
  have HDA := Lib.hid (hDA.below hb1)
  have HDB := Lib.hid (hDB.below hb1)
  have HB1 := Lib.hid hb1
  have HW := Lib.hid hw1
  have HN := Lib.hid hn
  have q0 := (show w1.cell? ⟨x, 0, none⟩ = some (.slice Aa n ca) from blk_cell hX 0)
  have q1 := (show w1.cell? ⟨x, 1, none⟩ = some (.slice Da nd da') from blk_cell hX 1)
  have r0 := (show w1.cell? ⟨x + 1, 0, none⟩ = some (.slice Ab n cb) from blk_cell hR 0)
  have r1 := (show w1.cell? ⟨x + 1, 1, none⟩ = some (.slice Db nd db') from blk_cell hR 1)
  have c1 : ((n : Int) != (n : Int)) = false := bne_self_eq_false _
  clear hA hB hDA hDB hb1 hX hR hw1 hn hnd
  go_enter Try.func33, Try.ntmps33
  go_upto_region 1 with (fail)
  rw [← HW.out]
  try rw [hx]
  clear hx
  go_wp2_with fail
  refine (rnames_any _ _ ds ds _ HDA.out HDB.out).mono ?_
  rintro e w2 ⟨rfl, b2⟩
  rw [show decide (ds = ds) = true from decide_eq_true rfl]
  have HX2 := Lib.hid ((b2.block x (blk_lt HX.out)).trans HX.out)
  have HR2 := Lib.hid ((b2.block (x + 1) (blk_lt HR.out)).trans HR.out)
  have HA2 := Lib.hid (HA.out.below b2)
  have HB2 := Lib.hid (HB.out.below b2)
  have HBB2 := Lib.hid (HB1.out.trans (b2.mono HB1.out.size))
  clear b2 q0 q1 r0 r1 c1
  go_wp2
  --S1
  go_loopw [5] (fun i wr => ∃ k : Nat, k ≤ n ∧ i = .int .i64 k ∧ Hid (Below w2.heap.size w2 wr)) (fun i _ => n - (intOf i).toNat)
  case atStart => exact ⟨0, by omega, rfl, Below.refl _ _⟩
  case round =>
    obtain ⟨k, hk, rfl, HBW⟩ := hrel
    have hxr := (HBW.out.block x (blk_lt HX2.out)).trans HX2.out
    have hrr := (HBW.out.block (x + 1) (blk_lt HR2.out)).trans HR2.out
    have q0 := (show wr.cell? ⟨x, 0, none⟩ = some (.slice Aa n ca) from blk_cell hxr 0)
    by_cases l1 : k < n
    · have hkl : k < es.length := by rw [← HN.out]; exact l1
      obtain ⟨ad, ao, ai, am, ar, e1, p0, p1, p2, p3, p4, p5, hea⟩ := (HA2.out.below HBW.out).get k hkl
      subst e1
      obtain ⟨bd, bo, bi, bm, br, e2, s0, s1, s2, s3, s4, s5, heb⟩ := (HB2.out.below HBW.out).get k hkl
      subst e2
      generalize es.getD k zedge = e at p4 p5 hea s4 s5 heb
      obtain ⟨aoA, aoc, e9, _, _⟩ := ss_len hea.1
      obtain ⟨aon, hn9⟩ : ∃ q, q = e.outs.length := ⟨_, rfl⟩
      rw [← hn9] at e9
      subst e9
      clear hn9
      obtain ⟨aiA, aic, e9, _, _⟩ := ss_len hea.2.1
      obtain ⟨ain, hn9⟩ : ∃ q, q = e.ins.length := ⟨_, rfl⟩
      rw [← hn9] at e9
      subst e9
      clear hn9
      obtain ⟨amA, amc, e9, _, _⟩ := ss_len hea.2.2.1
      obtain ⟨amn, hn9⟩ : ∃ q, q = e.imp.length := ⟨_, rfl⟩
      rw [← hn9] at e9
      subst e9
      clear hn9
      obtain ⟨arA, arc, e9, _, _⟩ := ss_len hea.2.2.2
      obtain ⟨arn, hn9⟩ : ∃ q, q = e.ord.length := ⟨_, rfl⟩
      rw [← hn9] at e9
      subst e9
      clear hn9
      obtain ⟨boA, boc, e9, _, _⟩ := ss_len heb.1
      obtain ⟨bon, hn9⟩ : ∃ q, q = e.outs.length := ⟨_, rfl⟩
      rw [← hn9] at e9
      subst e9
      clear hn9
      obtain ⟨biA, bic, e9, _, _⟩ := ss_len heb.2.1
      obtain ⟨bin, hn9⟩ : ∃ q, q = e.ins.length := ⟨_, rfl⟩
      rw [← hn9] at e9
      subst e9
      clear hn9
      obtain ⟨bmA, bmc, e9, _, _⟩ := ss_len heb.2.2.1
      obtain ⟨bmn, hn9⟩ : ∃ q, q = e.imp.length := ⟨_, rfl⟩
      rw [← hn9] at e9
      subst e9
      clear hn9
      obtain ⟨brA, brc, e9, _, _⟩ := ss_len heb.2.2.2
      obtain ⟨brn, hn9⟩ : ∃ q, q = e.ord.length := ⟨_, rfl⟩
      rw [← hn9] at e9
      subst e9
      clear hn9
      have HEA := Lib.hid hea
      have HEB := Lib.hid heb
      have Z0 := Lib.hid q0
      have Z1 := Lib.hid p0
      have Z2 := Lib.hid p1
      have Z3 := Lib.hid p2
      have Z4 := Lib.hid p3
      have Z5 := Lib.hid p4
      have Z6 := Lib.hid p5
      have Z7 : Hid (wr.cell? ⟨x + 1, 0, none⟩ = some (.slice (some bd) n cb)) := blk_cell hrr 0
      have Z8 := Lib.hid s0
      have Z9 := Lib.hid s1
      have Z10 := Lib.hid s2
      have Z11 := Lib.hid s3
      have Z12 := Lib.hid s4
      have Z13 := Lib.hid s5
      have HBD : Hid (Below wr.heap.size wr wr.drew) := Below.drew (Below.refl _ _)
      have HSZ : Hid ((wr.drew.alloc (.cells #[.slice none 0 0, .slice none 0 0, .slice none 0 0, .slice none 0 0, .string ⟨#[]⟩, .string ⟨#[]⟩] 46)).heap.size = wr.heap.size + 1) := by show _ = _; simp
      clear hkl hea heb hxr hrr p0 p1 p2 p3 p4 p5 s0 s1 s2 s3 s4 s5
      go_wp2
      clear q0
      refine start_ (n := 14) (S := fun w' => Below wr.heap.size wr w' ∧ w'.cell? ⟨x, 0, none⟩ = some (.slice (some ad) n ca) ∧ w'.cell? (ad.add (k * 6)) = some (.slice aoA aon aoc) ∧ w'.cell? ⟨(ad.add (k * 6)).block, (ad.add (k * 6)).off + 1, none⟩ = some (.slice aiA ain aic) ∧ w'.cell? ⟨(ad.add (k * 6)).block, (ad.add (k * 6)).off + 2, none⟩ = some (.slice amA amn amc) ∧ w'.cell? ⟨(ad.add (k * 6)).block, (ad.add (k * 6)).off + 3, none⟩ = some (.slice arA arn arc) ∧ w'.cell? ⟨(ad.add (k * 6)).block, (ad.add (k * 6)).off + 4, none⟩ = some (.string e.cmd) ∧ w'.cell? ⟨(ad.add (k * 6)).block, (ad.add (k * 6)).off + 5, none⟩ = some (.string e.dep) ∧ w'.cell? ⟨x + 1, 0, none⟩ = some (.slice (some bd) n cb) ∧ w'.cell? (bd.add (k * 6)) = some (.slice boA bon boc) ∧ w'.cell? ⟨(bd.add (k * 6)).block, (bd.add (k * 6)).off + 1, none⟩ = some (.slice biA bin bic) ∧ w'.cell? ⟨(bd.add (k * 6)).block, (bd.add (k * 6)).off + 2, none⟩ = some (.slice bmA bmn bmc) ∧ w'.cell? ⟨(bd.add (k * 6)).block, (bd.add (k * 6)).off + 3, none⟩ = some (.slice brA brn brc) ∧ w'.cell? ⟨(bd.add (k * 6)).block, (bd.add (k * 6)).off + 4, none⟩ = some (.string e.cmd) ∧ w'.cell? ⟨(bd.add (k * 6)).block, (bd.add (k * 6)).off + 5, none⟩ = some (.string e.dep)) (ds := []) #[false, false, false, false, false, false, false, false, false, false, false, false, false, false] (by kernel_rfl) rfl rfl ⟨HBD.out, Z0.out, Z1.out, Z2.out, Z3.out, Z4.out, Z5.out, Z6.out, Z7.out, Z8.out, Z9.out, Z10.out, Z11.out, Z12.out, Z13.out⟩ (fun hHeld => ?_)
      refine pure_ (i := 0) (N := some 30) (v := ?_) (a' := ?_) #[true, false, false, false, false, false, false, false, false, false, false, false, false, false] rfl rfl (by kernel_rfl) (fun _ _ _ h => h) (Or.inl ⟨by rfl, ?_⟩) ?_ ?_
      rotate_left
      · intro w'
        go_simp
        with_reducible rfl
      rotate_left
      · simp only [Act.put, List.setIfInBounds_toArray, List.set_cons_zero, List.set_cons_succ, i64_w, i32_w]
        rfl
      refine pure_ (i := 2) (N := some 32) (v := ?_) (a' := ?_) #[true, false, true, false, false, false, false, false, false, false, false, false, false, false] rfl rfl (by kernel_rfl) (fun _ _ _ h => h) (Or.inl ⟨by rfl, ?_⟩) ?_ ?_
      rotate_left
      · intro w'
        go_simp
        with_reducible rfl
      rotate_left
      · simp only [Act.put, List.setIfInBounds_toArray, List.set_cons_zero, List.set_cons_succ, i64_w, i32_w]
        rfl
      refine pure_ (i := 5) (N := some 35) (v := ?_) (a' := ?_) #[true, false, true, false, false, true, false, false, false, false, false, false, false, false] rfl rfl (by kernel_rfl) (fun _ _ _ h => h) (Or.inl ⟨by rfl, ?_⟩) ?_ ?_
      rotate_left
      · intro w'
        go_simp
        with_reducible rfl
      rotate_left
      · simp only [Act.put, List.setIfInBounds_toArray, List.set_cons_zero, List.set_cons_succ, i64_w, i32_w]
        rfl
      refine pure_ (i := 7) (N := some 37) (v := ?_) (a' := ?_) #[true, false, true, false, false, true, false, true, false, false, false, false, false, false] rfl rfl (by kernel_rfl) (fun _ _ _ h => h) (Or.inl ⟨by rfl, ?_⟩) ?_ ?_
      rotate_left
      · intro w'
        go_simp
        with_reducible rfl
      rotate_left
      · simp only [Act.put, List.setIfInBounds_toArray, List.set_cons_zero, List.set_cons_succ, i64_w, i32_w]
        rfl
      refine take_ (i := 1) (N := some 31) (v := ?_) (a' := ?_) #[true, true, true, false, false, true, false, true, false, false, false, false, false, false] rfl rfl (by kernel_rfl) (fun _ _ _ h => h) (Or.inl ⟨by rfl, ?_⟩) hHeld ?_ ?_
      rotate_left
      · rintro w' ⟨s0, s1, s2, s3, s4, s5, s6, s7, s8, s9, s10, s11, s12, s13, s14⟩
        go_simp
        with_reducible rfl
      rotate_left
      · simp only [Act.put, List.setIfInBounds_toArray, List.set_cons_zero, List.set_cons_succ, i64_w, i32_w]
        rfl
      refine pure_ (i := 3) (N := some 33) (v := ?_) (a' := ?_) #[true, true, true, true, false, true, false, true, false, false, false, false, false, false] rfl rfl (by kernel_rfl) (fun _ _ _ h => h) (Or.inl ⟨by rfl, ?_⟩) ?_ ?_
      rotate_left
      · intro w'
        go_simp
        with_reducible rfl
      rotate_left
      · simp only [Act.put, List.setIfInBounds_toArray, List.set_cons_zero, List.set_cons_succ, i64_w, i32_w]
        rfl
      refine take_ (i := 4) (N := some 34) (v := ?_) (a' := ?_) #[true, true, true, true, true, true, false, true, false, false, false, false, false, false] rfl rfl (by kernel_rfl) (fun _ _ _ h => h) (Or.inl ⟨by rfl, ?_⟩) hHeld ?_ ?_
      rotate_left
      · rintro w' ⟨s0, s1, s2, s3, s4, s5, s6, s7, s8, s9, s10, s11, s12, s13, s14⟩
        go_simp
        with_reducible rfl
      rotate_left
      · simp only [Act.put, List.setIfInBounds_toArray, List.set_cons_zero, List.set_cons_succ, i64_w, i32_w]
        rfl
      refine take_ (i := 6) (N := some 36) (v := ?_) (a' := ?_) #[true, true, true, true, true, true, true, true, false, false, false, false, false, false] rfl rfl (by kernel_rfl) (fun _ _ _ h => h) (Or.inl ⟨by rfl, ?_⟩) hHeld ?_ ?_
      rotate_left
      · rintro w' ⟨s0, s1, s2, s3, s4, s5, s6, s7, s8, s9, s10, s11, s12, s13, s14⟩
        go_simp
        with_reducible rfl
      rotate_left
      · simp only [Act.put, List.setIfInBounds_toArray, List.set_cons_zero, List.set_cons_succ, i64_w, i32_w]
        rfl
      refine pure_ (i := 8) (N := some 38) (v := ?_) (a' := ?_) #[true, true, true, true, true, true, true, true, true, false, false, false, false, false] rfl rfl (by kernel_rfl) (fun _ _ _ h => h) (Or.inl ⟨by rfl, ?_⟩) ?_ ?_
      rotate_left
      · intro w'
        go_simp
        with_reducible rfl
      rotate_left
      · simp only [Act.put, List.setIfInBounds_toArray, List.set_cons_zero, List.set_cons_succ, i64_w, i32_w]
        rfl
      refine take_ (i := 9) (N := some 39) (v := ?_) (a' := ?_) #[true, true, true, true, true, true, true, true, true, true, false, false, false, false] rfl rfl (by kernel_rfl) (fun _ _ _ h => h) (Or.inl ⟨by rfl, ?_⟩) hHeld ?_ ?_
      rotate_left
      · rintro w' ⟨s0, s1, s2, s3, s4, s5, s6, s7, s8, s9, s10, s11, s12, s13, s14⟩
        go_simp
        with_reducible rfl
      rotate_left
      · simp only [Act.put, List.setIfInBounds_toArray, List.set_cons_zero, List.set_cons_succ, i64_w, i32_w]
        rfl
      refine join_ (σ := Nat × Nat) 2 #[true, true, true, true, true, true, true, true, true, true, true, true, false, false] (fun s => [(6, .pointer (some ⟨s.1, 0, none⟩)), (7, .pointer (some ⟨s.2, 0, none⟩))]) (fun s w' => Below wr.heap.size wr w' ∧ w'.heap[s.1]? = some (.cells #[.slice none 0 0, .slice none 0 0, .slice none 0 0, .slice none 0 0, .string ⟨#[]⟩, .string ⟨#[]⟩] 46 (0, 0)) ∧ w'.heap[s.2]? = some (.cells #[.slice none 0 0, .slice none 0 0, .slice none 0 0, .slice none 0 0, .string ⟨#[]⟩, .string ⟨#[]⟩] 46 (0, 0)) ∧ (s.1 ≠ s.2 ∧ wr.heap.size ≤ s.1 ∧ wr.heap.size ≤ s.2)) ?_ ?_
      rotate_left
      · intro hCont
        refine two_ (i := 10) (j := 11) (Ni := some 6) (Nj := some 7) #[true, true, true, true, true, true, true, true, true, true, true, false, false, false] #[true, true, true, true, true, true, true, true, true, true, false, true, false, false] rfl rfl rfl rfl (by kernel_rfl) (by decide) (by decide) (fun K hK => ?_) (fun K hK => ?_)
        · skip
          refine value_ (w1 := ?_) (v := ?_) (by rfl) rfl ?_ ?_
          rotate_left 2
          · go_simp
            constructor
            · rfl
            · rfl
          refine hK.out _ _ ⟨hHeld.1.alloc hHeld.1.size _, pw_cell_below (hHeld.1.alloc hHeld.1.size _) Z0.out, pw_cell_below (hHeld.1.alloc hHeld.1.size _) Z1.out, pw_cell_below (hHeld.1.alloc hHeld.1.size _) Z2.out, pw_cell_below (hHeld.1.alloc hHeld.1.size _) Z3.out, pw_cell_below (hHeld.1.alloc hHeld.1.size _) Z4.out, pw_cell_below (hHeld.1.alloc hHeld.1.size _) Z5.out, pw_cell_below (hHeld.1.alloc hHeld.1.size _) Z6.out, pw_cell_below (hHeld.1.alloc hHeld.1.size _) Z7.out, pw_cell_below (hHeld.1.alloc hHeld.1.size _) Z8.out, pw_cell_below (hHeld.1.alloc hHeld.1.size _) Z9.out, pw_cell_below (hHeld.1.alloc hHeld.1.size _) Z10.out, pw_cell_below (hHeld.1.alloc hHeld.1.size _) Z11.out, pw_cell_below (hHeld.1.alloc hHeld.1.size _) Z12.out, pw_cell_below (hHeld.1.alloc hHeld.1.size _) Z13.out⟩ (fun hHeld => ?_)
          clear hK K
          refine norm_ (a' := ?_) ?_ ?_
          rotate_left
          · show Act.put _ (some 6) _ = _
            simp only [Act.put, List.setIfInBounds_toArray, List.set_cons_zero, List.set_cons_succ, i64_w, i32_w]
            rfl
          refine one_ (i := 11) (N := some 7) #[true, true, true, true, true, true, true, true, true, true, true, true, false, false] rfl rfl (by kernel_rfl) (by decide) (fun K hK => ?_)
          refine value_ (w1 := ?_) (v := ?_) (by rfl) rfl ?_ ?_
          rotate_left 2
          · go_simp
            constructor
            · rfl
            · rfl
          refine hK.out _ _ ⟨hHeld.1.alloc hHeld.1.size _, pw_cell_below (hHeld.1.alloc hHeld.1.size _) Z0.out, pw_cell_below (hHeld.1.alloc hHeld.1.size _) Z1.out, pw_cell_below (hHeld.1.alloc hHeld.1.size _) Z2.out, pw_cell_below (hHeld.1.alloc hHeld.1.size _) Z3.out, pw_cell_below (hHeld.1.alloc hHeld.1.size _) Z4.out, pw_cell_below (hHeld.1.alloc hHeld.1.size _) Z5.out, pw_cell_below (hHeld.1.alloc hHeld.1.size _) Z6.out, pw_cell_below (hHeld.1.alloc hHeld.1.size _) Z7.out, pw_cell_below (hHeld.1.alloc hHeld.1.size _) Z8.out, pw_cell_below (hHeld.1.alloc hHeld.1.size _) Z9.out, pw_cell_below (hHeld.1.alloc hHeld.1.size _) Z10.out, pw_cell_below (hHeld.1.alloc hHeld.1.size _) Z11.out, pw_cell_below (hHeld.1.alloc hHeld.1.size _) Z12.out, pw_cell_below (hHeld.1.alloc hHeld.1.size _) Z13.out⟩ (fun hHeld => ?_)
          clear hK K
          refine norm_ (a' := ?_) ?_ ?_
          rotate_left
          · show Act.put _ (some 7) _ = _
            simp only [Act.put, List.setIfInBounds_toArray, List.set_cons_zero, List.set_cons_succ, i64_w, i32_w]
            rfl
          exact norm_ (by simp only [Go.Proofs.YtifbkojapfighaaW.PrintLast.putAll, Act.put, List.setIfInBounds_toArray, List.set_cons_zero, List.set_cons_succ]) (hCont (wr.heap.size, wr.heap.size + 1) _ ⟨hHeld.1, ((below_alloc (Below.refl _ _) _).block _ (blk_lt (blk_new wr.drew _))).trans (blk_new wr.drew _), by have h := blk_new (wr.drew.alloc (.cells #[.slice none 0 0, .slice none 0 0, .slice none 0 0, .slice none 0 0, .string ⟨#[]⟩, .string ⟨#[]⟩] 46)) (.cells #[.slice none 0 0, .slice none 0 0, .slice none 0 0, .slice none 0 0, .string ⟨#[]⟩, .string ⟨#[]⟩] 46); rw [HSZ.out] at h; exact h, by simp⟩)
        · skip
          refine value_ (w1 := ?_) (v := ?_) (by rfl) rfl ?_ ?_
          rotate_left 2
          · go_simp
            constructor
            · rfl
            · rfl
          refine hK.out _ _ ⟨hHeld.1.alloc hHeld.1.size _, pw_cell_below (hHeld.1.alloc hHeld.1.size _) Z0.out, pw_cell_below (hHeld.1.alloc hHeld.1.size _) Z1.out, pw_cell_below (hHeld.1.alloc hHeld.1.size _) Z2.out, pw_cell_below (hHeld.1.alloc hHeld.1.size _) Z3.out, pw_cell_below (hHeld.1.alloc hHeld.1.size _) Z4.out, pw_cell_below (hHeld.1.alloc hHeld.1.size _) Z5.out, pw_cell_below (hHeld.1.alloc hHeld.1.size _) Z6.out, pw_cell_below (hHeld.1.alloc hHeld.1.size _) Z7.out, pw_cell_below (hHeld.1.alloc hHeld.1.size _) Z8.out, pw_cell_below (hHeld.1.alloc hHeld.1.size _) Z9.out, pw_cell_below (hHeld.1.alloc hHeld.1.size _) Z10.out, pw_cell_below (hHeld.1.alloc hHeld.1.size _) Z11.out, pw_cell_below (hHeld.1.alloc hHeld.1.size _) Z12.out, pw_cell_below (hHeld.1.alloc hHeld.1.size _) Z13.out⟩ (fun hHeld => ?_)
          clear hK K
          refine norm_ (a' := ?_) ?_ ?_
          rotate_left
          · show Act.put _ (some 7) _ = _
            simp only [Act.put, List.setIfInBounds_toArray, List.set_cons_zero, List.set_cons_succ, i64_w, i32_w]
            rfl
          refine one_ (i := 10) (N := some 6) #[true, true, true, true, true, true, true, true, true, true, true, true, false, false] rfl rfl (by kernel_rfl) (by decide) (fun K hK => ?_)
          refine value_ (w1 := ?_) (v := ?_) (by rfl) rfl ?_ ?_
          rotate_left 2
          · go_simp
            constructor
            · rfl
            · rfl
          refine hK.out _ _ ⟨hHeld.1.alloc hHeld.1.size _, pw_cell_below (hHeld.1.alloc hHeld.1.size _) Z0.out, pw_cell_below (hHeld.1.alloc hHeld.1.size _) Z1.out, pw_cell_below (hHeld.1.alloc hHeld.1.size _) Z2.out, pw_cell_below (hHeld.1.alloc hHeld.1.size _) Z3.out, pw_cell_below (hHeld.1.alloc hHeld.1.size _) Z4.out, pw_cell_below (hHeld.1.alloc hHeld.1.size _) Z5.out, pw_cell_below (hHeld.1.alloc hHeld.1.size _) Z6.out, pw_cell_below (hHeld.1.alloc hHeld.1.size _) Z7.out, pw_cell_below (hHeld.1.alloc hHeld.1.size _) Z8.out, pw_cell_below (hHeld.1.alloc hHeld.1.size _) Z9.out, pw_cell_below (hHeld.1.alloc hHeld.1.size _) Z10.out, pw_cell_below (hHeld.1.alloc hHeld.1.size _) Z11.out, pw_cell_below (hHeld.1.alloc hHeld.1.size _) Z12.out, pw_cell_below (hHeld.1.alloc hHeld.1.size _) Z13.out⟩ (fun hHeld => ?_)
          clear hK K
          refine norm_ (a' := ?_) ?_ ?_
          rotate_left
          · show Act.put _ (some 6) _ = _
            simp only [Act.put, List.setIfInBounds_toArray, List.set_cons_zero, List.set_cons_succ, i64_w, i32_w]
            rfl
          exact norm_ (by simp only [Go.Proofs.YtifbkojapfighaaW.PrintLast.putAll, Act.put, List.setIfInBounds_toArray, List.set_cons_zero, List.set_cons_succ]) (hCont (wr.heap.size + 1, wr.heap.size) _ ⟨hHeld.1, by have h := blk_new (wr.drew.alloc (.cells #[.slice none 0 0, .slice none 0 0, .slice none 0 0, .slice none 0 0, .string ⟨#[]⟩, .string ⟨#[]⟩] 46)) (.cells #[.slice none 0 0, .slice none 0 0, .slice none 0 0, .slice none 0 0, .string ⟨#[]⟩, .string ⟨#[]⟩] 46); rw [HSZ.out] at h; exact h, ((below_alloc (Below.refl _ _) _).block _ (blk_lt (blk_new wr.drew _))).trans (blk_new wr.drew _), by simp⟩)
      rintro ⟨b6, b7⟩ wx ⟨hF1, hF2, hF3, hF4⟩
      simp only at hF2 hF3 hF4
      have hHeld : Below wr.heap.size wr wx ∧ wx.cell? ⟨x, 0, none⟩ = some (.slice (some ad) n ca) ∧ wx.cell? (ad.add (k * 6)) = some (.slice aoA aon aoc) ∧ wx.cell? ⟨(ad.add (k * 6)).block, (ad.add (k * 6)).off + 1, none⟩ = some (.slice aiA ain aic) ∧ wx.cell? ⟨(ad.add (k * 6)).block, (ad.add (k * 6)).off + 2, none⟩ = some (.slice amA amn amc) ∧ wx.cell? ⟨(ad.add (k * 6)).block, (ad.add (k * 6)).off + 3, none⟩ = some (.slice arA arn arc) ∧ wx.cell? ⟨(ad.add (k * 6)).block, (ad.add (k * 6)).off + 4, none⟩ = some (.string e.cmd) ∧ wx.cell? ⟨(ad.add (k * 6)).block, (ad.add (k * 6)).off + 5, none⟩ = some (.string e.dep) ∧ wx.cell? ⟨x + 1, 0, none⟩ = some (.slice (some bd) n cb) ∧ wx.cell? (bd.add (k * 6)) = some (.slice boA bon boc) ∧ wx.cell? ⟨(bd.add (k * 6)).block, (bd.add (k * 6)).off + 1, none⟩ = some (.slice biA bin bic) ∧ wx.cell? ⟨(bd.add (k * 6)).block, (bd.add (k * 6)).off + 2, none⟩ = some (.slice bmA bmn bmc) ∧ wx.cell? ⟨(bd.add (k * 6)).block, (bd.add (k * 6)).off + 3, none⟩ = some (.slice brA brn brc) ∧ wx.cell? ⟨(bd.add (k * 6)).block, (bd.add (k * 6)).off + 4, none⟩ = some (.string e.cmd) ∧ wx.cell? ⟨(bd.add (k * 6)).block, (bd.add (k * 6)).off + 5, none⟩ = some (.string e.dep) := ⟨hF1, pw_cell_below (hF1) Z0.out, pw_cell_below (hF1) Z1.out, pw_cell_below (hF1) Z2.out, pw_cell_below (hF1) Z3.out, pw_cell_below (hF1) Z4.out, pw_cell_below (hF1) Z5.out, pw_cell_below (hF1) Z6.out, pw_cell_below (hF1) Z7.out, pw_cell_below (hF1) Z8.out, pw_cell_below (hF1) Z9.out, pw_cell_below (hF1) Z10.out, pw_cell_below (hF1) Z11.out, pw_cell_below (hF1) Z12.out, pw_cell_below (hF1) Z13.out⟩
      have HZ6 := Lib.hid hF2
      have HZ7 := Lib.hid hF3
      have HNE := Lib.hid hF4
      clear hF1 hF2 hF3 hF4
      refine norm_ (a' := ?_) ?_ ?_
      rotate_left
      · simp only [Go.Proofs.YtifbkojapfighaaW.PrintLast.putAll, Act.put, List.setIfInBounds_toArray, List.set_cons_zero, List.set_cons_succ]
        rfl
      refine one_ (i := 12) (N := none) #[true, true, true, true, true, true, true, true, true, true, true, true, true, false] rfl rfl (by kernel_rfl) (by decide) (fun K hK => ?_)
      refine put_row_step rfl rfl 46 (.tmp 6) (.tmp 34) rfl b6 _ rfl rfl 46 _ HZ6.out (by kernel_rfl) rfl (by simp [Value.oneCell']) ?_
      have hbz12 := row_below hHeld.1 HNE.out.2.1 #[.slice aoA aon aoc, .slice aiA ain aic, .slice amA amn amc, .slice arA arn arc, .string e.cmd, .string e.dep]
      refine hK.out _ _ ⟨hbz12, pw_cell_below (hbz12) Z0.out, pw_cell_below (hbz12) Z1.out, pw_cell_below (hbz12) Z2.out, pw_cell_below (hbz12) Z3.out, pw_cell_below (hbz12) Z4.out, pw_cell_below (hbz12) Z5.out, pw_cell_below (hbz12) Z6.out, pw_cell_below (hbz12) Z7.out, pw_cell_below (hbz12) Z8.out, pw_cell_below (hbz12) Z9.out, pw_cell_below (hbz12) Z10.out, pw_cell_below (hbz12) Z11.out, pw_cell_below (hbz12) Z12.out, pw_cell_below (hbz12) Z13.out⟩ (fun hHeld => ?_)
      clear hK K
      refine one_ (i := 13) (N := none) #[true, true, true, true, true, true, true, true, true, true, true, true, true, true] rfl rfl (by kernel_rfl) (by decide) (fun K hK => ?_)
      refine put_row_step rfl rfl 46 (.tmp 7) (.tmp 39) rfl b7 _ rfl rfl 46 _ ((setRow_other _ _ _ _ (Ne.symm HNE.out.1)).trans HZ7.out) (by kernel_rfl) rfl (by simp [Value.oneCell']) ?_
      have hbz13 := row_below hHeld.1 HNE.out.2.2 #[.slice boA bon boc, .slice biA bin bic, .slice bmA bmn bmc, .slice brA brn brc, .string e.cmd, .string e.dep]
      refine hK.out _ _ ⟨hbz13, pw_cell_below (hbz13) Z0.out, pw_cell_below (hbz13) Z1.out, pw_cell_below (hbz13) Z2.out, pw_cell_below (hbz13) Z3.out, pw_cell_below (hbz13) Z4.out, pw_cell_below (hbz13) Z5.out, pw_cell_below (hbz13) Z6.out, pw_cell_below (hbz13) Z7.out, pw_cell_below (hbz13) Z8.out, pw_cell_below (hbz13) Z9.out, pw_cell_below (hbz13) Z10.out, pw_cell_below (hbz13) Z11.out, pw_cell_below (hbz13) Z12.out, pw_cell_below (hbz13) Z13.out⟩ (fun hHeld => ?_)
      clear hK K
      refine done_ (by kernel_rfl) ?_
      clear hHeld
      have HBZ := Lib.hid hbz13
      have HEA3 := Lib.hid (HEA.out.below hbz13)
      have HEB3 := Lib.hid (HEB.out.below hbz13)
      have HP : Hid (((wx.setRow b6 #[.slice aoA aon aoc, .slice aiA ain aic, .slice amA amn amc, .slice arA arn arc, .string e.cmd, .string e.dep]).setRow b7 #[.slice boA bon boc, .slice biA bin bic, .slice bmA bmn bmc, .slice brA brn brc, .string e.cmd, .string e.dep]).heap[b6]? = some (.cells #[.slice aoA aon aoc, .slice aiA ain aic, .slice amA amn amc, .slice arA arn arc, .string e.cmd, .string e.dep] 46 (0, 0))) := (setRow_other _ _ _ _ HNE.out.1).trans (setRow_heap wx b6 _ _ _ _ HZ6.out)
      have HQ : Hid (((wx.setRow b6 #[.slice aoA aon aoc, .slice aiA ain aic, .slice amA amn amc, .slice arA arn arc, .string e.cmd, .string e.dep]).setRow b7 #[.slice boA bon boc, .slice biA bin bic, .slice bmA bmn bmc, .slice brA brn brc, .string e.cmd, .string e.dep]).heap[b7]? = some (.cells #[.slice boA bon boc, .slice biA bin bic, .slice bmA bmn bmc, .slice brA brn brc, .string e.cmd, .string e.dep] 46 (0, 0))) := setRow_heap _ b7 _ _ _ _ ((setRow_other _ _ _ _ (Ne.symm HNE.out.1)).trans HZ7.out)
      clear hbz13 hbz12 HZ6 HZ7
      generalize (wx.setRow b6 #[.slice aoA aon aoc, .slice aiA ain aic, .slice amA amn amc, .slice arA arn arc, .string e.cmd, .string e.dep]).setRow b7 #[.slice boA bon boc, .slice biA bin bic, .slice bmA bmn bmc, .slice brA brn brc, .string e.cmd, .string e.dep] = w3 at HBZ HEA3 HEB3 HP HQ ⊢
      clear HEA HEB Z0 Z1 Z2 Z3 Z4 Z5 Z6 Z7 Z8 Z9 Z10 Z11 Z12 Z13 HBD HSZ
      have p0 := (show w3.cell? ⟨b6, 0, none⟩ = some (.slice aoA aon aoc) from blk_cell HP.out 0)
      have p1 := (show w3.cell? ⟨b6, 1, none⟩ = some (.slice aiA ain aic) from blk_cell HP.out 1)
      have p2 := (show w3.cell? ⟨b6, 2, none⟩ = some (.slice amA amn amc) from blk_cell HP.out 2)
      have p3 := (show w3.cell? ⟨b6, 3, none⟩ = some (.slice arA arn arc) from blk_cell HP.out 3)
      have s0 := (show w3.cell? ⟨b7, 0, none⟩ = some (.slice boA bon boc) from blk_cell HQ.out 0)
      have s1 := (show w3.cell? ⟨b7, 1, none⟩ = some (.slice biA bin bic) from blk_cell HQ.out 1)
      have s2 := (show w3.cell? ⟨b7, 2, none⟩ = some (.slice bmA bmn bmc) from blk_cell HQ.out 2)
      have s3 := (show w3.cell? ⟨b7, 3, none⟩ = some (.slice brA brn brc) from blk_cell HQ.out 3)
      have pc := (show w3.cell? ⟨b6, 4, none⟩ = some (.string e.cmd) from blk_cell HP.out 4)
      have pd := (show w3.cell? ⟨b6, 5, none⟩ = some (.string e.dep) from blk_cell HP.out 5)
      have sc := (show w3.cell? ⟨b7, 4, none⟩ = some (.string e.cmd) from blk_cell HQ.out 4)
      have sd := (show w3.cell? ⟨b7, 5, none⟩ = some (.string e.dep) from blk_cell HQ.out 5)
      go_wp2_with fail
      refine (rnames_any _ _ e.outs e.outs _ HEA3.out.1 HEB3.out.1).mono ?_
      rintro r w4 ⟨rfl, bl4⟩
      rw [show decide (e.outs = e.outs) = true from decide_eq_true rfl]
      have HP4 := Lib.hid ((bl4.block b6 (blk_lt HP.out)).trans HP.out)
      have HQ4 := Lib.hid ((bl4.block b7 (blk_lt HQ.out)).trans HQ.out)
      have HEA4 := Lib.hid (HEA3.out.below bl4)
      have HEB4 := Lib.hid (HEB3.out.below bl4)
      have HBZ4 := Lib.hid (HBZ.out.trans (bl4.mono HBZ.out.size))
      clear bl4 p0 s0 p1 s1 p2 s2 p3 s3 pc pd sc sd
      have p0 := (show w4.cell? ⟨b6, 0, none⟩ = some (.slice aoA aon aoc) from blk_cell HP4.out 0)
      have p1 := (show w4.cell? ⟨b6, 1, none⟩ = some (.slice aiA ain aic) from blk_cell HP4.out 1)
      have p2 := (show w4.cell? ⟨b6, 2, none⟩ = some (.slice amA amn amc) from blk_cell HP4.out 2)
      have p3 := (show w4.cell? ⟨b6, 3, none⟩ = some (.slice arA arn arc) from blk_cell HP4.out 3)
      have s0 := (show w4.cell? ⟨b7, 0, none⟩ = some (.slice boA bon boc) from blk_cell HQ4.out 0)
      have s1 := (show w4.cell? ⟨b7, 1, none⟩ = some (.slice biA bin bic) from blk_cell HQ4.out 1)
      have s2 := (show w4.cell? ⟨b7, 2, none⟩ = some (.slice bmA bmn bmc) from blk_cell HQ4.out 2)
      have s3 := (show w4.cell? ⟨b7, 3, none⟩ = some (.slice brA brn brc) from blk_cell HQ4.out 3)
      have pc := (show w4.cell? ⟨b6, 4, none⟩ = some (.string e.cmd) from blk_cell HP4.out 4)
      have pd := (show w4.cell? ⟨b6, 5, none⟩ = some (.string e.dep) from blk_cell HP4.out 5)
      have sc := (show w4.cell? ⟨b7, 4, none⟩ = some (.string e.cmd) from blk_cell HQ4.out 4)
      have sd := (show w4.cell? ⟨b7, 5, none⟩ = some (.string e.dep) from blk_cell HQ4.out 5)
      go_wp2_with fail
      refine (rnames_any _ _ e.ins e.ins _ HEA4.out.2.1 HEB4.out.2.1).mono ?_
      rintro r w5 ⟨rfl, bl5⟩
      rw [show decide (e.ins = e.ins) = true from decide_eq_true rfl]
      have HP5 := Lib.hid ((bl5.block b6 (blk_lt HP4.out)).trans HP4.out)
      have HQ5 := Lib.hid ((bl5.block b7 (blk_lt HQ4.out)).trans HQ4.out)
      have HEA5 := Lib.hid (HEA4.out.below bl5)
      have HEB5 := Lib.hid (HEB4.out.below bl5)
      have HBZ5 := Lib.hid (HBZ4.out.trans (bl5.mono HBZ4.out.size))
      clear bl5 p0 s0 p1 s1 p2 s2 p3 s3 pc pd sc sd
      have p0 := (show w5.cell? ⟨b6, 0, none⟩ = some (.slice aoA aon aoc) from blk_cell HP5.out 0)
      have p1 := (show w5.cell? ⟨b6, 1, none⟩ = some (.slice aiA ain aic) from blk_cell HP5.out 1)
      have p2 := (show w5.cell? ⟨b6, 2, none⟩ = some (.slice amA amn amc) from blk_cell HP5.out 2)
      have p3 := (show w5.cell? ⟨b6, 3, none⟩ = some (.slice arA arn arc) from blk_cell HP5.out 3)
      have s0 := (show w5.cell? ⟨b7, 0, none⟩ = some (.slice boA bon boc) from blk_cell HQ5.out 0)
      have s1 := (show w5.cell? ⟨b7, 1, none⟩ = some (.slice biA bin bic) from blk_cell HQ5.out 1)
      have s2 := (show w5.cell? ⟨b7, 2, none⟩ = some (.slice bmA bmn bmc) from blk_cell HQ5.out 2)
      have s3 := (show w5.cell? ⟨b7, 3, none⟩ = some (.slice brA brn brc) from blk_cell HQ5.out 3)
      have pc := (show w5.cell? ⟨b6, 4, none⟩ = some (.string e.cmd) from blk_cell HP5.out 4)
      have pd := (show w5.cell? ⟨b6, 5, none⟩ = some (.string e.dep) from blk_cell HP5.out 5)
      have sc := (show w5.cell? ⟨b7, 4, none⟩ = some (.string e.cmd) from blk_cell HQ5.out 4)
      have sd := (show w5.cell? ⟨b7, 5, none⟩ = some (.string e.dep) from blk_cell HQ5.out 5)
      go_wp2_with fail
      refine (rnames_any _ _ e.imp e.imp _ HEA5.out.2.2.1 HEB5.out.2.2.1).mono ?_
      rintro r w6 ⟨rfl, bl6⟩
      rw [show decide (e.imp = e.imp) = true from decide_eq_true rfl]
      have HP6 := Lib.hid ((bl6.block b6 (blk_lt HP5.out)).trans HP5.out)
      have HQ6 := Lib.hid ((bl6.block b7 (blk_lt HQ5.out)).trans HQ5.out)
      have HEA6 := Lib.hid (HEA5.out.below bl6)
      have HEB6 := Lib.hid (HEB5.out.below bl6)
      have HBZ6 := Lib.hid (HBZ5.out.trans (bl6.mono HBZ5.out.size))
      clear bl6 p0 s0 p1 s1 p2 s2 p3 s3 pc pd sc sd
      have p0 := (show w6.cell? ⟨b6, 0, none⟩ = some (.slice aoA aon aoc) from blk_cell HP6.out 0)
      have p1 := (show w6.cell? ⟨b6, 1, none⟩ = some (.slice aiA ain aic) from blk_cell HP6.out 1)
      have p2 := (show w6.cell? ⟨b6, 2, none⟩ = some (.slice amA amn amc) from blk_cell HP6.out 2)
      have p3 := (show w6.cell? ⟨b6, 3, none⟩ = some (.slice arA arn arc) from blk_cell HP6.out 3)
      have s0 := (show w6.cell? ⟨b7, 0, none⟩ = some (.slice boA bon boc) from blk_cell HQ6.out 0)
      have s1 := (show w6.cell? ⟨b7, 1, none⟩ = some (.slice biA bin bic) from blk_cell HQ6.out 1)
      have s2 := (show w6.cell? ⟨b7, 2, none⟩ = some (.slice bmA bmn bmc) from blk_cell HQ6.out 2)
      have s3 := (show w6.cell? ⟨b7, 3, none⟩ = some (.slice brA brn brc) from blk_cell HQ6.out 3)
      have pc := (show w6.cell? ⟨b6, 4, none⟩ = some (.string e.cmd) from blk_cell HP6.out 4)
      have pd := (show w6.cell? ⟨b6, 5, none⟩ = some (.string e.dep) from blk_cell HP6.out 5)
      have sc := (show w6.cell? ⟨b7, 4, none⟩ = some (.string e.cmd) from blk_cell HQ6.out 4)
      have sd := (show w6.cell? ⟨b7, 5, none⟩ = some (.string e.dep) from blk_cell HQ6.out 5)
      go_wp2_with fail
      refine (rnames_any _ _ e.ord e.ord _ HEA6.out.2.2.2 HEB6.out.2.2.2).mono ?_
      rintro r w7 ⟨rfl, bl7⟩
      rw [show decide (e.ord = e.ord) = true from decide_eq_true rfl]
      have HP7 := Lib.hid ((bl7.block b6 (blk_lt HP6.out)).trans HP6.out)
      have HQ7 := Lib.hid ((bl7.block b7 (blk_lt HQ6.out)).trans HQ6.out)
      have HEA7 := Lib.hid (HEA6.out.below bl7)
      have HEB7 := Lib.hid (HEB6.out.below bl7)
      have HBZ7 := Lib.hid (HBZ6.out.trans (bl7.mono HBZ6.out.size))
      clear bl7 p0 s0 p1 s1 p2 s2 p3 s3 pc pd sc sd
      have p0 := (show w7.cell? ⟨b6, 0, none⟩ = some (.slice aoA aon aoc) from blk_cell HP7.out 0)
      have p1 := (show w7.cell? ⟨b6, 1, none⟩ = some (.slice aiA ain aic) from blk_cell HP7.out 1)
      have p2 := (show w7.cell? ⟨b6, 2, none⟩ = some (.slice amA amn amc) from blk_cell HP7.out 2)
      have p3 := (show w7.cell? ⟨b6, 3, none⟩ = some (.slice arA arn arc) from blk_cell HP7.out 3)
      have s0 := (show w7.cell? ⟨b7, 0, none⟩ = some (.slice boA bon boc) from blk_cell HQ7.out 0)
      have s1 := (show w7.cell? ⟨b7, 1, none⟩ = some (.slice biA bin bic) from blk_cell HQ7.out 1)
      have s2 := (show w7.cell? ⟨b7, 2, none⟩ = some (.slice bmA bmn bmc) from blk_cell HQ7.out 2)
      have s3 := (show w7.cell? ⟨b7, 3, none⟩ = some (.slice brA brn brc) from blk_cell HQ7.out 3)
      have pc := (show w7.cell? ⟨b6, 4, none⟩ = some (.string e.cmd) from blk_cell HP7.out 4)
      have pd := (show w7.cell? ⟨b6, 5, none⟩ = some (.string e.dep) from blk_cell HP7.out 5)
      have sc := (show w7.cell? ⟨b7, 4, none⟩ = some (.string e.cmd) from blk_cell HQ7.out 4)
      have sd := (show w7.cell? ⟨b7, 5, none⟩ = some (.string e.dep) from blk_cell HQ7.out 5)
      have d1 : (e.cmd.toList != e.cmd.toList) = false := bne_self_eq_false _
      have d2 : (e.dep.toList != e.dep.toList) = false := bne_self_eq_false _
      have HBF := Lib.hid (HBW.out.trans (HBZ7.out.mono HBW.out.size))
      go_wp2
      clear p0 s0 p1 s1 p2 s2 p3 s3 pc pd sc sd d1 d2
      go_roundw
      case rel => exact ⟨k + 1, by omega, by go_num, HBF.out⟩
      case measure => simp [intOf]; omega
    · have HBF := Lib.hid (HBB2.out.trans (HBW.out.mono HBB2.out.size))
      clear hxr hrr
      go_wp2
      go_ret
      exact ⟨rfl, HBF.out⟩
end Go.Proofs.Ytifbkojapfighaa.Gr
