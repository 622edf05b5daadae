/- The program's book against the document's: same (walk). -/
import Derived.Test.YtinonkakpgiblaaNamPut
import Derived.Test.YtinonkakpgiblaaNamAll
import Derived.Test.YtinonkakpgiblaaNamLooks
import Derived.Test.YtinonkakpgiblaaNamNames
namespace Go.Proofs.Ytinonkakpgiblaa.Nam
open Go.RowKit Go.Proofs.YtinonkakpgiblaaW.PrintWords Go.Proofs.YtinonkakpgiblaaW.PrintLast Go.Proofs.Ytinonkakpgiblaa.Base Go.Proofs.Ytinonkakpgiblaa.Pack Go.Maps
set_option linter.unusedVariables false
set_option linter.unusedSimpArgs false

theorem AllOf.one {b : BookV} : ∀ {l m : List DepV}, AllOf b l → AllOf b m → l = m := by
  have key : ∀ (l m : List DepV), DSorted l → DSorted m → (l.map (·.out)).Nodup → (m.map (·.out)).Nodup → (∀ d, d ∈ l ↔ d ∈ m) → l = m := by
    intro l
    induction l with
    | nil =>
      intro m _ _ _ _ h
      cases m with
      | nil => rfl
      | cons a m => exact absurd ((h a).2 (by simp)) (by simp)
    | cons a l ih =>
      intro m hl hm nl nm h
      cases m with
      | nil => exact absurd ((h a).1 (by simp)) (by simp)
      | cons b m =>
        obtain ⟨l1, l2⟩ := List.pairwise_cons.1 hl
        obtain ⟨m1, m2⟩ := List.pairwise_cons.1 hm
        rw [List.map_cons, List.nodup_cons] at nl nm
        have hab : a = b := by
          rcases List.mem_cons.1 ((h a).1 (by simp)) with e | h1
          · exact e
          · rcases List.mem_cons.1 ((h b).2 (by simp)) with e | h2
            · exact e.symm
            · have e := dlt_total _ _ (m1 a h1) (l1 b h2)
              exact absurd (List.mem_map_of_mem h2) (e ▸ nl.1)
        subst hab
        rw [ih m l2 m2 nl.2 nm.2 (fun d => by
          constructor
          · intro hd
            rcases List.mem_cons.1 ((h d).1 (List.mem_cons_of_mem _ hd)) with rfl | h1
            · exact absurd (List.mem_map_of_mem hd) nl.1
            · exact h1
          · intro hd
            rcases List.mem_cons.1 ((h d).2 (List.mem_cons_of_mem _ hd)) with rfl | h1
            · exact absurd (List.mem_map_of_mem hd) nm.1
            · exact h1)]
  intro l m hl hm
  exact key l m hl.sorted hm.sorted hl.nodup hm.nodup (fun d => (hl.mem d).trans (hm.mem d).symm)
--BEGIN WALK
set_option maxRecDepth 100000 in
set_option maxHeartbeats 8000000 in
theorem bsame_any (S T : Nat → Prop) (c gn g : Nat) (b : BookV) (L : List DepV) (w : World) (hB : Bk S c w gn b) (hR : RBk T w g b.ns L) (hA : AllOf b L) (hc : c ≤ 1000000) (hfl : ∀ n f, b.os n = some f → f.deps.length ≤ 1000000) (hsz : ∀ d ∈ L, d.out.size ≤ maxLen) :
    Calls Try.prog 25 #[.pointer (some ⟨gn, 0, none⟩), .pointer (some ⟨g, 0, none⟩)] w fun e w' => e = .returned (.bool true) ∧ Below w.heap.size w w' := by
  have hns : b.ns.length ≤ 1000000 := by have := hB.few; omega
  have HK := Lib.hid hB
  have HR := Lib.hid hR
  have HA := Lib.hid hA
  have HFL := Lib.hid hfl
  have HSZ := Lib.hid hsz
  clear hB hR hA hfl hsz
  go_enter Try.func25, Try.ntmps25
  go_wp2_with fail
  refine (names_any S c gn b _ HK.out hc).mono ?_
  rintro e w1 ⟨v1, rfl, hn1, hb1⟩
  obtain ⟨A1, c1, ev1⟩ := Kd.R_slice hn1
  obtain ⟨nn, hnn⟩ : ∃ nn, nn = b.ns.length := ⟨_, rfl⟩
  rw [← hnn] at ev1 hns
  subst ev1
  have HNN := Lib.hid hnn
  have HN1 := Lib.hid hn1
  have HB1 := Lib.hid hb1
  have HK1 := Lib.hid (HK.out.below hb1)
  clear hnn hn1 hb1
  go_wp2_with fail
  refine (ball_any S c gn b _ HK1.out hc HFL.out).mono ?_
  rintro e w2 ⟨v2, x', rfl, hax, hxl, hr2, hb2⟩
  obtain rfl : x' = L := AllOf.one hax HA.out
  obtain ⟨A2, c2, ev2⟩ := hr2.slice
  subst ev2
  obtain ⟨nx, hnx⟩ : ∃ nx, nx = x'.length := ⟨_, rfl⟩
  rw [← hnx] at hxl hr2 ⊢
  have HNX := Lib.hid hnx
  have HB2 := Lib.hid (HB1.out.trans (hb2.mono HB1.out.size))
  have HK2 := Lib.hid (HK1.out.below hb2)
  have HSS1 := Lib.hid (r_ss (Kd.R_below HN1.out hb2))
  have HDZ1 := Lib.hid (dr_dz hr2)
  have HR2 := Lib.hid (HR.out.below HB2.out)
  clear hax hr2 hb2 HN1
  obtain ⟨_, _, v3, v4, hg, hN, hL⟩ := HR2.out
  obtain ⟨A3, c3, e3⟩ := Kd.R_slice hN
  rw [← HNN.out] at e3
  subst e3
  obtain ⟨A4, c4, e4⟩ := Kd.R_slice hL
  rw [List.length_map, ← hnx] at e4
  subst e4
  have HSS2 := Lib.hid (r_ss hN)
  have HDZ2 := Lib.hid (kd_dz hL)
  have XG := Lib.hid hg
  clear hN hL hg hnx
  have g0 := blk_cell XG.out 0
  have g1 := blk_cell XG.out 1
  have hb1 : ((nn : Int) != (nn : Int)) = false := by simp
  have hb2 : ((nx : Int) != (nx : Int)) = false := by simp
  go_wp2
  clear hb1 hb2 g0 g1
  --S1
  go_loopw [7] (fun i wr => ∃ k : Nat, k ≤ nn ∧ i = .int .i64 k ∧ Hid (Below w2.heap.size w2 wr)) (fun i _ => nn - (intOf i).toNat)
  case atStart => exact ⟨0, by omega, rfl, Below.refl _ _⟩
  case round =>
    obtain ⟨k, hk, rfl, HB⟩ := hrel
    by_cases l1 : k < nn
    · have hkl : k < b.ns.length := by rw [← HNN.out]; exact l1
      obtain ⟨Ax, cx, ex, _, _, hcel⟩ := HSS1.out.below HB.out
      injection ex with ex1 ex2 ex3
      subst ex1
      obtain ⟨a1, ead, hcell⟩ := hcel (by omega)
      subst ead
      have q1 := hcell k hkl
      obtain ⟨Ay, cy, ey, _, _, hcey⟩ := HSS2.out.below HB.out
      injection ey with ey1 ey2 ey3
      subst ey1
      obtain ⟨a3, ead3, hcell3⟩ := hcey (by omega)
      subst ead3
      have q3 := hcell3 k hkl
      have g0 := pw_cell_below HB.out (blk_cell XG.out 0)
      generalize b.ns.getD k ByteArray.empty = sj at q1 q3
      have hb : (sj.toList != sj.toList) = false := by simp
      clear ex2 ex3 ey2 ey3 hcel hcell hcey hcell3 hkl
      go_wp2
      go_quiet (fail)
      have HN5 : Hid (Below w2.heap.size w2 (wr.drewN nq)) := pw_below_drewN HB.out _
      go_wp2
      go_roundw
      case rel => exact ⟨k + 1, by omega, by go_num, HN5.out⟩
      case measure => simp [intOf]; omega
    · obtain ⟨w3, hw3⟩ : ∃ w3, w3 = wr := ⟨_, rfl⟩
      subst hw3
      have HB3 := Lib.hid (HB2.out.trans (HB.out.mono HB2.out.size))
      have HK3 := Lib.hid (HK2.out.below HB.out)
      have HDX := Lib.hid (HDZ1.out.below HB.out)
      have HDY := Lib.hid (HDZ2.out.below HB.out)
      have G1 := Lib.hid (pw_cell_below HB.out (blk_cell XG.out 1))
      clear HB HDZ1 HDZ2 HK2 HSS1 HSS2
      go_wp2
      clear l1 hk
      --S2
      go_loopw [8] (fun i wr => ∃ k : Nat, k ≤ nx ∧ i = .int .i64 k ∧ Hid (Below w3.heap.size w3 wr)) (fun i _ => nx - (intOf i).toNat)
      case atStart => exact ⟨0, by omega, rfl, Below.refl _ _⟩
      case round =>
        obtain ⟨k, hk, rfl, HB⟩ := hrel
        by_cases l1 : k < nx
        · have hkl : k < x'.length := by rw [← HNX.out]; exact l1
          obtain ⟨ad, vd, e1, q0, q1, q2, hs⟩ := (HDX.out.below HB.out).get k hkl
          subst e1
          obtain ⟨bd, ve, e2, r0, r1, r2, ht⟩ := (HDY.out.below HB.out).get k hkl
          subst e2
          have hmem := (take_at x' zdep k hkl).2
          have hlook := (HA.out.look HK.out.good _).1 hmem
          have hosz := HSZ.out _ hmem
          have HLK := Lib.hid hlook
          have HOSZ := Lib.hid hosz
          have HSD := Lib.hid hs
          have HTD := Lib.hid ht
          clear hmem hs ht hkl hlook hosz
          generalize x'.getD k zdep = d at q0 q1 q2 r0 r1 r2 HLK HOSZ HSD HTD
          obtain ⟨Ad, cd, ev, _, _⟩ := ss_len HSD.out
          subst ev
          obtain ⟨Ae, ce, ev, _, _⟩ := ss_len HTD.out
          subst ev
          obtain ⟨nd, hnd⟩ : ∃ nd, nd = d.deps.length := ⟨_, rfl⟩
          rw [← hnd] at HSD HTD q2 r2
          have HND := Lib.hid hnd
          clear hnd
          have Q0 := Lib.hid q0
          have Q1 := Lib.hid q1
          have Q2 := Lib.hid q2
          have R0 := Lib.hid r0
          have R1 := Lib.hid r1
          have R2 := Lib.hid r2
          have G2 := Lib.hid (pw_cell_below HB.out G1.out)
          have HKk := Lib.hid (HK3.out.below HB.out)
          have g1 := G2.out
          clear q0 q1 q2 r1 r2
          go_wp2_with fail
          --S3
          refine (look_any S c gn b d.out _ HKk.out HOSZ.out hc HFL.out).mono ?_
          rintro e w6 ⟨v6, rfl, hd6, hb6⟩
          rw [HLK.out] at hd6 ⊢
          simp only [Option.getD_some, Option.isSome_some] at hd6 ⊢
          obtain ⟨vd6, rfl, hr6⟩ := hd6
          obtain ⟨A6, c6, ev6⟩ := Kd.R_slice hr6
          rw [← HND.out] at ev6
          subst ev6
          obtain ⟨x5, hx5⟩ : ∃ x5, w6.heap.size = x5 := ⟨_, rfl⟩
          obtain ⟨w7, hw7⟩ : ∃ w7, w7 = w6.alloc (.cells #[.string d.out, .int .i64 d.time, .slice A6 nd c6] 36) := ⟨_, rfl⟩
          have hb7 : Below w6.heap.size w6 w7 := by rw [hw7]; exact below_alloc (Below.refl _ _) _
          have HBR := Lib.hid (hb6.trans (hb7.mono hb6.size))
          have X7 : Hid (w7.heap[x5]? = some (.cells #[.string d.out, .int .i64 d.time, .slice A6 nd c6] 36 (0, 0))) := by show _ = _; rw [hw7, ← hx5]; exact blk_new w6 _
          have HF7 : Hid (DepIs w7 (.agg #[.string d.out, .int .i64 d.time, .slice A6 nd c6]) d) := ⟨_, rfl, (r_ss hr6).below hb7⟩
          have HD7 : Hid (DepIs w7 (.agg #[.string d.out, .int .i64 d.time, .slice Ad nd cd]) d) := ⟨_, rfl, HSD.out.below HBR.out⟩
          have HE7 : Hid (DepIs w7 (.agg #[.string d.out, .int .i64 d.time, .slice Ae nd ce]) d) := ⟨_, rfl, HTD.out.below HBR.out⟩
          have HWK7 := Lib.hid (HB.out.trans (HBR.out.mono HB.out.size))
          have U0 := Lib.hid (pw_cell_below HBR.out Q0.out)
          have U1 := Lib.hid (pw_cell_below HBR.out Q1.out)
          have U2 := Lib.hid (pw_cell_below HBR.out Q2.out)
          have T0 := Lib.hid (pw_cell_below HBR.out R0.out)
          have T1 := Lib.hid (pw_cell_below HBR.out R1.out)
          have T2 := Lib.hid (pw_cell_below HBR.out R2.out)
          have G7 := Lib.hid (pw_cell_below HBR.out G2.out)
          have V0 := Lib.hid (show w7.cell? ⟨x5, 0, none⟩ = some (.string d.out) from blk_cell X7.out 0)
          have V1 := Lib.hid (show w7.cell? ⟨x5, 1, none⟩ = some (.int .i64 d.time) from blk_cell X7.out 1)
          have V2 := Lib.hid (show w7.cell? ⟨x5, 2, none⟩ = some (.slice A6 nd c6) from blk_cell X7.out 2)
          have HW7 := Lib.hid hw7
          clear hr6 hb7 hw7 hb6 g1 r0
          go_upto_region 13 with (fail)
          rw [← HW7.out]
          try rw [hx5]
          clear hx5
          --S4
          refine start_ (n := 31) (S := fun w' => Below w7.heap.size w7 w' ∧ w'.cell? ⟨x5, 0, none⟩ = some (.string d.out) ∧ w'.cell? ⟨x5, 1, none⟩ = some (.int .i64 d.time) ∧ w'.cell? ⟨x5, 2, none⟩ = some (.slice A6 nd c6) ∧ w'.cell? (ad.add (k * 3)) = some (.string d.out) ∧ w'.cell? ⟨(ad.add (k * 3)).block, (ad.add (k * 3)).off + 1, none⟩ = some (.int .i64 d.time) ∧ w'.cell? ⟨(ad.add (k * 3)).block, (ad.add (k * 3)).off + 2, none⟩ = some (.slice Ad nd cd) ∧ w'.cell? (bd.add (k * 3)) = some (.string d.out) ∧ w'.cell? ⟨(bd.add (k * 3)).block, (bd.add (k * 3)).off + 1, none⟩ = some (.int .i64 d.time) ∧ w'.cell? ⟨(bd.add (k * 3)).block, (bd.add (k * 3)).off + 2, none⟩ = some (.slice Ae nd ce) ∧ w'.cell? ⟨g, 1, none⟩ = some (.slice (some bd) nx c4)) (ds := []) #[false, false, false, false, false, false, false, false, false, false, false, false, false, false, false, false, false, false, false, false, false, false, false, false, false, false, false, false, false, false, false] (by kernel_rfl) rfl rfl ⟨Below.drew (Below.refl _ _), V0.out, V1.out, V2.out, U0.out, U1.out, U2.out, T0.out, T1.out, T2.out, G7.out⟩ (fun hHeld => ?_)
          refine pure_ (i := 0) (N := some 70) (v := ?_) (a' := ?_) #[true, false, false, false, false, false, false, false, false, false, false, false, false, false, false, false, false, false, false, false, false, false, false, false, false, false, false, false, false, false, false] rfl rfl (by kernel_rfl) (fun _ _ _ h => h) (Or.inl ⟨by rfl, ?_⟩) ?_ ?_
          rotate_left
          · intro w'
            go_simp
            with_reducible rfl
          rotate_left
          · simp only [Act.put, List.setIfInBounds_toArray, List.set_cons_zero, List.set_cons_succ, i64_w, i32_w]
            rfl
          refine pure_ (i := 1) (N := some 71) (v := ?_) (a' := ?_) #[true, true, false, false, false, false, false, false, false, false, false, false, false, false, false, false, false, false, false, false, false, false, false, false, false, false, false, false, false, false, false] rfl rfl (by kernel_rfl) (fun _ _ _ h => h) (Or.inl ⟨by rfl, ?_⟩) ?_ ?_
          rotate_left
          · intro w'
            go_simp
            with_reducible rfl
          rotate_left
          · simp only [Act.put, List.setIfInBounds_toArray, List.set_cons_zero, List.set_cons_succ, i64_w, i32_w]
            rfl
          refine pure_ (i := 2) (N := some 72) (v := ?_) (a' := ?_) #[true, true, true, false, false, false, false, false, false, false, false, false, false, false, false, false, false, false, false, false, false, false, false, false, false, false, false, false, false, false, false] rfl rfl (by kernel_rfl) (fun _ _ _ h => h) (Or.inl ⟨by rfl, ?_⟩) ?_ ?_
          rotate_left
          · intro w'
            go_simp
            with_reducible rfl
          rotate_left
          · simp only [Act.put, List.setIfInBounds_toArray, List.set_cons_zero, List.set_cons_succ, i64_w, i32_w]
            rfl
          refine pure_ (i := 5) (N := some 75) (v := ?_) (a' := ?_) #[true, true, true, false, false, true, false, false, false, false, false, false, false, false, false, false, false, false, false, false, false, false, false, false, false, false, false, false, false, false, false] rfl rfl (by kernel_rfl) (fun _ _ _ h => h) (Or.inl ⟨by rfl, ?_⟩) ?_ ?_
          rotate_left
          · intro w'
            go_simp
            with_reducible rfl
          rotate_left
          · simp only [Act.put, List.setIfInBounds_toArray, List.set_cons_zero, List.set_cons_succ, i64_w, i32_w]
            rfl
          refine pure_ (i := 6) (N := some 76) (v := ?_) (a' := ?_) #[true, true, true, false, false, true, true, false, false, false, false, false, false, false, false, false, false, false, false, false, false, false, false, false, false, false, false, false, false, false, false] rfl rfl (by kernel_rfl) (fun _ _ _ h => h) (Or.inl ⟨by rfl, ?_⟩) ?_ ?_
          rotate_left
          · intro w'
            go_simp
            with_reducible rfl
          rotate_left
          · simp only [Act.put, List.setIfInBounds_toArray, List.set_cons_zero, List.set_cons_succ, i64_w, i32_w]
            rfl
          refine pure_ (i := 7) (N := some 77) (v := ?_) (a' := ?_) #[true, true, true, false, false, true, true, true, false, false, false, false, false, false, false, false, false, false, false, false, false, false, false, false, false, false, false, false, false, false, false] rfl rfl (by kernel_rfl) (fun _ _ _ h => h) (Or.inl ⟨by rfl, ?_⟩) ?_ ?_
          rotate_left
          · intro w'
            go_simp
            with_reducible rfl
          rotate_left
          · simp only [Act.put, List.setIfInBounds_toArray, List.set_cons_zero, List.set_cons_succ, i64_w, i32_w]
            rfl
          refine pure_ (i := 9) (N := some 79) (v := ?_) (a' := ?_) #[true, true, true, false, false, true, true, true, false, true, false, false, false, false, false, false, false, false, false, false, false, false, false, false, false, false, false, false, false, false, false] rfl rfl (by kernel_rfl) (fun _ _ _ h => h) (Or.inl ⟨by rfl, ?_⟩) ?_ ?_
          rotate_left
          · intro w'
            go_simp
            with_reducible rfl
          rotate_left
          · simp only [Act.put, List.setIfInBounds_toArray, List.set_cons_zero, List.set_cons_succ, i64_w, i32_w]
            rfl
          refine take_ (i := 3) (N := some 73) (v := ?_) (a' := ?_) #[true, true, true, true, false, true, true, true, false, true, false, false, false, false, false, false, false, false, false, false, false, false, false, false, false, false, false, false, false, false, false] rfl rfl (by kernel_rfl) (fun _ _ _ h => h) (Or.inl ⟨by rfl, ?_⟩) hHeld ?_ ?_
          rotate_left
          · rintro w' ⟨s0, s1, s2, s3, s4, s5, s6, s7, s8, s9, s10⟩
            go_simp
            with_reducible rfl
          rotate_left
          · simp only [Act.put, List.setIfInBounds_toArray, List.set_cons_zero, List.set_cons_succ, i64_w, i32_w]
            rfl
          refine take_ (i := 8) (N := some 78) (v := ?_) (a' := ?_) #[true, true, true, true, false, true, true, true, true, true, false, false, false, false, false, false, false, false, false, false, false, false, false, false, false, false, false, false, false, false, false] rfl rfl (by kernel_rfl) (fun _ _ _ h => h) (Or.inl ⟨by rfl, ?_⟩) hHeld ?_ ?_
          rotate_left
          · rintro w' ⟨s0, s1, s2, s3, s4, s5, s6, s7, s8, s9, s10⟩
            go_simp
            with_reducible rfl
          rotate_left
          · simp only [Act.put, List.setIfInBounds_toArray, List.set_cons_zero, List.set_cons_succ, i64_w, i32_w]
            rfl
          refine pure_ (i := 10) (N := some 80) (v := ?_) (a' := ?_) #[true, true, true, true, false, true, true, true, true, true, true, false, false, false, false, false, false, false, false, false, false, false, false, false, false, false, false, false, false, false, false] rfl rfl (by kernel_rfl) (fun _ _ _ h => h) (Or.inl ⟨by rfl, ?_⟩) ?_ ?_
          rotate_left
          · intro w'
            go_simp
            with_reducible rfl
          rotate_left
          · simp only [Act.put, List.setIfInBounds_toArray, List.set_cons_zero, List.set_cons_succ, i64_w, i32_w]
            rfl
          refine take_ (i := 11) (N := some 81) (v := ?_) (a' := ?_) #[true, true, true, true, false, true, true, true, true, true, true, true, false, false, false, false, false, false, false, false, false, false, false, false, false, false, false, false, false, false, false] rfl rfl (by kernel_rfl) (fun _ _ _ h => h) (Or.inl ⟨by rfl, ?_⟩) hHeld ?_ ?_
          rotate_left
          · rintro w' ⟨s0, s1, s2, s3, s4, s5, s6, s7, s8, s9, s10⟩
            go_simp
            with_reducible rfl
          rotate_left
          · simp only [Act.put, List.setIfInBounds_toArray, List.set_cons_zero, List.set_cons_succ, i64_w, i32_w]
            rfl
          refine one_ (i := 4) (N := some 74) #[true, true, true, true, true, true, true, true, true, true, true, true, false, false, false, false, false, false, false, false, false, false, false, false, false, false, false, false, false, false, false] rfl rfl (by kernel_rfl) (by decide) (fun K hK => ?_)
          refine goes_ Try.func19 (by kernel_rfl) rfl #[.agg #[.string d.out, .int .i64 d.time, .slice Ad nd cd]] (by rfl) rfl rfl (by first | (simp only [List.map_toArray, List.map_cons, List.map_nil]; done) | (simp only [List.map_toArray, List.map_cons, List.map_nil]; rfl) | rfl) ?_
          with_reducible refine (found_any _ d _ (HD7.out.below hHeld.1)).mono ?_
          rintro e wf ⟨vf, rfl, df, bf⟩
          refine ⟨_, rfl, ?_⟩
          have hbf := hHeld.1.trans (bf.mono hHeld.1.size)
          have HDF := Lib.hid df
          clear df
          clear bf
          refine hK.out _ _ ⟨hbf, pw_cell_below (hbf) V0.out, pw_cell_below (hbf) V1.out, pw_cell_below (hbf) V2.out, pw_cell_below (hbf) U0.out, pw_cell_below (hbf) U1.out, pw_cell_below (hbf) U2.out, pw_cell_below (hbf) T0.out, pw_cell_below (hbf) T1.out, pw_cell_below (hbf) T2.out, pw_cell_below (hbf) G7.out⟩ (fun hHeld => ?_)
          clear hK K
          refine norm_ (a' := ?_) ?_ ?_
          rotate_left
          · show Act.put _ (some 74) _ = _
            simp only [Act.put, List.setIfInBounds_toArray, List.set_cons_zero, List.set_cons_succ, i64_w, i32_w]
            rfl
          refine one_ (i := 12) (N := some 82) #[true, true, true, true, true, true, true, true, true, true, true, true, true, false, false, false, false, false, false, false, false, false, false, false, false, false, false, false, false, false, false] rfl rfl (by kernel_rfl) (by decide) (fun K hK => ?_)
          refine goes_ Try.func18 (by kernel_rfl) rfl #[vf, .agg #[.string d.out, .int .i64 d.time, .slice Ae nd ce]] (by rfl) rfl rfl (by first | (simp only [List.map_toArray, List.map_cons, List.map_nil]; done) | (simp only [List.map_toArray, List.map_cons, List.map_nil]; rfl) | rfl) ?_
          with_reducible refine (same_true _ _ d _ HDF.out (HE7.out.below hHeld.1)).mono ?_
          rintro e ws ⟨rfl, bs⟩
          refine ⟨_, rfl, ?_⟩
          have hbs := hHeld.1.trans (bs.mono hHeld.1.size)
          clear bs
          refine hK.out _ _ ⟨hbs, pw_cell_below (hbs) V0.out, pw_cell_below (hbs) V1.out, pw_cell_below (hbs) V2.out, pw_cell_below (hbs) U0.out, pw_cell_below (hbs) U1.out, pw_cell_below (hbs) U2.out, pw_cell_below (hbs) T0.out, pw_cell_below (hbs) T1.out, pw_cell_below (hbs) T2.out, pw_cell_below (hbs) G7.out⟩ (fun hHeld => ?_)
          clear hK K
          refine norm_ (a' := ?_) ?_ ?_
          rotate_left
          · show Act.put _ (some 82) _ = _
            simp only [Act.put, List.setIfInBounds_toArray, List.set_cons_zero, List.set_cons_succ, i64_w, i32_w]
            rfl
          refine pure_ (i := 13) (N := some 83) (v := ?_) (a' := ?_) #[true, true, true, true, true, true, true, true, true, true, true, true, true, true, false, false, false, false, false, false, false, false, false, false, false, false, false, false, false, false, false] rfl rfl (by kernel_rfl) (fun _ _ _ h => h) (Or.inl ⟨by rfl, ?_⟩) ?_ ?_
          rotate_left
          · intro w'
            go_simp
            with_reducible rfl
          rotate_left
          · simp only [Act.put, List.setIfInBounds_toArray, List.set_cons_zero, List.set_cons_succ, i64_w, i32_w]
            rfl
          refine pure_ (i := 14) (N := some 84) (v := ?_) (a' := ?_) #[true, true, true, true, true, true, true, true, true, true, true, true, true, true, true, false, false, false, false, false, false, false, false, false, false, false, false, false, false, false, false] rfl rfl (by kernel_rfl) (fun _ _ _ h => h) (Or.inl ⟨by rfl, ?_⟩) ?_ ?_
          rotate_left
          · intro w'
            go_simp
            with_reducible rfl
          rotate_left
          · simp only [Act.put, List.setIfInBounds_toArray, List.set_cons_zero, List.set_cons_succ, i64_w, i32_w]
            rfl
          refine pure_ (i := 15) (N := some 85) (v := ?_) (a' := ?_) #[true, true, true, true, true, true, true, true, true, true, true, true, true, true, true, true, false, false, false, false, false, false, false, false, false, false, false, false, false, false, false] rfl rfl (by kernel_rfl) (fun _ _ _ h => h) (Or.inl ⟨by rfl, ?_⟩) ?_ ?_
          rotate_left
          · intro w'
            go_simp
            with_reducible rfl
          rotate_left
          · simp only [Act.put, List.setIfInBounds_toArray, List.set_cons_zero, List.set_cons_succ, i64_w, i32_w]
            rfl
          refine pure_ (i := 16) (N := some 86) (v := ?_) (a' := ?_) #[true, true, true, true, true, true, true, true, true, true, true, true, true, true, true, true, true, false, false, false, false, false, false, false, false, false, false, false, false, false, false] rfl rfl (by kernel_rfl) (fun _ _ _ h => h) (Or.inl ⟨by rfl, ?_⟩) ?_ ?_
          rotate_left
          · intro w'
            go_simp
            with_reducible rfl
          rotate_left
          · simp only [Act.put, List.setIfInBounds_toArray, List.set_cons_zero, List.set_cons_succ, i64_w, i32_w]
            rfl
          refine pure_ (i := 17) (N := some 87) (v := ?_) (a' := ?_) #[true, true, true, true, true, true, true, true, true, true, true, true, true, true, true, true, true, true, false, false, false, false, false, false, false, false, false, false, false, false, false] rfl rfl (by kernel_rfl) (fun _ _ _ h => h) (Or.inl ⟨by rfl, ?_⟩) ?_ ?_
          rotate_left
          · intro w'
            go_simp
            with_reducible rfl
          rotate_left
          · simp only [Act.put, List.setIfInBounds_toArray, List.set_cons_zero, List.set_cons_succ, i64_w, i32_w]
            rfl
          refine pure_ (i := 18) (N := some 88) (v := ?_) (a' := ?_) #[true, true, true, true, true, true, true, true, true, true, true, true, true, true, true, true, true, true, true, false, false, false, false, false, false, false, false, false, false, false, false] rfl rfl (by kernel_rfl) (fun _ _ _ h => h) (Or.inl ⟨by rfl, ?_⟩) ?_ ?_
          rotate_left
          · intro w'
            go_simp
            with_reducible rfl
          rotate_left
          · simp only [Act.put, List.setIfInBounds_toArray, List.set_cons_zero, List.set_cons_succ, i64_w, i32_w]
            rfl
          refine pure_ (i := 21) (N := some 91) (v := ?_) (a' := ?_) #[true, true, true, true, true, true, true, true, true, true, true, true, true, true, true, true, true, true, true, false, false, true, false, false, false, false, false, false, false, false, false] rfl rfl (by kernel_rfl) (fun _ _ _ h => h) (Or.inl ⟨by rfl, ?_⟩) ?_ ?_
          rotate_left
          · intro w'
            go_simp
            with_reducible rfl
          rotate_left
          · simp only [Act.put, List.setIfInBounds_toArray, List.set_cons_zero, List.set_cons_succ, i64_w, i32_w]
            rfl
          refine pure_ (i := 22) (N := some 92) (v := ?_) (a' := ?_) #[true, true, true, true, true, true, true, true, true, true, true, true, true, true, true, true, true, true, true, false, false, true, true, false, false, false, false, false, false, false, false] rfl rfl (by kernel_rfl) (fun _ _ _ h => h) (Or.inl ⟨by rfl, ?_⟩) ?_ ?_
          rotate_left
          · intro w'
            go_simp
            with_reducible rfl
          rotate_left
          · simp only [Act.put, List.setIfInBounds_toArray, List.set_cons_zero, List.set_cons_succ, i64_w, i32_w]
            rfl
          refine pure_ (i := 23) (N := some 93) (v := ?_) (a' := ?_) #[true, true, true, true, true, true, true, true, true, true, true, true, true, true, true, true, true, true, true, false, false, true, true, true, false, false, false, false, false, false, false] rfl rfl (by kernel_rfl) (fun _ _ _ h => h) (Or.inl ⟨by rfl, ?_⟩) ?_ ?_
          rotate_left
          · intro w'
            go_simp
            with_reducible rfl
          rotate_left
          · simp only [Act.put, List.setIfInBounds_toArray, List.set_cons_zero, List.set_cons_succ, i64_w, i32_w]
            rfl
          refine pure_ (i := 25) (N := some 95) (v := ?_) (a' := ?_) #[true, true, true, true, true, true, true, true, true, true, true, true, true, true, true, true, true, true, true, false, false, true, true, true, false, true, false, false, false, false, false] rfl rfl (by kernel_rfl) (fun _ _ _ h => h) (Or.inl ⟨by rfl, ?_⟩) ?_ ?_
          rotate_left
          · intro w'
            go_simp
            with_reducible rfl
          rotate_left
          · simp only [Act.put, List.setIfInBounds_toArray, List.set_cons_zero, List.set_cons_succ, i64_w, i32_w]
            rfl
          refine take_ (i := 19) (N := some 89) (v := ?_) (a' := ?_) #[true, true, true, true, true, true, true, true, true, true, true, true, true, true, true, true, true, true, true, true, false, true, true, true, false, true, false, false, false, false, false] rfl rfl (by kernel_rfl) (fun _ _ _ h => h) (Or.inl ⟨by rfl, ?_⟩) hHeld ?_ ?_
          rotate_left
          · rintro w' ⟨s0, s1, s2, s3, s4, s5, s6, s7, s8, s9, s10⟩
            go_simp
            with_reducible rfl
          rotate_left
          · simp only [Act.put, List.setIfInBounds_toArray, List.set_cons_zero, List.set_cons_succ, i64_w, i32_w]
            rfl
          refine take_ (i := 24) (N := some 94) (v := ?_) (a' := ?_) #[true, true, true, true, true, true, true, true, true, true, true, true, true, true, true, true, true, true, true, true, false, true, true, true, true, true, false, false, false, false, false] rfl rfl (by kernel_rfl) (fun _ _ _ h => h) (Or.inl ⟨by rfl, ?_⟩) hHeld ?_ ?_
          rotate_left
          · rintro w' ⟨s0, s1, s2, s3, s4, s5, s6, s7, s8, s9, s10⟩
            go_simp
            with_reducible rfl
          rotate_left
          · simp only [Act.put, List.setIfInBounds_toArray, List.set_cons_zero, List.set_cons_succ, i64_w, i32_w]
            rfl
          refine pure_ (i := 26) (N := some 96) (v := ?_) (a' := ?_) #[true, true, true, true, true, true, true, true, true, true, true, true, true, true, true, true, true, true, true, true, false, true, true, true, true, true, true, false, false, false, false] rfl rfl (by kernel_rfl) (fun _ _ _ h => h) (Or.inl ⟨by rfl, ?_⟩) ?_ ?_
          rotate_left
          · intro w'
            go_simp
            with_reducible rfl
          rotate_left
          · simp only [Act.put, List.setIfInBounds_toArray, List.set_cons_zero, List.set_cons_succ, i64_w, i32_w]
            rfl
          refine take_ (i := 27) (N := some 97) (v := ?_) (a' := ?_) #[true, true, true, true, true, true, true, true, true, true, true, true, true, true, true, true, true, true, true, true, false, true, true, true, true, true, true, true, false, false, false] rfl rfl (by kernel_rfl) (fun _ _ _ h => h) (Or.inl ⟨by rfl, ?_⟩) hHeld ?_ ?_
          rotate_left
          · rintro w' ⟨s0, s1, s2, s3, s4, s5, s6, s7, s8, s9, s10⟩
            go_simp
            with_reducible rfl
          rotate_left
          · simp only [Act.put, List.setIfInBounds_toArray, List.set_cons_zero, List.set_cons_succ, i64_w, i32_w]
            rfl
          refine one_ (i := 20) (N := some 90) #[true, true, true, true, true, true, true, true, true, true, true, true, true, true, true, true, true, true, true, true, true, true, true, true, true, true, true, true, false, false, false] rfl rfl (by kernel_rfl) (by decide) (fun K hK => ?_)
          refine goes_ Try.func19 (by kernel_rfl) rfl #[.agg #[.string d.out, .int .i64 d.time, .slice A6 nd c6]] (by rfl) rfl rfl (by first | (simp only [List.map_toArray, List.map_cons, List.map_nil]; done) | (simp only [List.map_toArray, List.map_cons, List.map_nil]; rfl) | rfl) ?_
          with_reducible refine (found_any _ d _ (HF7.out.below hHeld.1)).mono ?_
          rintro e wg ⟨vg, rfl, dg, bg⟩
          refine ⟨_, rfl, ?_⟩
          have hbg := hHeld.1.trans (bg.mono hHeld.1.size)
          have HDG := Lib.hid dg
          clear dg
          clear bg
          refine hK.out _ _ ⟨hbg, pw_cell_below (hbg) V0.out, pw_cell_below (hbg) V1.out, pw_cell_below (hbg) V2.out, pw_cell_below (hbg) U0.out, pw_cell_below (hbg) U1.out, pw_cell_below (hbg) U2.out, pw_cell_below (hbg) T0.out, pw_cell_below (hbg) T1.out, pw_cell_below (hbg) T2.out, pw_cell_below (hbg) G7.out⟩ (fun hHeld => ?_)
          clear hK K
          refine norm_ (a' := ?_) ?_ ?_
          rotate_left
          · show Act.put _ (some 90) _ = _
            simp only [Act.put, List.setIfInBounds_toArray, List.set_cons_zero, List.set_cons_succ, i64_w, i32_w]
            rfl
          refine one_ (i := 28) (N := some 98) #[true, true, true, true, true, true, true, true, true, true, true, true, true, true, true, true, true, true, true, true, true, true, true, true, true, true, true, true, true, false, false] rfl rfl (by kernel_rfl) (by decide) (fun K hK => ?_)
          refine goes_ Try.func18 (by kernel_rfl) rfl #[vg, .agg #[.string d.out, .int .i64 d.time, .slice Ae nd ce]] (by rfl) rfl rfl (by first | (simp only [List.map_toArray, List.map_cons, List.map_nil]; done) | (simp only [List.map_toArray, List.map_cons, List.map_nil]; rfl) | rfl) ?_
          with_reducible refine (same_true _ _ d _ HDG.out (HE7.out.below hHeld.1)).mono ?_
          rintro e wt ⟨rfl, bt⟩
          refine ⟨_, rfl, ?_⟩
          have hbt := hHeld.1.trans (bt.mono hHeld.1.size)
          clear bt
          refine hK.out _ _ ⟨hbt, pw_cell_below (hbt) V0.out, pw_cell_below (hbt) V1.out, pw_cell_below (hbt) V2.out, pw_cell_below (hbt) U0.out, pw_cell_below (hbt) U1.out, pw_cell_below (hbt) U2.out, pw_cell_below (hbt) T0.out, pw_cell_below (hbt) T1.out, pw_cell_below (hbt) T2.out, pw_cell_below (hbt) G7.out⟩ (fun hHeld => ?_)
          clear hK K
          refine norm_ (a' := ?_) ?_ ?_
          rotate_left
          · show Act.put _ (some 98) _ = _
            simp only [Act.put, List.setIfInBounds_toArray, List.set_cons_zero, List.set_cons_succ, i64_w, i32_w]
            rfl
          refine pure_ (i := 29) (N := some 99) (v := ?_) (a' := ?_) #[true, true, true, true, true, true, true, true, true, true, true, true, true, true, true, true, true, true, true, true, true, true, true, true, true, true, true, true, true, true, false] rfl rfl (by kernel_rfl) (fun _ _ _ h => h) (Or.inl ⟨by rfl, ?_⟩) ?_ ?_
          rotate_left
          · intro w'
            go_simp
            with_reducible rfl
          rotate_left
          · simp only [Act.put, List.setIfInBounds_toArray, List.set_cons_zero, List.set_cons_succ, i64_w, i32_w]
            rfl
          refine pure_ (i := 30) (N := some 100) (v := ?_) (a' := ?_) #[true, true, true, true, true, true, true, true, true, true, true, true, true, true, true, true, true, true, true, true, true, true, true, true, true, true, true, true, true, true, true] rfl rfl (by kernel_rfl) (fun _ _ _ h => h) (Or.inl ⟨by rfl, ?_⟩) ?_ ?_
          rotate_left
          · intro w'
            go_simp
            with_reducible rfl
          rotate_left
          · simp only [Act.put, List.setIfInBounds_toArray, List.set_cons_zero, List.set_cons_succ, i64_w, i32_w]
            rfl
          refine done_ (by kernel_rfl) ?_
          --S5
          have HB8 : Hid (Below w3.heap.size w3 wt) := HWK7.out.trans (hHeld.1.mono HWK7.out.size)
          clear hHeld HDF HDG
          go_wp2
          go_roundw
          case rel => exact ⟨k + 1, by omega, by go_num, HB8.out⟩
          case measure => simp [intOf]; omega
        · --S6
          have HBE : Hid (Below w.heap.size w wr) := HB3.out.trans (HB.out.mono HB3.out.size)
          have g1 := pw_cell_below HB.out G1.out
          go_wp2
          go_ret
          exact ⟨rfl, HBE.out⟩
--END WALK
end Go.Proofs.Ytinonkakpgiblaa.Nam
