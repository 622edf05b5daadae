/- The law NamesLive (walk). -/
import Derived.Test.YtinonkakpgiblaaNamLivePure
import Derived.Test.YtinonkakpgiblaaNamOpen
import Derived.Test.YtinonkakpgiblaaNamLooks
namespace Go.Proofs.Ytinonkakpgiblaa.Nam
open Go.RowKit Go.Proofs.YtinonkakpgiblaaW.PrintWords Go.Proofs.YtinonkakpgiblaaW.PrintLast Go.Proofs.Ytinonkakpgiblaa.Base Go.Proofs.Ytinonkakpgiblaa.Pack Go.Maps
set_option linter.unusedVariables false
set_option linter.unusedSimpArgs false

theorem AllOf.unique {b : BookV} : ∀ {l m : List DepV}, AllOf b l → AllOf b m → l = m := by
  have key : ∀ (l m : List DepV), DSorted l → DSorted m → (l.map (·.out)).Nodup → (m.map (·.out)).Nodup → (∀ d, d ∈ l ↔ d ∈ m) → l = m := by
    intro l
    induction l with
    | nil =>
      intro m _ _ _ _ h
      cases m with
      | nil => rfl
      | cons a m => exact absurd ((h a).2 (by simp)) (by simp)
    | cons a l ih =>
      intro m hl hm nl nm h
      cases m with
      | nil => exact absurd ((h a).1 (by simp)) (by simp)
      | cons b m =>
        obtain ⟨l1, l2⟩ := List.pairwise_cons.1 hl
        obtain ⟨m1, m2⟩ := List.pairwise_cons.1 hm
        rw [List.map_cons, List.nodup_cons] at nl nm
        have hab : a = b := by
          rcases List.mem_cons.1 ((h a).1 (by simp)) with e | h1
          · exact e
          · rcases List.mem_cons.1 ((h b).2 (by simp)) with e | h2
            · exact e.symm
            · have e := dlt_total _ _ (m1 a h1) (l1 b h2)
              exact absurd (List.mem_map_of_mem h2) (e ▸ nl.1)
        subst hab
        rw [ih m l2 m2 nl.2 nm.2 (fun d => by
          constructor
          · intro hd
            rcases List.mem_cons.1 ((h d).1 (List.mem_cons_of_mem _ hd)) with rfl | h1
            · exact absurd (List.mem_map_of_mem hd) nl.1
            · exact h1
          · intro hd
            rcases List.mem_cons.1 ((h d).2 (List.mem_cons_of_mem _ hd)) with rfl | h1
            · exact absurd (List.mem_map_of_mem hd) nm.1
            · exact h1)]
  intro l m hl hm
  exact key l m hl.sorted hm.sorted hl.nodup hm.nodup (fun d => (hl.mem d).trans (hm.mem d).symm)
theorem needD_len (a : List ByteArray) (d : DepV) : (needD a d).length ≤ a.length + d.deps.length + 1 := by
  have := foldN_len (d.out :: d.deps) a
  rw [List.length_cons] at this
  unfold needD
  rw [withV_eq]
  omega
theorem needA_len (L : List DepV) : (∀ d ∈ L, d.deps.length ≤ 50) → (needA L).length ≤ 51 * L.length := by
  refine snoc_ind (P := fun L => (∀ d ∈ L, d.deps.length ≤ 50) → (needA L).length ≤ 51 * L.length) (fun _ => Nat.le_refl _) ?_ L
  intro l x ih h
  rw [needA_snoc, List.length_append, List.length_singleton]
  have h1 := needD_len (needA l) x
  have h2 := ih (fun d hd => h d (List.mem_append_left _ hd))
  have h3 := h x (by simp)
  omega
theorem foldV_take {l : List ByteArray} (a : List ByteArray) {k : Nat} (h : k < l.length) : (l.take (k + 1)).foldl withV a = withV ((l.take k).foldl withV a) (l.getD k ByteArray.empty) := by
  rw [(take_at l ByteArray.empty k h).1, List.foldl_append]
  rfl
--BEGIN WALK
set_option maxRecDepth 100000 in
set_option maxHeartbeats 8000000 in
theorem NamesLive_any (v0 v1 : Value) (l : List DepV) (live : List ByteArray) (w : World) (h : Dz w v0 l) (hf : ∀ r ∈ l, FitD r) (h1 : Ss w v1 live) :
    Calls Try.prog 8 #[v0, v1] w fun e w' => e = .returned (.bool true) ∧ Below w.heap.size w w' := by
  obtain ⟨Al, cl, rfl, hcl, hml⟩ := ss_len h1
  obtain ⟨nl, hnl⟩ : ∃ nl, nl = live.length := ⟨_, rfl⟩
  rw [← hnl] at hcl hml h1 ⊢
  obtain ⟨A0, c0, rfl, hc0, hm0⟩ := h.len
  obtain ⟨n0, hn0⟩ : ∃ n0, n0 = l.length := ⟨_, rfl⟩
  rw [← hn0] at hc0 hm0 h ⊢
  have HL := Lib.hid h
  have HN0 := Lib.hid hn0
  have HF := Lib.hid hf
  have HS := Lib.hid h1
  have HNL := Lib.hid hnl
  clear h hf h1 hnl hn0
  go_enter Try.func8, Try.ntmps8
  go_wp2_with fail
  refine (all_any _ l _ HL.out HF.out).mono ?_
  rintro e w1 ⟨he, hb1⟩
  have HB1 := Lib.hid hb1
  have HL1 := Lib.hid (HL.out.below hb1)
  have HS1 := Lib.hid (HS.out.below hb1)
  clear hb1
  rcases he with ⟨rfl, hl30, hbr⟩ | rfl
  case inr =>
    go_wp2
    go_ret
    exact ⟨rfl, HB1.out⟩
  have HBR := Lib.hid hbr
  have HL30 := Lib.hid hl30
  clear hbr hl30
  by_cases hlv : nl ≤ 30
  case neg =>
    have hgt : 30 < nl := by omega
    clear hlv
    go_wp2
    go_ret
    exact ⟨rfl, HB1.out⟩
  go_wp2_with fail
  --S1
  refine (told_any _ l _ HL1.out HF.out HBR.out HL30.out).mono ?_
  rintro e w2 ⟨g, S, rfl, hk, _, hb2⟩
  have HB2 := Lib.hid (HB1.out.trans (hb2.mono HB1.out.size))
  have HS2 := Lib.hid (HS1.out.below hb2)
  have HK2 := Lib.hid hk
  clear hk hb2
  have HPB : Hid (∀ n f, (tellA l).os n = some f → BriefD (depV (tellA l) n f) ∧ FitD (depV (tellA l) n f) ∧ planE (depV (tellA l) n f) = 0) := fun n f hnf => by
    obtain ⟨q1, q2, _⟩ := look_tellA l _ _ (look_depV (tellA_good l) hnf)
    exact ⟨HBR.out _ q1, HF.out _ q1, q2⟩
  have hc60 : 60 * l.length ≤ 1800 := by have := HL30.out; omega
  have HC60 := Lib.hid hc60
  clear hc60
  go_wp2_with fail
  --S2
  refine (records_any S _ g _ _ live _ HK2.out HS2.out (by have := HC60.out; omega) HPB.out).mono ?_
  rintro e w3 ⟨v3, rs, x, rfl, hax, hxl, htk, hrb, hrl, hrs, hb3⟩
  have HB3 := Lib.hid (HB2.out.trans (hb3.mono HB2.out.size))
  have HS3 := Lib.hid (HS2.out.below hb3)
  have HK3 := Lib.hid (HK2.out.below hb3)
  have HAX := Lib.hid hax
  have HXL : Hid (x.length ≤ 1800) := Nat.le_trans hxl HC60.out
  have HTK := Lib.hid htk
  have HRB := Lib.hid hrb
  have HRS := Lib.hid hrs
  have hrl2 : rs.length ≤ 93600 := by have := HC60.out; omega
  have HRL := Lib.hid hrl2
  clear hb3 hax hxl htk hrb hrl hrs hrl2
  obtain ⟨A3, c3, ev3⟩ : ∃ A c, v3 = .slice A rs.length c := by
    obtain ⟨A, c, e, _⟩ := HRS.out
    exact ⟨A, c, e⟩
  obtain ⟨n3, hn3⟩ : ∃ n3, n3 = rs.length := ⟨_, rfl⟩
  rw [← hn3] at ev3
  subst ev3
  clear hn3
  go_wp2_with fail
  --S3
  refine (load_any _ rs _ HRS.out (fun r hr => ⟨(HRB.out r hr).1, by have := (HRB.out r hr).2; omega⟩) (by have := HRL.out; omega)).mono ?_
  rintro e w4 ⟨hl4, hb4⟩
  rw [HTK.out] at hl4
  obtain ⟨gc, Sc, rfl, hk4, _⟩ := hl4
  have HB4 := Lib.hid (HB3.out.trans (hb4.mono HB3.out.size))
  have HS4 := Lib.hid (HS3.out.below hb4)
  have HK4 := Lib.hid (HK3.out.below hb4)
  have HC4 : Hid (Bk Sc 93600 w4 gc (tellA (liveL live x))) := hk4.more HRL.out
  clear hk4 hb4
  go_wp2_with fail
  --S4
  refine (ball_any S _ g _ _ HK4.out (by have := HC60.out; omega) (fun n f hnf => by have := (HPB.out n f hnf).1.few; unfold depV at this; simp only [List.length_map] at this; omega)).mono ?_
  rintro e w5 ⟨v5, x', rfl, hax', _, hr5, hb5⟩
  obtain rfl : x' = x := AllOf.unique hax' HAX.out
  obtain ⟨A5, c5, ev5⟩ := hr5.slice
  subst ev5
  obtain ⟨nx, hnx⟩ : ∃ nx, nx = x'.length := ⟨_, rfl⟩
  have hdz := dr_dz hr5
  rw [← hnx] at hdz ⊢
  have HDZ := Lib.hid hdz
  have HNX := Lib.hid hnx
  have HB5 := Lib.hid (HB4.out.trans (hb5.mono HB4.out.size))
  have HS5 := Lib.hid (HS4.out.below hb5)
  have HC5 := Lib.hid (HC4.out.below hb5)
  have hnx1 : nx ≤ 1800 := by rw [hnx]; exact HXL.out
  clear hax' hr5 hb5 hdz hnx
  have HP : Hid (∀ d ∈ x', planE d = 0) := fun d hd => (AllOf.told HAX.out d hd).2
  have HM : Hid (∀ d ∈ x', BriefD d ∧ FitD d) := fun d hd => ⟨HBR.out d (AllOf.told HAX.out d hd).1, HF.out d (AllOf.told HAX.out d hd).1⟩
  go_wp2
  --S5
  go_loopw [9, 11, 12] (fun a u i wr => ∃ (k : Nat) (v : Value), k ≤ nx ∧ i = .int .i64 k ∧ u = v ∧ a = .int .i64 ((liveL live (x'.take k)).length : Int) ∧ Hid (Kd.string.R 9 wr w5.heap.size (fun _ => True) v (needA (liveL live (x'.take k)))) ∧ Hid (Below w5.heap.size w5 wr)) (fun _ _ i _ => nx - (intOf i).toNat)
  case atStart => exact ⟨0, _, by omega, rfl, rfl, rfl, Kd.R_nil _ _ _ _ _, Below.refl _ _⟩
  case round =>
    obtain ⟨k, v, hk, rfl, rfl, rfl, HV, HB⟩ := hrel
    obtain ⟨Av, cv, ev⟩ := Kd.R_slice HV.out
    obtain ⟨nv, hnv⟩ : ∃ nv, nv = (needA (liveL live (x'.take k))).length := ⟨_, rfl⟩
    rw [← hnv] at ev
    subst ev
    have HNV := Lib.hid hnv
    clear hnv
    have hcnt : (liveL live (x'.take k)).length ≤ k := by
      have h1 : (liveL live (x'.take k)).length ≤ (x'.take k).length := List.length_filter_le _ _
      have h2 := List.length_take_le k x'
      omega
    obtain ⟨ct, hct⟩ : ∃ ct, ct = (liveL live (x'.take k)).length := ⟨_, rfl⟩
    rw [← hct] at hcnt ⊢
    have HCT := Lib.hid hct
    clear hct
    by_cases l1 : k < nx
    · have hkl : k < x'.length := by rw [← HNX.out]; exact l1
      obtain ⟨ad, vd, e1, q0, q1, q2, hs⟩ := HDZ.out.get k hkl
      subst e1
      obtain ⟨hTKx, hmem⟩ := take_at x' zdep k hkl
      have HTX := Lib.hid hTKx
      have HMM := Lib.hid hmem
      have HSD := Lib.hid hs
      clear hTKx hmem hs hkl
      generalize x'.getD k zdep = d at q0 q1 q2 HTX HMM HSD
      obtain ⟨Ad, cd, ev, _, _⟩ := ss_len HSD.out
      subst ev
      obtain ⟨nd, hnd⟩ : ∃ nd, nd = d.deps.length := ⟨_, rfl⟩
      rw [← hnd] at HSD q2
      have HND := Lib.hid hnd
      clear hnd
      obtain ⟨wk, hwk⟩ : ∃ wk, wk = wr := ⟨_, rfl⟩
      subst hwk
      have R0 := Lib.hid q0
      have R1 := Lib.hid q1
      have R2 := Lib.hid q2
      have Q0 := Lib.hid (pw_cell_below HB.out q0)
      have Q1 := Lib.hid (pw_cell_below HB.out q1)
      have Q2 := Lib.hid (pw_cell_below HB.out q2)
      have HSD5 := HSD
      have HSD := Lib.hid (HSD5.out.below HB.out)
      clear q0 q1 q2
      have HSk := Lib.hid (HS5.out.below HB.out)
      go_wp2
      --S6
      go_loopw [13, 14] (fun bi i wr => ∃ j : Nat, j ≤ nl ∧ i = .int .i64 j ∧ bi = .bool (decide (d.out ∈ live.take j)) ∧ Hid (Below wk.heap.size wk wr)) (fun _ i _ => nl - (intOf i).toNat)
      case atStart => exact ⟨0, by omega, rfl, by simp, Below.refl _ _⟩
      case round =>
        obtain ⟨j, hj, rfl, rfl, HW⟩ := hrel
        by_cases l2 : j < nl
        · have hjl : j < live.length := by rw [← HNL.out]; exact l2
          obtain ⟨Ax, cx, ex, _, _, hcel⟩ := HSk.out.below HW.out
          injection ex with ex1 ex2 ex3
          subst ex1
          obtain ⟨al, ead, hcell⟩ := hcel (by omega)
          subst ead
          have r0 := hcell j hjl
          have htj := (take_at live ByteArray.empty j hjl).1
          have HTJ := Lib.hid htj
          clear hcel hcell ex2 ex3 hjl htj
          generalize live.getD j ByteArray.empty = sj at r0 HTJ
          have r1 := pw_cell_below HW.out Q0.out
          obtain ⟨bb, hbb⟩ : ∃ bb, decide (d.out ∈ live.take j) = bb := ⟨_, rfl⟩
          rw [hbb]
          have HBB := Lib.hid hbb
          clear hbb
          cases bb
          case true =>
            have HE : Hid (decide (d.out ∈ live.take (j + 1)) = true) := by show _ = _; rw [HTJ.out]; exact decide_eq_true (List.mem_append_left _ (of_decide_eq_true HBB.out))
            go_wp2
            go_quiet (fail)
            have HN5 : Hid (Below wk.heap.size wk (wr.drewN nq)) := pw_below_drewN HW.out _
            go_wp2
            go_roundw
            case rel => exact ⟨j + 1, by omega, by go_num, by rw [HE.out], HN5.out⟩
            case measure => simp [intOf]; omega
          case false =>
            by_cases hs : sj = d.out
            · have hb : (sj.toList == d.out.toList) = true := by rw [str_eqb]; exact decide_eq_true hs
              have HE : Hid (decide (d.out ∈ live.take (j + 1)) = true) := by show _ = _; rw [HTJ.out]; exact decide_eq_true (List.mem_append_right _ (by simp [hs]))
              clear hs
              go_wp2
              go_quiet (fail)
              have HN5 : Hid (Below wk.heap.size wk (wr.drewN nq)) := pw_below_drewN HW.out _
              go_wp2
              go_roundw
              case rel => exact ⟨j + 1, by omega, by go_num, by rw [HE.out], HN5.out⟩
              case measure => simp [intOf]; omega
            · have hb : (sj.toList == d.out.toList) = false := by rw [str_eqb]; exact decide_eq_false hs
              have HE : Hid (decide (d.out ∈ live.take (j + 1)) = false) := by
                show _ = _
                rw [HTJ.out]
                refine decide_eq_false (fun hm => ?_)
                rcases List.mem_append.1 hm with h | h
                · exact of_decide_eq_false HBB.out h
                · exact hs (List.mem_singleton.1 h).symm
              clear hs
              go_wp2
              go_quiet (fail)
              have HN5 : Hid (Below wk.heap.size wk (wr.drewN nq)) := pw_below_drewN HW.out _
              go_wp2
              go_roundw
              case rel => exact ⟨j + 1, by omega, by go_num, by rw [HE.out], HN5.out⟩
              case measure => simp [intOf]; omega
        · have hj2 : j = nl := by omega
          have htk : live.take j = live := by rw [hj2, HNL.out, List.take_length]
          rw [htk]
          clear htk hj2
          --S7
          have r0 := pw_cell_below HW.out Q0.out
          have HBk := Lib.hid (HB.out.trans (HW.out.mono HB.out.size))
          have HCk := Lib.hid (HC5.out.below HBk.out)
          obtain ⟨bb, hbb⟩ : ∃ bb, decide (d.out ∈ live) = bb := ⟨_, rfl⟩
          rw [hbb]
          have HBB := Lib.hid hbb
          clear hbb
          have hll := look_live (live := live) HAX.out.nodup HP.out HMM.out
          have HLL := Lib.hid hll
          clear hll
          go_wp2_with fail
          refine (look_any Sc _ gc _ d.out _ HCk.out (by have := (HM.out d HMM.out).1.out; simp only [maxLen]; omega) (by omega) (tellA_few _ (fun y hy => by have := (HM.out y (List.mem_filter.1 hy).1).1.few; omega))).mono ?_
          rintro e w6 ⟨v6, rfl, hd6, hb6⟩
          have HB6 := Lib.hid (HBk.out.trans (hb6.mono HBk.out.size))
          have HWK6 := Lib.hid (HW.out.trans (hb6.mono HW.out.size))
          clear r0 hb6
          cases bb
          case false =>
            rw [HLL.out, if_neg (of_decide_eq_false HBB.out)] at hd6 ⊢
            simp only [Option.getD_none, Option.isSome_none] at hd6 ⊢
            obtain ⟨vd6, rfl, hr6⟩ := hd6
            obtain ⟨A6, c6, ev6⟩ := Kd.R_slice hr6
            have ev6 : vd6 = .slice A6 0 c6 := ev6
            subst ev6
            clear hr6
            have HL2 : Hid (liveL live (x'.take (k + 1)) = liveL live (x'.take k)) := by show _ = _; rw [HTX.out, liveL_snoc, if_neg (of_decide_eq_false HBB.out)]
            have HV6 := Lib.hid (Kd.R_below HV.out HWK6.out)
            have HS6 := Lib.hid HB6.out.size
            have hzz : (Value.agg #[.string zdep.out, .int .i64 zdep.time, .slice A6 0 c6]) = .agg #[.string ⟨#[]⟩, .int .i64 0, .slice A6 0 c6] := rfl
            rw [hzz]
            clear hzz
            have HVA := Lib.hid (Kd.R_alloc HV6.out (.cells #[.string ⟨#[]⟩, .int .i64 0, .slice A6 0 c6] 36))
            have HBA := Lib.hid (HB6.out.alloc HB6.out.size (.cells #[.string ⟨#[]⟩, .int .i64 0, .slice A6 0 c6] 36))
            go_wp2
            go_quiet (fail)
            have HBN := Lib.hid (pw_below_drewN HBA.out nq)
            have HVN := Lib.hid (Kd.R_drewN HVA.out nq)
            go_wp2
            go_roundw
            case rel => exact ⟨k + 1, _, by omega, by go_num, rfl, by rw [HL2.out, ← HCT.out], by rw [HL2.out]; exact HVN.out, HBN.out⟩
            case measure => simp [intOf]; omega
          case true =>
            rw [HLL.out, if_pos (of_decide_eq_true HBB.out)] at hd6 ⊢
            simp only [Option.getD_some, Option.isSome_some] at hd6 ⊢
            obtain ⟨vd6, rfl, hr6⟩ := hd6
            obtain ⟨A6, c6, ev6⟩ := Kd.R_slice hr6
            rw [← HND.out] at ev6
            subst ev6
            obtain ⟨x5, hx5⟩ : ∃ x5, w6.heap.size = x5 := ⟨_, rfl⟩
            obtain ⟨w7, hw7⟩ : ∃ w7, w7 = w6.alloc (.cells #[.string d.out, .int .i64 d.time, .slice A6 nd c6] 36) := ⟨_, rfl⟩
            have hb7 : Below w6.heap.size w6 w7 := by rw [hw7]; exact below_alloc (Below.refl _ _) _
            have X7 : Hid (w7.heap[x5]? = some (.cells #[.string d.out, .int .i64 d.time, .slice A6 nd c6] 36 (0, 0))) := by show _ = _; rw [hw7, ← hx5]; exact blk_new w6 _
            have HD7 : Hid (DepIs w7 (.agg #[.string d.out, .int .i64 d.time, .slice A6 nd c6]) d) := ⟨_, rfl, (r_ss hr6).below hb7⟩
            have HWK7 := Lib.hid (HWK6.out.trans (hb7.mono HWK6.out.size))
            have HE7 : Hid (DepIs w7 (.agg #[.string d.out, .int .i64 d.time, .slice Ad nd cd]) d) := ⟨_, rfl, HSD.out.below HWK7.out⟩
            have U0 := Lib.hid (pw_cell_below HWK7.out Q0.out)
            have U1 := Lib.hid (pw_cell_below HWK7.out Q1.out)
            have U2 := Lib.hid (pw_cell_below HWK7.out Q2.out)
            have V0 := Lib.hid (show w7.cell? ⟨x5, 0, none⟩ = some (.string d.out) from blk_cell X7.out 0)
            have V1 := Lib.hid (show w7.cell? ⟨x5, 1, none⟩ = some (.int .i64 d.time) from blk_cell X7.out 1)
            have V2 := Lib.hid (show w7.cell? ⟨x5, 2, none⟩ = some (.slice A6 nd c6) from blk_cell X7.out 2)
            have HW7 := Lib.hid hw7
            clear hr6 hb7 hw7 HLL
            go_upto_region 21 with (fail)
            rw [← HW7.out]
            try rw [hx5]
            clear hx5
            --S8
            refine start_ (n := 17) (S := fun w' => Below w7.heap.size w7 w' ∧ w'.cell? ⟨x5, 0, none⟩ = some (.string d.out) ∧ w'.cell? ⟨x5, 1, none⟩ = some (.int .i64 d.time) ∧ w'.cell? ⟨x5, 2, none⟩ = some (.slice A6 nd c6) ∧ w'.cell? (ad.add (k * 3)) = some (.string d.out) ∧ w'.cell? ⟨(ad.add (k * 3)).block, (ad.add (k * 3)).off + 1, none⟩ = some (.int .i64 d.time) ∧ w'.cell? ⟨(ad.add (k * 3)).block, (ad.add (k * 3)).off + 2, none⟩ = some (.slice Ad nd cd)) (ds := []) #[false, false, false, false, false, false, false, false, false, false, false, false, false, false, false, false, false] (by kernel_rfl) rfl rfl ⟨Below.drew (Below.refl _ _), V0.out, V1.out, V2.out, U0.out, U1.out, U2.out⟩ (fun hHeld => ?_)
            refine pure_ (i := 0) (N := some 83) (v := ?_) (a' := ?_) #[true, false, false, false, false, false, false, false, false, false, false, false, false, false, false, false, false] rfl rfl (by kernel_rfl) (fun _ _ _ h => h) (Or.inl ⟨by rfl, ?_⟩) ?_ ?_
            rotate_left
            · intro w'
              go_simp
              with_reducible rfl
            rotate_left
            · simp only [Act.put, List.setIfInBounds_toArray, List.set_cons_zero, List.set_cons_succ, i64_w, i32_w]
              rfl
            refine pure_ (i := 1) (N := some 84) (v := ?_) (a' := ?_) #[true, true, false, false, false, false, false, false, false, false, false, false, false, false, false, false, false] rfl rfl (by kernel_rfl) (fun _ _ _ h => h) (Or.inl ⟨by rfl, ?_⟩) ?_ ?_
            rotate_left
            · intro w'
              go_simp
              with_reducible rfl
            rotate_left
            · simp only [Act.put, List.setIfInBounds_toArray, List.set_cons_zero, List.set_cons_succ, i64_w, i32_w]
              rfl
            refine pure_ (i := 2) (N := some 85) (v := ?_) (a' := ?_) #[true, true, true, false, false, false, false, false, false, false, false, false, false, false, false, false, false] rfl rfl (by kernel_rfl) (fun _ _ _ h => h) (Or.inl ⟨by rfl, ?_⟩) ?_ ?_
            rotate_left
            · intro w'
              go_simp
              with_reducible rfl
            rotate_left
            · simp only [Act.put, List.setIfInBounds_toArray, List.set_cons_zero, List.set_cons_succ, i64_w, i32_w]
              rfl
            refine pure_ (i := 3) (N := some 86) (v := ?_) (a' := ?_) #[true, true, true, true, false, false, false, false, false, false, false, false, false, false, false, false, false] rfl rfl (by kernel_rfl) (fun _ _ _ h => h) (Or.inl ⟨by rfl, ?_⟩) ?_ ?_
            rotate_left
            · intro w'
              go_simp
              with_reducible rfl
            rotate_left
            · simp only [Act.put, List.setIfInBounds_toArray, List.set_cons_zero, List.set_cons_succ, i64_w, i32_w]
              rfl
            refine pure_ (i := 4) (N := some 87) (v := ?_) (a' := ?_) #[true, true, true, true, true, false, false, false, false, false, false, false, false, false, false, false, false] rfl rfl (by kernel_rfl) (fun _ _ _ h => h) (Or.inl ⟨by rfl, ?_⟩) ?_ ?_
            rotate_left
            · intro w'
              go_simp
              with_reducible rfl
            rotate_left
            · simp only [Act.put, List.setIfInBounds_toArray, List.set_cons_zero, List.set_cons_succ, i64_w, i32_w]
              rfl
            refine pure_ (i := 5) (N := some 88) (v := ?_) (a' := ?_) #[true, true, true, true, true, true, false, false, false, false, false, false, false, false, false, false, false] rfl rfl (by kernel_rfl) (fun _ _ _ h => h) (Or.inl ⟨by rfl, ?_⟩) ?_ ?_
            rotate_left
            · intro w'
              go_simp
              with_reducible rfl
            rotate_left
            · simp only [Act.put, List.setIfInBounds_toArray, List.set_cons_zero, List.set_cons_succ, i64_w, i32_w]
              rfl
            refine pure_ (i := 8) (N := some 91) (v := ?_) (a' := ?_) #[true, true, true, true, true, true, false, false, true, false, false, false, false, false, false, false, false] rfl rfl (by kernel_rfl) (fun _ _ _ h => h) (Or.inl ⟨by rfl, ?_⟩) ?_ ?_
            rotate_left
            · intro w'
              go_simp
              with_reducible rfl
            rotate_left
            · simp only [Act.put, List.setIfInBounds_toArray, List.set_cons_zero, List.set_cons_succ, i64_w, i32_w]
              rfl
            refine pure_ (i := 9) (N := some 92) (v := ?_) (a' := ?_) #[true, true, true, true, true, true, false, false, true, true, false, false, false, false, false, false, false] rfl rfl (by kernel_rfl) (fun _ _ _ h => h) (Or.inl ⟨by rfl, ?_⟩) ?_ ?_
            rotate_left
            · intro w'
              go_simp
              with_reducible rfl
            rotate_left
            · simp only [Act.put, List.setIfInBounds_toArray, List.set_cons_zero, List.set_cons_succ, i64_w, i32_w]
              rfl
            refine pure_ (i := 10) (N := some 93) (v := ?_) (a' := ?_) #[true, true, true, true, true, true, false, false, true, true, true, false, false, false, false, false, false] rfl rfl (by kernel_rfl) (fun _ _ _ h => h) (Or.inl ⟨by rfl, ?_⟩) ?_ ?_
            rotate_left
            · intro w'
              go_simp
              with_reducible rfl
            rotate_left
            · simp only [Act.put, List.setIfInBounds_toArray, List.set_cons_zero, List.set_cons_succ, i64_w, i32_w]
              rfl
            refine take_ (i := 6) (N := some 89) (v := ?_) (a' := ?_) #[true, true, true, true, true, true, true, false, true, true, true, false, false, false, false, false, false] rfl rfl (by kernel_rfl) (fun _ _ _ h => h) (Or.inl ⟨by rfl, ?_⟩) hHeld ?_ ?_
            rotate_left
            · rintro w' ⟨s0, s1, s2, s3, s4, s5, s6⟩
              go_simp
              with_reducible rfl
            rotate_left
            · simp only [Act.put, List.setIfInBounds_toArray, List.set_cons_zero, List.set_cons_succ, i64_w, i32_w]
              rfl
            refine take_ (i := 11) (N := some 94) (v := ?_) (a' := ?_) #[true, true, true, true, true, true, true, false, true, true, true, true, false, false, false, false, false] rfl rfl (by kernel_rfl) (fun _ _ _ h => h) (Or.inl ⟨by rfl, ?_⟩) hHeld ?_ ?_
            rotate_left
            · rintro w' ⟨s0, s1, s2, s3, s4, s5, s6⟩
              go_simp
              with_reducible rfl
            rotate_left
            · simp only [Act.put, List.setIfInBounds_toArray, List.set_cons_zero, List.set_cons_succ, i64_w, i32_w]
              rfl
            refine one_ (i := 7) (N := some 90) #[true, true, true, true, true, true, true, true, true, true, true, true, false, false, false, false, false] rfl rfl (by kernel_rfl) (by decide) (fun K hK => ?_)
            refine goes_ Try.func19 (by kernel_rfl) rfl #[.agg #[.string d.out, .int .i64 d.time, .slice A6 nd c6]] (by rfl) rfl rfl (by first | (simp only [List.map_toArray, List.map_cons, List.map_nil]; done) | (simp only [List.map_toArray, List.map_cons, List.map_nil]; rfl) | rfl) ?_
            with_reducible refine (found_any _ d _ (HD7.out.below hHeld.1)).mono ?_
            rintro e wf ⟨vf, rfl, df, bf⟩
            refine ⟨_, rfl, ?_⟩
            have hbf := hHeld.1.trans (bf.mono hHeld.1.size)
            have HDF := Lib.hid df
            clear df bf
            refine hK.out _ _ ⟨hbf, pw_cell_below (hbf) V0.out, pw_cell_below (hbf) V1.out, pw_cell_below (hbf) V2.out, pw_cell_below (hbf) U0.out, pw_cell_below (hbf) U1.out, pw_cell_below (hbf) U2.out⟩ (fun hHeld => ?_)
            clear hK K
            refine norm_ (a' := ?_) ?_ ?_
            rotate_left
            · show Act.put _ (some 90) _ = _
              simp only [Act.put, List.setIfInBounds_toArray, List.set_cons_zero, List.set_cons_succ, i64_w, i32_w]
              rfl
            refine one_ (i := 12) (N := some 95) #[true, true, true, true, true, true, true, true, true, true, true, true, true, false, false, false, false] rfl rfl (by kernel_rfl) (by decide) (fun K hK => ?_)
            refine goes_ Try.func19 (by kernel_rfl) rfl #[.agg #[.string d.out, .int .i64 d.time, .slice Ad nd cd]] (by rfl) rfl rfl (by first | (simp only [List.map_toArray, List.map_cons, List.map_nil]; done) | (simp only [List.map_toArray, List.map_cons, List.map_nil]; rfl) | rfl) ?_
            with_reducible refine (found_any _ d _ (HE7.out.below hHeld.1)).mono ?_
            rintro e wg ⟨vg, rfl, dg, bg⟩
            refine ⟨_, rfl, ?_⟩
            have hbg := hHeld.1.trans (bg.mono hHeld.1.size)
            have HDG := Lib.hid dg
            have HDF2 := Lib.hid (HDF.out.below bg)
            clear dg bg
            refine hK.out _ _ ⟨hbg, pw_cell_below (hbg) V0.out, pw_cell_below (hbg) V1.out, pw_cell_below (hbg) V2.out, pw_cell_below (hbg) U0.out, pw_cell_below (hbg) U1.out, pw_cell_below (hbg) U2.out⟩ (fun hHeld => ?_)
            clear hK K
            refine norm_ (a' := ?_) ?_ ?_
            rotate_left
            · show Act.put _ (some 95) _ = _
              simp only [Act.put, List.setIfInBounds_toArray, List.set_cons_zero, List.set_cons_succ, i64_w, i32_w]
              rfl
            refine one_ (i := 13) (N := some 96) #[true, true, true, true, true, true, true, true, true, true, true, true, true, true, false, false, false] rfl rfl (by kernel_rfl) (by decide) (fun K hK => ?_)
            refine goes_ Try.func18 (by kernel_rfl) rfl #[vf, vg] (by rfl) rfl rfl (by first | (simp only [List.map_toArray, List.map_cons, List.map_nil]; done) | (simp only [List.map_toArray, List.map_cons, List.map_nil]; rfl) | rfl) ?_
            with_reducible refine (same_true _ _ d _ HDF2.out HDG.out).mono ?_
            rintro e ws ⟨rfl, bs⟩
            refine ⟨_, rfl, ?_⟩
            have hbs := hHeld.1.trans (bs.mono hHeld.1.size)
            clear bs
            refine hK.out _ _ ⟨hbs, pw_cell_below (hbs) V0.out, pw_cell_below (hbs) V1.out, pw_cell_below (hbs) V2.out, pw_cell_below (hbs) U0.out, pw_cell_below (hbs) U1.out, pw_cell_below (hbs) U2.out⟩ (fun hHeld => ?_)
            clear hK K
            refine norm_ (a' := ?_) ?_ ?_
            rotate_left
            · show Act.put _ (some 96) _ = _
              simp only [Act.put, List.setIfInBounds_toArray, List.set_cons_zero, List.set_cons_succ, i64_w, i32_w]
              rfl
            refine pure_ (i := 14) (N := some 97) (v := ?_) (a' := ?_) #[true, true, true, true, true, true, true, true, true, true, true, true, true, true, true, false, false] rfl rfl (by kernel_rfl) (fun _ _ _ h => h) (Or.inl ⟨by rfl, ?_⟩) ?_ ?_
            rotate_left
            · intro w'
              go_simp
              with_reducible rfl
            rotate_left
            · simp only [Act.put, List.setIfInBounds_toArray, List.set_cons_zero, List.set_cons_succ, i64_w, i32_w]
              rfl
            refine pure_ (i := 15) (N := some 98) (v := ?_) (a' := ?_) #[true, true, true, true, true, true, true, true, true, true, true, true, true, true, true, true, false] rfl rfl (by kernel_rfl) (fun _ _ _ h => h) (Or.inl ⟨by rfl, ?_⟩) ?_ ?_
            rotate_left
            · intro w'
              go_simp
              with_reducible rfl
            rotate_left
            · simp only [Act.put, List.setIfInBounds_toArray, List.set_cons_zero, List.set_cons_succ, i64_w, i32_w]
              rfl
            refine pure_ (i := 16) (N := some 99) (v := ?_) (a' := ?_) #[true, true, true, true, true, true, true, true, true, true, true, true, true, true, true, true, true] rfl rfl (by kernel_rfl) (fun _ _ _ h => h) (Or.inl ⟨by rfl, ?_⟩) ?_ ?_
            rotate_left
            · intro w'
              go_simp
              with_reducible rfl
            rotate_left
            · simp only [Act.put, List.setIfInBounds_toArray, List.set_cons_zero, List.set_cons_succ, i64_w, i32_w]
              rfl
            refine done_ (by kernel_rfl) ?_
            --S9
            have HB8 : Hid (Below w5.heap.size w5 ws) := (HB.out.trans (HWK7.out.mono HB.out.size)).trans (hHeld.1.mono (Nat.le_trans HB.out.size HWK7.out.size))
            have HWK8 : Hid (Below wk.heap.size wk ws) := HWK7.out.trans (hHeld.1.mono HWK7.out.size)
            have HV8 := Lib.hid (Kd.R_below HV.out HWK8.out)
            have HNA : Hid ((needA (liveL live (x'.take k))).length ≤ 91800) := by
              have h1 := needA_len (liveL live (x'.take k)) (fun y hy => (HM.out y (List.mem_of_mem_take (List.mem_filter.1 hy).1)).1.few)
              have h2 := HCT.out
              show _ ≤ _
              omega
            have HL2 : Hid (liveL live (x'.take (k + 1)) = liveL live (x'.take k) ++ [d]) := by show _ = _; rw [HTX.out, liveL_snoc, if_pos (of_decide_eq_true HBB.out)]
            have hfew : nd ≤ 50 := by rw [HND.out]; exact (HM.out d HMM.out).1.few
            clear hHeld HDF HDG HDF2 HWK7 HV
            generalize hgn : needA (liveL live (x'.take k)) = na at HV8 HNA
            have HGN := Lib.hid hgn
            clear hgn
            have r0 := pw_cell_below HB8.out R0.out
            go_wp2_with fail
            refine (with_any w5.heap.size (fun _ => True) _ na d.out _ HV8.out (fun _ _ => trivial) HB8.out.size (by have := HNA.out; omega)).mono ?_
            rintro e w9 ⟨v9, rfl, r9, b9, _⟩
            have HV9 := Lib.hid r9
            have HB9 := Lib.hid (HB8.out.trans b9)
            clear r0 r9 b9
            go_wp2
            --S10
            go_loopw [11, 17] (fun u i wr => ∃ (j : Nat) (v : Value), j ≤ nd ∧ i = .int .i64 j ∧ u = v ∧ Hid (Kd.string.R 9 wr w5.heap.size (fun _ => True) v ((d.deps.take j).foldl withV (withV na d.out))) ∧ Hid (Below w5.heap.size w5 wr)) (fun _ i _ => nd - (intOf i).toNat)
            case atStart => exact ⟨0, _, by omega, rfl, rfl, by rw [List.take_zero]; exact HV9.out, HB9.out⟩
            case round =>
              obtain ⟨j, v, hj, rfl, rfl, HVj, HBj⟩ := hrel
              obtain ⟨Aj, cj, ej⟩ := Kd.R_slice HVj.out
              obtain ⟨nj, hnj⟩ : ∃ nj, nj = ((d.deps.take j).foldl withV (withV na d.out)).length := ⟨_, rfl⟩
              rw [← hnj] at ej
              subst ej
              have HNJ := Lib.hid hnj
              clear hnj
              have r0 := pw_cell_below HBj.out R0.out
              have r2 := pw_cell_below HBj.out R2.out
              by_cases l3 : j < nd
              · have hjl : j < d.deps.length := by rw [← HND.out]; exact l3
                obtain ⟨Ax, cx, ex, _, _, hcel⟩ := HSD5.out.below HBj.out
                injection ex with ex1 ex2 ex3
                subst ex1
                obtain ⟨al, ead, hcell⟩ := hcel (by omega)
                subst ead
                have r3 := hcell j hjl
                have HFT := Lib.hid (foldV_take (withV na d.out) hjl)
                clear hcel hcell ex2 ex3 hjl
                generalize d.deps.getD j ByteArray.empty = sj at r3 HFT
                have hlen : ((d.deps.take j).foldl withV (withV na d.out)).length ≤ 1000000 := by
                  have h1 := foldN_len (d.deps.take j) (withV na d.out)
                  have h2 := withN_len na d.out
                  rw [← withV_eq] at h2
                  have h3 := List.length_take_le j d.deps
                  have h4 := HNA.out
                  rw [← withV_eq] at h1
                  omega
                have HLEN := Lib.hid hlen
                clear hlen
                go_wp2_with fail
                refine (with_any w5.heap.size (fun _ => True) _ _ sj _ HVj.out (fun _ _ => trivial) HBj.out.size HLEN.out).mono ?_
                rintro e wa ⟨va, rfl, ra, ba, _⟩
                have HVa : Hid (Kd.string.R 9 wa w5.heap.size (fun _ => True) va ((d.deps.take (j + 1)).foldl withV (withV na d.out))) := by show Kd.R _ _ _ _ _ _ _; rw [HFT.out]; exact ra
                have HBa := Lib.hid (HBj.out.trans ba)
                clear ra ba r0 r2 r3
                go_wp2
                go_roundw
                case rel => exact ⟨j + 1, _, by omega, by go_num, rfl, HVa.out, HBa.out⟩
                case measure => simp [intOf]; omega
              · have hj2 : j = nd := by omega
                have HVE : Hid (Kd.string.R 9 wr w5.heap.size (fun _ => True) (.slice Aj nj cj) (needA (liveL live (x'.take (k + 1))))) := by
                  have h := HVj.out
                  rw [hj2, HND.out, List.take_length] at h
                  show Kd.R _ _ _ _ _ _ _
                  rw [HL2.out, needA_snoc, HGN.out]
                  exact h
                clear hj2
                go_wp2
                go_roundw
                case rel => exact ⟨k + 1, _, by omega, by go_num, rfl, by rw [HL2.out, List.length_append, ← HCT.out]; go_num, HVE.out, HBj.out⟩
                case measure => simp [intOf]; omega
    · --S20
      have hk2 : k = nx := by omega
      have hlx : liveL live (x'.take k) = liveL live x' := by rw [hk2, HNX.out, List.take_length]
      rw [hlx] at HV HNV HCT
      clear hk2 hlx
      have HB6 := Lib.hid (HB5.out.trans (HB.out.mono HB5.out.size))
      have HCk := Lib.hid (HC5.out.below HB.out)
      have HP2 : Hid (∀ d ∈ liveL live x', planE d = 0) := fun d hd => HP.out d (List.mem_filter.1 hd).1
      have HNE : Hid (nv = (tellA (liveL live x')).ns.length) := by show _ = _; rw [HNV.out, tellA_ns _ HP2.out]
      go_wp2_with fail
      refine (ball_any Sc _ gc _ _ HCk.out (by omega) (tellA_few _ (fun y hy => by have := (HM.out y (List.mem_filter.1 hy).1).1.few; omega))).mono ?_
      rintro e w7 ⟨v7, l7, rfl, ha7, _, r7, b7⟩
      have hl7 := all_count (liveL_nodup (live := live) HAX.out.nodup) HP2.out ha7
      obtain ⟨A7, c7, e7⟩ := r7.slice
      rw [hl7, ← HCT.out] at e7
      subst e7
      have HB7 := Lib.hid (HB6.out.trans (b7.mono HB6.out.size))
      have HC7 := Lib.hid (HCk.out.below b7)
      clear ha7 hl7 r7 b7
      go_wp2_with fail
      refine (names_any Sc _ gc _ _ HC7.out (by omega)).mono ?_
      rintro e w8 ⟨v8, rfl, r8, b8⟩
      obtain ⟨A8, c8, e8⟩ := Kd.R_slice r8
      rw [← HNE.out] at e8
      subst e8
      have HB8 := Lib.hid (HB7.out.trans (b8.mono HB7.out.size))
      clear r8 b8
      go_wp2_with fail
      refine (awake_any _).mono ?_
      rintro e wv ⟨rfl, bs⟩
      have HH := Lib.hid (HB8.out.trans (bs.mono HB8.out.size))
      clear bs
      go_wp2
      go_ret
      exact ⟨rfl, HH.out⟩
--END WALK
end Go.Proofs.Ytinonkakpgiblaa.Nam
