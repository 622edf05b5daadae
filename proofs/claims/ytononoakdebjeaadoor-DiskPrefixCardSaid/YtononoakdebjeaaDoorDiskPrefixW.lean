/- The law DiskPrefix (walk). -/
import Derived.Test.YtononoakdebjeaaDoorDkAll
import Derived.Test.YtononoakdebjeaaDoorCutB
namespace Go.Proofs.YtononoakdebjeaaDoor.Dk
open Go.RowKit Go.Proofs.YtononoakdebjeaaDoorW.PrintWords Go.Proofs.YtononoakdebjeaaDoorW.PrintLast Go.Proofs.YtononoakdebjeaaDoor.Base Go.Proofs.YtononoakdebjeaaDoor.Path Go.Proofs.YtononoakdebjeaaDoor.Pack Go.Maps
set_option linter.unusedVariables false
set_option linter.unusedSimpArgs false
abbrev nmFp : ByteArray := ⟨#[102]⟩
def flat (ps : List (List Int)) (j : Nat) : List Int := (ps.take j).flatten
theorem flat_next (ps : List (List Int)) (j : Nat) (h : j < ps.length) : flat ps (j + 1) = flat ps j ++ ps.getD j [] := by
  unfold flat
  rw [List.take_add_one, List.getElem?_eq_getElem h, Option.toList_some, List.flatten_append, List.getD_eq_getElem?_getD, List.getElem?_eq_getElem h, Option.getD_some]
  simp
theorem flat_zero (ps : List (List Int)) : flat ps 0 = [] := rfl
def sureLen (ps : List (List Int)) (k j : Nat) : Nat := if k < j then (flat ps (k + 1)).length else 0
def PrefI (ps : List (List Int)) (k j : Nat) (D : DiskV) : Prop := D.armed = -1 ∧ ((j = 0 ∧ NoneI 16777216 D) ∨ 0 < j ∧ ∃ q t, OneI 16777216 nmFp q ⟨flat ps j, sureLen ps k j, t⟩ (decide (k < j)) D)
theorem PrefI.app {ps : List (List Int)} {k j q : Nat} {D D' : DiskV} (h : PrefI ps k j D) (hj : j < ps.length) (hl : (flat ps j).length + (ps.getD j []).length ≤ 6000) (r : DeedR D (rightB nmFp) (AppendR nmFp (ps.getD j [])) D' q) :
    q = 0 ∧ D'.armed = -1 ∧ ∃ i t, OneI 16777216 nmFp i ⟨flat ps (j + 1), sureLen ps k j, t⟩ (decide (k < j)) D' := by
  obtain ⟨ha, h0 | ⟨h0, i, t, h1⟩⟩ := h
  · obtain ⟨e, i, o, a, _⟩ := h0.2.appendD (by rw [ha]; omega) right_f (by omega) (by omega) (by intro h; cases h) r
    refine ⟨e, a.trans (count_minus ha), i, D.clock, ?_⟩
    have h2 : ¬ k < j := by omega
    rw [flat_next ps j hj, h0.1, flat_zero, List.nil_append, decide_eq_false (h0.1 ▸ h2)]
    rw [h0.1] at o
    unfold sureLen
    rw [if_neg (by omega)]
    exact o
  · obtain ⟨e, o, a, _⟩ := h1.appendD (by rw [ha]; omega) right_f (by show (flat ps j).length + _ ≤ _; omega) (by show (flat ps j).length + _ ≤ _; omega) r
    refine ⟨e, a.trans (count_minus ha), i, D.clock, ?_⟩
    rw [flat_next ps j hj]
    exact o
theorem PrefI.skip {ps : List (List Int)} {k j : Nat} {D : DiskV} (hk : j ≠ k) (ha : D.armed = -1) (h : ∃ i t, OneI 16777216 nmFp i ⟨flat ps (j + 1), sureLen ps k j, t⟩ (decide (k < j)) D) : PrefI ps k (j + 1) D := by
  obtain ⟨i, t, h⟩ := h
  refine ⟨ha, .inr ⟨Nat.succ_pos _, i, t, ?_⟩⟩
  have e1 : decide (k < j + 1) = decide (k < j) := by by_cases h : k < j <;> simp [h] <;> omega
  have e2 : sureLen ps k (j + 1) = sureLen ps k j := by
    unfold sureLen
    by_cases h : k < j
    · rw [if_pos h, if_pos (by omega)]
    · rw [if_neg h, if_neg (by omega)]
  rw [e1, e2]
  exact h
theorem PrefI.sync {ps : List (List Int)} {k q : Nat} {D D' : DiskV} (ha : D.armed = -1) (h : ∃ i t, OneI 16777216 nmFp i ⟨flat ps (k + 1), sureLen ps k k, t⟩ (decide (k < k)) D) (r : DeedR D (rightB nmFp) (ThereR nmFp SyncR) D' q) :
    q = 0 ∧ D'.armed = -1 ∧ ∃ i t, OneI 16777216 nmFp i ⟨flat ps (k + 1), (flat ps (k + 1)).length, t⟩ (decide (k < k)) D' := by
  obtain ⟨i, t, h⟩ := h
  obtain ⟨e, o, a, _⟩ := h.syncD (by rw [ha]; omega) right_f r
  exact ⟨e, a.trans (count_minus ha), i, t, o⟩
theorem PrefI.dir {ps : List (List Int)} {k q : Nat} {D D' : DiskV} (ha : D.armed = -1) (h : ∃ i t, OneI 16777216 nmFp i ⟨flat ps (k + 1), (flat ps (k + 1)).length, t⟩ (decide (k < k)) D) (r : DeedR D true SyncDirR D' q) :
    q = 0 ∧ PrefI ps k (k + 1) D' := by
  obtain ⟨i, t, h⟩ := h
  obtain ⟨e, o, a, _⟩ := h.syncDirD (by rw [ha]; omega) r
  refine ⟨e, a.trans (count_minus ha), .inr ⟨Nat.succ_pos _, i, t, ?_⟩⟩
  unfold sureLen
  rw [if_pos (Nat.lt_succ_self k), decide_eq_true (Nat.lt_succ_self k)]
  exact o
def PrefAt (w0 : World) (ps : List (List Int)) (k j g : Nat) (v : Value) (w : World) : Prop := ∃ D, DO w0 (1 + 9 * j) w g D v (flat ps j) ∧ PrefI ps k j D ∧ (flat ps j).length ≤ 300 * j
theorem rs_at {w : World} {v : Value} {rs : List (List Int)} (h : Rs w v rs) : ∃ A c, v = .slice A rs.length c ∧ rs.length ≤ c ∧ rs.length ≤ 9223372036854775807 ∧ (0 < rs.length → ∃ ad, A = some ad ∧ ∀ i, i < rs.length → ∃ u, w.cell? (ad.add i) = some u ∧ Bs w u (rs.getD i [])) := h
--BEGIN WALK
set_option maxRecDepth 100000 in
set_option maxHeartbeats 4000000 in
theorem DiskPrefix_any (v : Value) (ps : List (List Int)) (sy : Nat) (tail : Int) (w : World) (h : Rs w v ps) (hsy : sy < 256) (ht : -9223372036854775808 ≤ tail ∧ tail ≤ 9223372036854775807) :
    Calls Tryd.prog 5 #[v, .int .u8 (sy : Int), .int .i64 tail] w fun e w' => e = .returned (.bool true) ∧ Below w.heap.size w w' := by
  obtain ⟨A, cp, rfl, hcp, hm, hcell⟩ := rs_at h
  obtain ⟨n, hn⟩ : ∃ n, n = ps.length := ⟨_, rfl⟩
  rw [← hn] at hcp hm hcell ⊢
  have HN := Lib.hid hn
  have HC := Lib.hid hcell
  clear hn h hcell
  go_enter Tryd.func5, Tryd.ntmps5
  by_cases l0 : n > 20 ∨ n = 0
  · have b1 : decide (20 < (n : Int)) = decide (20 < n) := by by_cases h : 20 < n <;> simp [h] <;> omega
    have b2 : ((n : Int) == 0) = decide (n = 0) := by by_cases h : n = 0 <;> simp [h]
    rcases l0 with l0 | l0
    · rw [decide_eq_true l0] at b1
      go_wp2
      go_ret
      exact ⟨rfl, Below.refl _ _⟩
    · subst l0
      go_wp2
      go_ret
      exact ⟨rfl, Below.refl _ _⟩
  · have hn20 : n ≤ 20 := by omega
    have hn0 : 0 < n := by omega
    have b1 : decide (20 < (n : Int)) = false := decide_eq_false (by omega)
    have b2 : ((n : Int) == 0) = false := by rw [beq_eq_false_iff_ne]; omega
    go_wp2_with fail
    refine (fresh04 (B := w.heap.size) w (Nat.le_refl _)).mono ?_
    rintro e w1 ⟨g, rfl, d1, b1'⟩
    obtain ⟨k, hk⟩ : ∃ k : Nat, k = sy % n := ⟨_, rfl⟩
    have hkn : k < n := by rw [hk]; exact Nat.mod_lt _ hn0
    have hk' : (sy : Int) % (n : Int) = (k : Int) := by rw [hk]; exact (Int.natCast_emod sy n).symm
    have HA0 : Hid (PrefAt w ps k 0 g (.slice none 0 0) w1) := ⟨_, DO.start d1 b1', ⟨rfl, .inl ⟨rfl, NoneI.new _ _⟩⟩, Nat.le_refl _⟩
    have hnz : ¬ (n : Int) = 0 := by omega
    clear d1 b1' hk
    go_wp2
    --S1
    rw [hk']
    clear hk' hnz
    go_loopw [10, 11, 12] (fun s10 s11 s12 wr => ∃ j : Nat, j ≤ n ∧ s12 = .int .i64 j ∧ s11 = .int .i64 (sureLen ps k j : Nat) ∧ Hid (PrefAt w ps k j g s10 wr)) (fun _ _ s12 _ => n - (intOf s12).toNat)
    case atStart => exact ⟨0, Nat.zero_le _, rfl, rfl, HA0.out⟩
    case round =>
      obtain ⟨j, hj, rfl, rfl, HA⟩ := hrel
      by_cases l1 : j < n
      · obtain ⟨ad, e1, f1⟩ := HC.out (by omega)
        subst e1
        obtain ⟨u, q1, hu⟩ := f1 j l1
        obtain ⟨D, dq, pi, hf⟩ := HA.out
        have q2 := pw_cell_below dq.wide q1
        obtain ⟨pk, hpk⟩ : ∃ pk, ps.getD j [] = pk := ⟨_, rfl⟩
        rw [hpk] at hu
        obtain ⟨B1, n1, rfl, hcp1, hm1⟩ := hu.len
        obtain ⟨len1, hlen1⟩ : ∃ m, m = pk.length := ⟨_, rfl⟩
        rw [← hlen1] at q1 q2 hcp1 hm1 hu
        have HU := Lib.hid hu
        have HPK := Lib.hid hpk
        have HL1 := Lib.hid hlen1
        have HD := Lib.hid dq
        have HP := Lib.hid pi
        have HF := Lib.hid hf
        have HQ := Lib.hid q1
        clear f1 hu hpk hlen1 dq pi hf HA q1
        by_cases l2 : len1 ≤ 300
        · have c1 : decide (300 < (len1 : Int)) = false := decide_eq_false (by omega)
          go_wp2_with fail
          --S2
          refine (HD.out.append ⟨#[102]⟩ _ pk (by decide) HU.out (by rw [← HL1.out]; omega) (by omega)).mono ?_
          rintro e w2 ⟨D2, q2', rfl, d2, r2⟩
          rw [← HPK.out] at r2
          obtain ⟨rfl, a2, o2⟩ := HP.out.app (by rw [← HN.out]; exact l1) (by rw [HPK.out, ← HL1.out]; have := HF.out; omega) r2
          have HD2 := Lib.hid d2
          have HA2 := Lib.hid a2
          have HO2 := Lib.hid o2
          have q3 := pw_cell_below d2.wide HQ.out
          clear d2 r2 a2 o2 HD HP q2
          go_wp2_with (at_builtin; refine Held.of ?_)
          --S3
          refine app_do (g := g) (D := D2) rfl (.tmp 58) (.tmp 62) 22 rfl Tryd.underlying22 _ _ (flat ps j) pk rfl rfl HD2.out (HU.out.below HD2.out.wide) (by rw [← HL1.out]; have := HF.out; omega) ?_
          intro v3 w3 d3
          have HLN : Hid ((flat ps (j + 1)).length ≤ 300 * (j + 1)) := by
            show _ ≤ _
            rw [flat_next ps j (by rw [← HN.out]; exact l1), HPK.out, List.length_append, ← HL1.out]
            have := HF.out
            omega
          rw [← HPK.out, ← flat_next ps j (by rw [← HN.out]; exact l1)] at d3
          have HD3 := Lib.hid d3
          clear d3 HD2
          by_cases hjk : j = k
          · have c2 : ((j : Int) == (k : Int)) = true := by rw [hjk]; exact beq_self_eq_true _
            go_wp2_with fail
            refine (HD3.out.sync ⟨#[102]⟩ (by decide) (by omega)).mono ?_
            rintro e w4 ⟨D4, q4, rfl, d4, r4⟩
            subst hjk
            obtain ⟨rfl, a4, o4⟩ := PrefI.sync HA2.out HO2.out r4
            have HD4 := Lib.hid d4
            have HA4 := Lib.hid a4
            have HO4 := Lib.hid o4
            clear d4 r4 a4 o4 HD3
            go_wp2_with fail
            refine (HD4.out.syncDir (by omega)).mono ?_
            rintro e w5 ⟨D5, q5, rfl, d5, r5⟩
            obtain ⟨rfl, p5⟩ := PrefI.dir HA4.out HO4.out r5
            obtain ⟨A5, n5, cp5, rfl, hn5⟩ := d5.ow.slice
            have HPA : Hid (PrefAt w ps j (j + 1) g (.slice A5 n5 cp5) w5) := ⟨D5, d5.more (by omega), p5, HLN.out⟩
            have HSL : Hid (sureLen ps j (j + 1) = n5) := by
              show _ = _
              rw [hn5]
              unfold sureLen
              rw [if_pos (Nat.lt_succ_self j)]
            clear d5 r5 p5 HD4 hn5
            go_wp2
            go_roundw
            case rel => exact ⟨j + 1, by omega, by go_num, by rw [HSL.out], HPA.out⟩
            case measure => simp [intOf]; omega
          · have c2 : ((j : Int) == (k : Int)) = false := by rw [beq_eq_false_iff_ne]; omega
            have HPA : Hid (PrefAt w ps k (j + 1) g v3 w3) := ⟨D2, HD3.out.more (by omega), PrefI.skip hjk HA2.out HO2.out, HLN.out⟩
            have HSL : Hid (sureLen ps k (j + 1) = sureLen ps k j) := by
              show _ = _
              unfold sureLen
              by_cases h : k < j
              · rw [if_pos h, if_pos (by omega)]
              · rw [if_neg h, if_neg (by omega)]
            clear HD3
            go_wp2
            go_roundw
            case rel => exact ⟨j + 1, by omega, by go_num, by rw [HSL.out], HPA.out⟩
            case measure => simp [intOf]; omega
        · have c1 : decide (300 < (len1 : Int)) = true := decide_eq_true (by omega)
          have HW := Lib.hid HD.out.wide
          go_wp2
          go_ret
          exact ⟨rfl, HW.out⟩
      · obtain rfl : j = n := by omega
        --S6
        obtain ⟨D, dq, pi, hf⟩ := HA.out
        have hsl : sureLen ps k j = (flat ps (k + 1)).length := by unfold sureLen; rw [if_pos hkn]
        obtain ⟨i, t, o⟩ : ∃ i t, OneI 16777216 nmFp i ⟨flat ps j, sureLen ps k j, t⟩ true D := by
          obtain ⟨_, h | ⟨_, i, t, o⟩⟩ := pi
          · omega
          · rw [decide_eq_true hkn] at o
            exact ⟨i, t, o⟩
        obtain ⟨A6, n6, cp6, rfl, hn6⟩ := dq.ow.slice
        obtain ⟨sl, hs⟩ : ∃ sl, sl = sureLen ps k j := ⟨_, rfl⟩
        have hsn : sl ≤ n6 := by
          rw [hs, hsl, hn6]
          unfold flat
          obtain ⟨r, hr⟩ := List.take_prefix_take_left (l := ps) (by omega : k + 1 ≤ j)
          rw [← hr, List.flatten_append, List.length_append]
          omega
        have HD := Lib.hid dq
        have HO := Lib.hid o
        have HS := Lib.hid hs
        have HN6 := Lib.hid hn6
        have HF := Lib.hid hf
        have hlk : look D.dir nmFp = some i := by rw [o.dir]; exact look_one _ _
        have hdn : D.down = false := o.down
        have hfi : D.fs i = ⟨flat ps j, sureLen ps k j, t⟩ := o.file
        rw [← hs]
        have HLK := Lib.hid hlk
        have HDN := Lib.hid hdn
        have HFI := Lib.hid hfi
        clear dq o hs hn6 hf hsl pi hlk hdn hfi HA
        go_wp2_with fail
        refine (HD.out.stat ⟨#[102]⟩ (by decide)).mono ?_
        rintro e w7 hs
        obtain ⟨e7, b7⟩ := stat_some hs HDN.out HLK.out
        rw [HFI.out] at e7
        simp only [] at e7
        rw [← HN6.out] at e7
        subst e7
        have HD7 := Lib.hid (HD.out.below b7)
        clear hs b7 HD
        go_wp2_with fail
        obtain ⟨x, hx⟩ : ∃ x, w7.heap.size = x := ⟨_, rfl⟩
        obtain ⟨W, hW⟩ : ∃ W, W = (w7.alloc (.cells #[.int .i64 (n6 : Int), .int .i64 (t : Int)] 37)).alloc (.cells #[.int .i64 tail] 3) := ⟨_, rfl⟩
        obtain ⟨g0, g1, gs, hb⟩ : W.heap[x]? = some (.cells #[.int .i64 (n6 : Int), .int .i64 (t : Int)] 37 (0, 0)) ∧ W.heap[x + 1]? = some (.cells #[.int .i64 tail] 3 (0, 0)) ∧ W.heap.size = x + 2 ∧ Below w7.heap.size w7 W := by rw [hW]; exact allocs2 w7 _ _ hx
        rw [← hW, hx]
        have hfew : D.sure.length + D.pend.length ≤ 1 := by
          have h := HO.out.sy
          rw [if_pos rfl] at h
          rw [h.1, h.2]
          exact Nat.le_refl _
        obtain ⟨m, hm'⟩ : ∃ m, m = sl + min (max tail 0).toNat (n6 - sl) := ⟨_, rfl⟩
        have o8 := HO.out.restart (by intro h; cases h) 0 [tail] (.inl rfl) m (by rw [hm', HS.out, HN6.out]; rfl)
        obtain ⟨t8, ht8⟩ : ∃ t8, t8 = if m < n6 then D.clock else t := ⟨_, rfl⟩
        have hmn : m ≤ n6 := by omega
        have hfile : (restartV D 0 [tail]).fs i = ⟨(flat ps j).take m, m, t8⟩ := by
          rw [o8.file, ht8]
          show (if m < (flat ps j).length then _ else _) = _
          rw [← HN6.out]
          by_cases h : m < n6
          · rw [if_pos h, if_pos h]
          · rw [if_neg h, if_neg h, List.take_of_length_le (by rw [← HN6.out]; omega), show n6 = m by omega]
        have hclk : t < D.clock := HO.out.clock
        have he1 : ((t8 : Int) == (t : Int)) = ((m : Int) == (n6 : Int)) := by
          rw [ht8]
          by_cases h : m < n6
          · rw [if_pos h, beq_eq_false_iff_ne.2 (by omega), beq_eq_false_iff_ne.2 (by omega)]
          · rw [if_neg h, show m = n6 by omega, beq_self_eq_true, beq_self_eq_true]
        have he2 : decide (t ≤ t8) = true := by
          rw [ht8]
          refine decide_eq_true ?_
          split <;> omega
        have hn6k : n6 ≤ 6000 := by rw [HN6.out]; have := HF.out; omega
        have hwant : (sl : Int) + min (max tail 0) ((n6 : Int) - (sl : Int)) = (m : Int) := by omega
        have HE1 := Lib.hid he1
        have HE2 := Lib.hid he2
        have HWT := Lib.hid hwant
        have HFL := Lib.hid hfile
        have HLK8 : Hid (look (restartV D 0 [tail]).dir nmFp = some i) := by show _ = _; rw [o8.dir]; exact look_one _ _
        have HDN8 := Lib.hid o8.down
        have HMN := Lib.hid hmn
        have hlen : ((flat ps j).take m).length = m := by rw [List.length_take, ← HN6.out]; omega
        have HLN := Lib.hid hlen
        clear he1 he2 hwant hfile hclk ht8 hm' o8 hmn hlen
        refine (HD7.out.restart 1 0 tail hb (by omega) g1 hfew (by omega) (by omega)).mono ?_
        rintro e w8 ⟨rfl, d8, f8⟩
        have G0 : Hid (w8.heap[x]? = some (.cells #[.int .i64 (n6 : Int), .int .i64 (t : Int)] 37 (0, 0))) := (f8 x (by omega) (by omega)).trans g0
        have HD8 := Lib.hid d8
        clear hW g0 g1 gs hb hfew d8 f8 HD7
        go_wp2_with fail
        --S7
        refine (HD8.out.read ⟨#[102]⟩ (by decide)).mono ?_
        rintro e w9 hr
        obtain ⟨v9, rfl, o9⟩ := read_some hr HDN8.out HLK8.out
        rw [HFL.out] at o9
        obtain ⟨A9, n9, cp9, rfl, hn9⟩ := o9.slice
        have HD9 := Lib.hid (HD8.out.below o9.below)
        have G0' := Lib.hid (foot_blk (Foot.of_below (S := fun _ => False) o9.below) G0.out (fun h => h))
        have HO9 := Lib.hid o9
        clear hr hn9 o9 HD8
        go_wp2_with fail
        refine (HD9.out.stat ⟨#[102]⟩ (by decide)).mono ?_
        rintro e w10 hs
        obtain ⟨e10, b10⟩ := stat_some hs HDN8.out HLK8.out
        rw [HFL.out] at e10
        simp only [] at e10
        rw [HLN.out] at e10
        subst e10
        have HD10 := Lib.hid (HD9.out.below b10)
        have G1 := Lib.hid (foot_blk (Foot.of_below (S := fun _ => False) b10) G0'.out (fun h => h))
        have HB10 := Lib.hid (HO9.out.bs.below b10)
        clear hs b10 HD9
        obtain ⟨W, hW⟩ : ∃ W, W = w10.alloc (.cells #[.int .i64 (m : Int), .int .i64 (t8 : Int)] 37) := ⟨_, rfl⟩
        obtain ⟨y, hy⟩ : ∃ y, w10.heap.size = y := ⟨_, rfl⟩
        have hb : Below w10.heap.size w10 W := by rw [hW]; exact below_alloc (Below.refl _ _) _
        have K0 := Lib.hid (blk_cell (foot_blk (Foot.of_below (S := fun _ => False) hb) G1.out (fun h => h)) 1)
        have K1 := Lib.hid (blk_cell (show W.heap[y]? = some (.cells #[.int .i64 (m : Int), .int .i64 (t8 : Int)] 37 (0, 0)) by rw [hW, ← hy]; exact blk_new w10 _) 1)
        obtain ⟨u, ku, hu⟩ := cut_to (HD10.out.below hb).ow.bs m (by rw [← HN6.out]; exact HMN.out)
        have S1 := Lib.hid (str_of ((HB10.out.below hb).drewN 1))
        have S2 := Lib.hid (str_of (hu.drewN 1))
        have s3 : ((strOfNums ((flat ps j).take m)).toList == (strOfNums ((flat ps j).take m)).toList) = true := beq_self_eq_true _
        have HD11 := Lib.hid (HD10.out.below hb)
        obtain ⟨bq, hbq⟩ : ∃ bq, ((m : Int) == (n6 : Int)) = bq := ⟨_, rfl⟩
        have e1 := HE1.out.trans hbq
        have e2 := HE2.out
        have e1c : (bq == bq) = true := beq_self_eq_true _
        clear hu HD10
        go_upto_region 26 with (fail)
        rw [← hW, HWT.out]
        --BEGIN R26
        refine start_ (n := 38) (S := fun w' => Below W.heap.size W w' ∧ w'.cell? ⟨y, 1, none⟩ = some (.int .i64 (t8 : Int)) ∧ w'.cell? ⟨x, 1, none⟩ = some (.int .i64 (t : Int)) ∧ (convert 22 9 (.slice A9 n9 cp9)).run Tryd.prog w' = .ok (.string (strOfNums ((flat ps j).take m))) w' ∧ (convert 22 9 u).run Tryd.prog w' = .ok (.string (strOfNums ((flat ps j).take m))) w') (ds := [35]) #[false, false, false, false, false, false, false, false, false, false, false, false, false, false, false, false, false, false, false, false, false, false, false, false, false, false, false, false, false, false, false, false, false, false, false, false, false, false] (by kernel_rfl) rfl rfl ⟨Below.drew (Below.refl _ _), K1.out, K0.out, S1.out, S2.out⟩ (fun hHeld => ?_)
        refine pure_ (i := 0) (N := some 106) (v := ?_) (a' := ?_) #[true, false, false, false, false, false, false, false, false, false, false, false, false, false, false, false, false, false, false, false, false, false, false, false, false, false, false, false, false, false, false, false, false, false, false, false, false, false] rfl rfl (by kernel_rfl) (fun _ _ _ h => h) (Or.inl ⟨by rfl, ?_⟩) ?_ ?_
        rotate_left
        · intro w'
          go_simp
          with_reducible rfl
        rotate_left
        · simp only [Act.put, List.setIfInBounds_toArray, List.set_cons_zero, List.set_cons_succ, i64_w, i32_w]
          rfl
        refine pure_ (i := 1) (N := some 107) (v := ?_) (a' := ?_) #[true, true, false, false, false, false, false, false, false, false, false, false, false, false, false, false, false, false, false, false, false, false, false, false, false, false, false, false, false, false, false, false, false, false, false, false, false, false] rfl rfl (by kernel_rfl) (fun _ _ _ h => h) (Or.inl ⟨by rfl, ?_⟩) ?_ ?_
        rotate_left
        · intro w'
          go_simp
          with_reducible rfl
        rotate_left
        · simp only [Act.put, List.setIfInBounds_toArray, List.set_cons_zero, List.set_cons_succ, i64_w, i32_w]
          rfl
        refine pure_ (i := 2) (N := some 108) (v := ?_) (a' := ?_) #[true, true, true, false, false, false, false, false, false, false, false, false, false, false, false, false, false, false, false, false, false, false, false, false, false, false, false, false, false, false, false, false, false, false, false, false, false, false] rfl rfl (by kernel_rfl) (fun _ _ _ h => h) (Or.inl ⟨by rfl, ?_⟩) ?_ ?_
        rotate_left
        · intro w'
          go_simp
          with_reducible rfl
        rotate_left
        · simp only [Act.put, List.setIfInBounds_toArray, List.set_cons_zero, List.set_cons_succ, i64_w, i32_w]
          rfl
        refine pure_ (i := 3) (N := some 109) (v := ?_) (a' := ?_) #[true, true, true, true, false, false, false, false, false, false, false, false, false, false, false, false, false, false, false, false, false, false, false, false, false, false, false, false, false, false, false, false, false, false, false, false, false, false] rfl rfl (by kernel_rfl) (fun _ _ _ h => h) (Or.inl ⟨by rfl, ?_⟩) ?_ ?_
        rotate_left
        · intro w'
          go_simp
          with_reducible rfl
        rotate_left
        · simp only [Act.put, List.setIfInBounds_toArray, List.set_cons_zero, List.set_cons_succ, i64_w, i32_w]
          rfl
        refine pure_ (i := 4) (N := some 110) (v := ?_) (a' := ?_) #[true, true, true, true, true, false, false, false, false, false, false, false, false, false, false, false, false, false, false, false, false, false, false, false, false, false, false, false, false, false, false, false, false, false, false, false, false, false] rfl rfl (by kernel_rfl) (fun _ _ _ h => h) (Or.inl ⟨by rfl, ?_⟩) ?_ ?_
        rotate_left
        · intro w'
          go_simp
          with_reducible rfl
        rotate_left
        · simp only [Act.put, List.setIfInBounds_toArray, List.set_cons_zero, List.set_cons_succ, i64_w, i32_w]
          rfl
        refine pure_ (i := 5) (N := some 111) (v := ?_) (a' := ?_) #[true, true, true, true, true, true, false, false, false, false, false, false, false, false, false, false, false, false, false, false, false, false, false, false, false, false, false, false, false, false, false, false, false, false, false, false, false, false] rfl rfl (by kernel_rfl) (fun _ _ _ h => h) (Or.inl ⟨by rfl, ?_⟩) ?_ ?_
        rotate_left
        · intro w'
          go_simp
          with_reducible rfl
        rotate_left
        · simp only [Act.put, List.setIfInBounds_toArray, List.set_cons_zero, List.set_cons_succ, i64_w, i32_w]
          rfl
        refine pure_ (i := 6) (N := some 112) (v := ?_) (a' := ?_) #[true, true, true, true, true, true, true, false, false, false, false, false, false, false, false, false, false, false, false, false, false, false, false, false, false, false, false, false, false, false, false, false, false, false, false, false, false, false] rfl rfl (by kernel_rfl) (fun _ _ _ h => h) (Or.inl ⟨by rfl, ?_⟩) ?_ ?_
        rotate_left
        · intro w'
          go_simp
          with_reducible rfl
        rotate_left
        · simp only [Act.put, List.setIfInBounds_toArray, List.set_cons_zero, List.set_cons_succ, i64_w, i32_w]
          rfl
        refine pure_ (i := 7) (N := some 113) (v := ?_) (a' := ?_) #[true, true, true, true, true, true, true, true, false, false, false, false, false, false, false, false, false, false, false, false, false, false, false, false, false, false, false, false, false, false, false, false, false, false, false, false, false, false] rfl rfl (by kernel_rfl) (fun _ _ _ h => h) (Or.inl ⟨by rfl, ?_⟩) ?_ ?_
        rotate_left
        · intro w'
          go_simp
          with_reducible rfl
        rotate_left
        · simp only [Act.put, List.setIfInBounds_toArray, List.set_cons_zero, List.set_cons_succ, i64_w, i32_w]
          rfl
        refine pure_ (i := 9) (N := some 115) (v := ?_) (a' := ?_) #[true, true, true, true, true, true, true, true, false, true, false, false, false, false, false, false, false, false, false, false, false, false, false, false, false, false, false, false, false, false, false, false, false, false, false, false, false, false] rfl rfl (by kernel_rfl) (fun _ _ _ h => h) (Or.inl ⟨by rfl, ?_⟩) ?_ ?_
        rotate_left
        · intro w'
          go_simp
          with_reducible rfl
        rotate_left
        · simp only [Act.put, List.setIfInBounds_toArray, List.set_cons_zero, List.set_cons_succ, i64_w, i32_w]
          rfl
        refine pure_ (i := 10) (N := some 116) (v := ?_) (a' := ?_) #[true, true, true, true, true, true, true, true, false, true, true, false, false, false, false, false, false, false, false, false, false, false, false, false, false, false, false, false, false, false, false, false, false, false, false, false, false, false] rfl rfl (by kernel_rfl) (fun _ _ _ h => h) (Or.inl ⟨by rfl, ?_⟩) ?_ ?_
        rotate_left
        · intro w'
          go_simp
          with_reducible rfl
        rotate_left
        · simp only [Act.put, List.setIfInBounds_toArray, List.set_cons_zero, List.set_cons_succ, i64_w, i32_w]
          rfl
        refine pure_ (i := 11) (N := some 117) (v := ?_) (a' := ?_) #[true, true, true, true, true, true, true, true, false, true, true, true, false, false, false, false, false, false, false, false, false, false, false, false, false, false, false, false, false, false, false, false, false, false, false, false, false, false] rfl rfl (by kernel_rfl) (fun _ _ _ h => h) (Or.inl ⟨by rfl, ?_⟩) ?_ ?_
        rotate_left
        · intro w'
          go_simp
          with_reducible rfl
        rotate_left
        · simp only [Act.put, List.setIfInBounds_toArray, List.set_cons_zero, List.set_cons_succ, i64_w, i32_w]
          rfl
        refine take_ (i := 8) (N := some 114) (v := ?_) (a' := ?_) #[true, true, true, true, true, true, true, true, true, true, true, true, false, false, false, false, false, false, false, false, false, false, false, false, false, false, false, false, false, false, false, false, false, false, false, false, false, false] rfl rfl (by kernel_rfl) (fun _ _ _ h => h) (Or.inl ⟨by rfl, ?_⟩) hHeld ?_ ?_
        rotate_left
        · rintro w' ⟨s0, s1, s2, s3, s4⟩
          go_simp
          with_reducible rfl
        rotate_left
        · simp only [Act.put, List.setIfInBounds_toArray, List.set_cons_zero, List.set_cons_succ, i64_w, i32_w]
          rfl
        refine take_ (i := 12) (N := some 118) (v := ?_) (a' := ?_) #[true, true, true, true, true, true, true, true, true, true, true, true, true, false, false, false, false, false, false, false, false, false, false, false, false, false, false, false, false, false, false, false, false, false, false, false, false, false] rfl rfl (by kernel_rfl) (fun _ _ _ h => h) (Or.inl ⟨by rfl, ?_⟩) hHeld ?_ ?_
        rotate_left
        · rintro w' ⟨s0, s1, s2, s3, s4⟩
          go_simp
          with_reducible rfl
        rotate_left
        · simp only [Act.put, List.setIfInBounds_toArray, List.set_cons_zero, List.set_cons_succ, i64_w, i32_w]
          rfl
        refine pure_ (i := 13) (N := some 119) (v := ?_) (a' := ?_) #[true, true, true, true, true, true, true, true, true, true, true, true, true, true, false, false, false, false, false, false, false, false, false, false, false, false, false, false, false, false, false, false, false, false, false, false, false, false] rfl rfl (by kernel_rfl) (fun _ _ _ h => h) (Or.inl ⟨by rfl, ?_⟩) ?_ ?_
        rotate_left
        · intro w'
          go_simp
          with_reducible rfl
        rotate_left
        · simp only [Act.put, List.setIfInBounds_toArray, List.set_cons_zero, List.set_cons_succ, i64_w, i32_w]
          rfl
        refine pure_ (i := 14) (N := some 120) (v := ?_) (a' := ?_) #[true, true, true, true, true, true, true, true, true, true, true, true, true, true, true, false, false, false, false, false, false, false, false, false, false, false, false, false, false, false, false, false, false, false, false, false, false, false] rfl rfl (by kernel_rfl) (fun _ _ _ h => h) (Or.inl ⟨by rfl, ?_⟩) ?_ ?_
        rotate_left
        · intro w'
          go_simp
          with_reducible rfl
        rotate_left
        · simp only [Act.put, List.setIfInBounds_toArray, List.set_cons_zero, List.set_cons_succ, i64_w, i32_w]
          rfl
        refine pure_ (i := 15) (N := some 121) (v := ?_) (a' := ?_) #[true, true, true, true, true, true, true, true, true, true, true, true, true, true, true, true, false, false, false, false, false, false, false, false, false, false, false, false, false, false, false, false, false, false, false, false, false, false] rfl rfl (by kernel_rfl) (fun _ _ _ h => h) (Or.inl ⟨by rfl, ?_⟩) ?_ ?_
        rotate_left
        · intro w'
          go_simp
          with_reducible rfl
        rotate_left
        · simp only [Act.put, List.setIfInBounds_toArray, List.set_cons_zero, List.set_cons_succ, i64_w, i32_w]
          rfl
        refine pure_ (i := 16) (N := some 122) (v := ?_) (a' := ?_) #[true, true, true, true, true, true, true, true, true, true, true, true, true, true, true, true, true, false, false, false, false, false, false, false, false, false, false, false, false, false, false, false, false, false, false, false, false, false] rfl rfl (by kernel_rfl) (fun _ _ _ h => h) (Or.inl ⟨by rfl, ?_⟩) ?_ ?_
        rotate_left
        · intro w'
          go_simp
          with_reducible rfl
        rotate_left
        · simp only [Act.put, List.setIfInBounds_toArray, List.set_cons_zero, List.set_cons_succ, i64_w, i32_w]
          rfl
        refine pure_ (i := 18) (N := some 124) (v := ?_) (a' := ?_) #[true, true, true, true, true, true, true, true, true, true, true, true, true, true, true, true, true, false, true, false, false, false, false, false, false, false, false, false, false, false, false, false, false, false, false, false, false, false] rfl rfl (by kernel_rfl) (fun _ _ _ h => h) (Or.inl ⟨by rfl, ?_⟩) ?_ ?_
        rotate_left
        · intro w'
          go_simp
          with_reducible rfl
        rotate_left
        · simp only [Act.put, List.setIfInBounds_toArray, List.set_cons_zero, List.set_cons_succ, i64_w, i32_w]
          rfl
        refine pure_ (i := 21) (N := some 127) (v := ?_) (a' := ?_) #[true, true, true, true, true, true, true, true, true, true, true, true, true, true, true, true, true, false, true, false, false, true, false, false, false, false, false, false, false, false, false, false, false, false, false, false, false, false] rfl rfl (by kernel_rfl) (fun _ _ _ h => h) (Or.inl ⟨by rfl, ?_⟩) ?_ ?_
        rotate_left
        · intro w'
          go_simp
          with_reducible rfl
        rotate_left
        · simp only [Act.put, List.setIfInBounds_toArray, List.set_cons_zero, List.set_cons_succ, i64_w, i32_w]
          rfl
        refine pure_ (i := 22) (N := some 128) (v := ?_) (a' := ?_) #[true, true, true, true, true, true, true, true, true, true, true, true, true, true, true, true, true, false, true, false, false, true, true, false, false, false, false, false, false, false, false, false, false, false, false, false, false, false] rfl rfl (by kernel_rfl) (fun _ _ _ h => h) (Or.inl ⟨by rfl, ?_⟩) ?_ ?_
        rotate_left
        · intro w'
          go_simp
          with_reducible rfl
        rotate_left
        · simp only [Act.put, List.setIfInBounds_toArray, List.set_cons_zero, List.set_cons_succ, i64_w, i32_w]
          rfl
        refine pure_ (i := 23) (N := some 129) (v := ?_) (a' := ?_) #[true, true, true, true, true, true, true, true, true, true, true, true, true, true, true, true, true, false, true, false, false, true, true, true, false, false, false, false, false, false, false, false, false, false, false, false, false, false] rfl rfl (by kernel_rfl) (fun _ _ _ h => h) (Or.inl ⟨by rfl, ?_⟩) ?_ ?_
        rotate_left
        · intro w'
          go_simp
          with_reducible rfl
        rotate_left
        · simp only [Act.put, List.setIfInBounds_toArray, List.set_cons_zero, List.set_cons_succ, i64_w, i32_w]
          rfl
        refine pure_ (i := 24) (N := some 130) (v := ?_) (a' := ?_) #[true, true, true, true, true, true, true, true, true, true, true, true, true, true, true, true, true, false, true, false, false, true, true, true, true, false, false, false, false, false, false, false, false, false, false, false, false, false] rfl rfl (by kernel_rfl) (fun _ _ _ h => h) (Or.inl ⟨by rfl, ?_⟩) ?_ ?_
        rotate_left
        · intro w'
          go_simp
          with_reducible rfl
        rotate_left
        · simp only [Act.put, List.setIfInBounds_toArray, List.set_cons_zero, List.set_cons_succ, i64_w, i32_w]
          rfl
        refine take_ (i := 17) (N := some 123) (v := ?_) (a' := ?_) #[true, true, true, true, true, true, true, true, true, true, true, true, true, true, true, true, true, true, true, false, false, true, true, true, true, false, false, false, false, false, false, false, false, false, false, false, false, false] rfl rfl (by kernel_rfl) (fun _ _ _ h => h) (Or.inl ⟨by rfl, ?_⟩) hHeld ?_ ?_
        rotate_left
        · rintro w' ⟨s0, s1, s2, s3, s4⟩
          go_simp
          with_reducible rfl
        rotate_left
        · simp only [Act.put, List.setIfInBounds_toArray, List.set_cons_zero, List.set_cons_succ, i64_w, i32_w]
          rfl
        refine take_ (i := 19) (N := some 125) (v := ?_) (a' := ?_) #[true, true, true, true, true, true, true, true, true, true, true, true, true, true, true, true, true, true, true, true, false, true, true, true, true, false, false, false, false, false, false, false, false, false, false, false, false, false] rfl rfl (by kernel_rfl) (fun _ _ _ h => h) (Or.inl ⟨by rfl, ?_⟩) hHeld ?_ ?_
        rotate_left
        · rintro w' ⟨s0, s1, s2, s3, s4⟩
          go_simp
          with_reducible rfl
        rotate_left
        · simp only [Act.put, List.setIfInBounds_toArray, List.set_cons_zero, List.set_cons_succ, i64_w, i32_w]
          rfl
        refine pure_ (i := 20) (N := some 126) (v := ?_) (a' := ?_) #[true, true, true, true, true, true, true, true, true, true, true, true, true, true, true, true, true, true, true, true, true, true, true, true, true, false, false, false, false, false, false, false, false, false, false, false, false, false] rfl rfl (by kernel_rfl) (fun _ _ _ h => h) (Or.inl ⟨by rfl, ?_⟩) ?_ ?_
        rotate_left
        · intro w'
          go_simp
          with_reducible rfl
        rotate_left
        · simp only [Act.put, List.setIfInBounds_toArray, List.set_cons_zero, List.set_cons_succ, i64_w, i32_w]
          rfl
        refine pure_ (i := 25) (N := some 131) (v := ?_) (a' := ?_) #[true, true, true, true, true, true, true, true, true, true, true, true, true, true, true, true, true, true, true, true, true, true, true, true, true, true, false, false, false, false, false, false, false, false, false, false, false, false] rfl rfl (by kernel_rfl) (fun _ _ _ h => h) (Or.inl ⟨by rfl, ?_⟩) ?_ ?_
        rotate_left
        · intro w'
          go_simp
          with_reducible rfl
        rotate_left
        · simp only [Act.put, List.setIfInBounds_toArray, List.set_cons_zero, List.set_cons_succ, i64_w, i32_w]
          rfl
        refine pure_ (i := 26) (N := some 132) (v := ?_) (a' := ?_) #[true, true, true, true, true, true, true, true, true, true, true, true, true, true, true, true, true, true, true, true, true, true, true, true, true, true, true, false, false, false, false, false, false, false, false, false, false, false] rfl rfl (by kernel_rfl) (fun _ _ _ h => h) (Or.inl ⟨by rfl, ?_⟩) ?_ ?_
        rotate_left
        · intro w'
          go_simp
          with_reducible rfl
        rotate_left
        · simp only [Act.put, List.setIfInBounds_toArray, List.set_cons_zero, List.set_cons_succ, i64_w, i32_w]
          rfl
        refine pure_ (i := 27) (N := some 133) (v := ?_) (a' := ?_) #[true, true, true, true, true, true, true, true, true, true, true, true, true, true, true, true, true, true, true, true, true, true, true, true, true, true, true, true, false, false, false, false, false, false, false, false, false, false] rfl rfl (by kernel_rfl) (fun _ _ _ h => h) (Or.inl ⟨by rfl, ?_⟩) ?_ ?_
        rotate_left
        · intro w'
          go_simp
          with_reducible rfl
        rotate_left
        · simp only [Act.put, List.setIfInBounds_toArray, List.set_cons_zero, List.set_cons_succ, i64_w, i32_w]
          rfl
        refine pure_ (i := 28) (N := some 134) (v := ?_) (a' := ?_) #[true, true, true, true, true, true, true, true, true, true, true, true, true, true, true, true, true, true, true, true, true, true, true, true, true, true, true, true, true, false, false, false, false, false, false, false, false, false] rfl rfl (by kernel_rfl) (fun _ _ _ h => h) (Or.inl ⟨by rfl, ?_⟩) ?_ ?_
        rotate_left
        · intro w'
          go_simp
          with_reducible rfl
        rotate_left
        · simp only [Act.put, List.setIfInBounds_toArray, List.set_cons_zero, List.set_cons_succ, i64_w, i32_w]
          rfl
        refine pure_ (i := 30) (N := some 136) (v := ?_) (a' := ?_) #[true, true, true, true, true, true, true, true, true, true, true, true, true, true, true, true, true, true, true, true, true, true, true, true, true, true, true, true, true, false, true, false, false, false, false, false, false, false] rfl rfl (by kernel_rfl) (fun _ _ _ h => h) (Or.inl ⟨by rfl, ?_⟩) ?_ ?_
        rotate_left
        · intro w'
          go_simp
          with_reducible rfl
        rotate_left
        · simp only [Act.put, List.setIfInBounds_toArray, List.set_cons_zero, List.set_cons_succ, i64_w, i32_w]
          rfl
        refine take_ (i := 29) (N := some 135) (v := ?_) (a' := ?_) #[true, true, true, true, true, true, true, true, true, true, true, true, true, true, true, true, true, true, true, true, true, true, true, true, true, true, true, true, true, true, true, false, false, false, false, false, false, false] rfl rfl (by kernel_rfl) (fun _ _ _ h => h) (Or.inl ⟨by rfl, ?_⟩) hHeld ?_ ?_
        rotate_left
        · rintro w' ⟨s0, s1, s2, s3, s4⟩
          go_simp
          with_reducible rfl
        rotate_left
        · simp only [Act.put, List.setIfInBounds_toArray, List.set_cons_zero, List.set_cons_succ, i64_w, i32_w]
          rfl
        refine take_ (i := 31) (N := some 137) (v := ?_) (a' := ?_) #[true, true, true, true, true, true, true, true, true, true, true, true, true, true, true, true, true, true, true, true, true, true, true, true, true, true, true, true, true, true, true, true, false, false, false, false, false, false] rfl rfl (by kernel_rfl) (fun _ _ _ h => h) (Or.inl ⟨by rfl, ?_⟩) hHeld ?_ ?_
        rotate_left
        · rintro w' ⟨s0, s1, s2, s3, s4⟩
          go_simp
          with_reducible rfl
        rotate_left
        · simp only [Act.put, List.setIfInBounds_toArray, List.set_cons_zero, List.set_cons_succ, i64_w, i32_w]
          rfl
        refine pure_ (i := 32) (N := some 138) (v := ?_) (a' := ?_) #[true, true, true, true, true, true, true, true, true, true, true, true, true, true, true, true, true, true, true, true, true, true, true, true, true, true, true, true, true, true, true, true, true, false, false, false, false, false] rfl rfl (by kernel_rfl) (fun _ _ _ h => h) (Or.inl ⟨by rfl, ?_⟩) ?_ ?_
        rotate_left
        · intro w'
          go_simp
          with_reducible rfl
        rotate_left
        · simp only [Act.put, List.setIfInBounds_toArray, List.set_cons_zero, List.set_cons_succ, i64_w, i32_w]
          rfl
        refine pure_ (i := 33) (N := some 139) (v := ?_) (a' := ?_) #[true, true, true, true, true, true, true, true, true, true, true, true, true, true, true, true, true, true, true, true, true, true, true, true, true, true, true, true, true, true, true, true, true, true, false, false, false, false] rfl rfl (by kernel_rfl) (fun _ _ _ h => h) (Or.inl ⟨by rfl, ?_⟩) ?_ ?_
        rotate_left
        · intro w'
          go_simp
          with_reducible rfl
        rotate_left
        · simp only [Act.put, List.setIfInBounds_toArray, List.set_cons_zero, List.set_cons_succ, i64_w, i32_w]
          rfl
        refine pure_ (i := 34) (N := some 140) (v := ?_) (a' := ?_) #[true, true, true, true, true, true, true, true, true, true, true, true, true, true, true, true, true, true, true, true, true, true, true, true, true, true, true, true, true, true, true, true, true, true, true, false, false, false] rfl rfl (by kernel_rfl) (fun _ _ _ h => h) (Or.inl ⟨by rfl, ?_⟩) ?_ ?_
        rotate_left
        · intro w'
          go_simp
          with_reducible rfl
        rotate_left
        · simp only [Act.put, List.setIfInBounds_toArray, List.set_cons_zero, List.set_cons_succ, i64_w, i32_w]
          rfl
        refine last_ (i := 35) (N := some 141) #[true, true, true, true, true, true, true, true, true, true, true, true, true, true, true, true, true, true, true, true, true, true, true, true, true, true, true, true, true, true, true, true, true, true, true, true, false, false] rfl rfl (by kernel_rfl) (by decide) (fun K hK => ?_)
        refine goes_ Tryd.func26 (by kernel_rfl) rfl #[] (by rfl) rfl rfl (by first | (simp only [List.map_toArray, List.map_cons, List.map_nil]; done) | (simp only [List.map_toArray, List.map_cons, List.map_nil]; rfl) | rfl) ?_
        with_reducible refine (awake04 _).mono ?_
        rintro e w11 ⟨rfl, b11⟩
        refine ⟨_, rfl, ?_⟩
        have HB12 := Lib.hid (hHeld.1.trans (b11.mono hHeld.1.size))
        clear b11
        refine hK.out _ _ ?_
        clear hK K
        refine norm_ (a' := ?_) ?_ ?_
        rotate_left
        · show Act.put _ (some 141) _ = _
          simp only [Act.put, List.setIfInBounds_toArray, List.set_cons_zero, List.set_cons_succ, i64_w, i32_w]
          rfl
        refine pure_ (i := 36) (N := some 142) (v := ?_) (a' := ?_) #[true, true, true, true, true, true, true, true, true, true, true, true, true, true, true, true, true, true, true, true, true, true, true, true, true, true, true, true, true, true, true, true, true, true, true, true, true, false] rfl rfl (by kernel_rfl) (fun _ _ _ h => h) (Or.inl ⟨by rfl, ?_⟩) ?_ ?_
        rotate_left
        · intro w'
          go_simp
          with_reducible rfl
        rotate_left
        · simp only [Act.put, List.setIfInBounds_toArray, List.set_cons_zero, List.set_cons_succ, i64_w, i32_w]
          rfl
        refine pure_ (i := 37) (N := some 6) (v := ?_) (a' := ?_) #[true, true, true, true, true, true, true, true, true, true, true, true, true, true, true, true, true, true, true, true, true, true, true, true, true, true, true, true, true, true, true, true, true, true, true, true, true, true] rfl rfl (by kernel_rfl) (fun _ _ _ h => h) (Or.inl ⟨by rfl, ?_⟩) ?_ ?_
        rotate_left
        · intro w'
          go_simp
          with_reducible rfl
        rotate_left
        · simp only [Act.put, List.setIfInBounds_toArray, List.set_cons_zero, List.set_cons_succ, i64_w, i32_w]
          rfl
        refine done_ (by kernel_rfl) ?_
        --END R26
        go_wp2
        go_ret
        exact ⟨rfl, HD11.out.wide.trans (HB12.out.mono HD11.out.wide.size)⟩
--END WALK
theorem DiskPrefix_int (v : Value) (ps : List (List Int)) (sy tail : Int) (w : World) (h : Rs w v ps) (hs : 0 ≤ sy ∧ sy ≤ 255) (ht : -9223372036854775808 ≤ tail ∧ tail ≤ 9223372036854775807) :
    Calls Tryd.prog 5 #[v, .int .u8 sy, .int .i64 tail] w fun e w' => e = .returned (.bool true) ∧ Below w.heap.size w w' := by
  obtain ⟨n, rfl⟩ : ∃ n : Nat, sy = (n : Int) := ⟨sy.toNat, by omega⟩
  exact DiskPrefix_any v ps n tail w h (by omega) ht
end Go.Proofs.YtononoakdebjeaaDoor.Dk
