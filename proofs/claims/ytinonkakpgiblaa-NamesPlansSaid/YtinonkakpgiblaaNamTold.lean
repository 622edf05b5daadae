/- The law's told: what is planned of some outputs is taken (a walk). -/
import Derived.Test.YtinonkakpgiblaaNamGiven
namespace Go.Proofs.Ytinonkakpgiblaa.Nam
open Go.RowKit Go.Proofs.YtinonkakpgiblaaW.PrintWords Go.Proofs.YtinonkakpgiblaaW.PrintLast Go.Proofs.Ytinonkakpgiblaa.Base Go.Proofs.Ytinonkakpgiblaa.Pack Go.Maps
set_option linter.unusedVariables false
set_option linter.unusedSimpArgs false

/-- v reads as the rows l of what was found. -/
def Dz (w : World) (v : Value) (l : List DepV) : Prop := ∃ A c, v = .slice A l.length c ∧ l.length ≤ c ∧ l.length ≤ 9223372036854775807 ∧ (0 < l.length → ∃ ad, A = some ad ∧ ∀ i, i < l.length → ∃ vd, w.cell? (ad.add (i * 3)) = some (.string (l.getD i zdep).out) ∧ w.cell? (ad.add (i * 3 + 1)) = some (.int .i64 (l.getD i zdep).time) ∧ w.cell? (ad.add (i * 3 + 2)) = some vd ∧ Ss w vd (l.getD i zdep).deps)
theorem Dz.below {w w1 : World} {v : Value} {l : List DepV} (h : Dz w v l) (hb : Below w.heap.size w w1) : Dz w1 v l := by
  obtain ⟨A, c, h1, h2, h3, h4⟩ := h
  refine ⟨A, c, h1, h2, h3, fun hp => ?_⟩
  obtain ⟨ad, e, hc⟩ := h4 hp
  refine ⟨ad, e, fun i hi => ?_⟩
  obtain ⟨vd, q0, q1, q2, hs⟩ := hc i hi
  exact ⟨vd, pw_cell_below hb q0, pw_cell_below hb q1, pw_cell_below hb q2, hs.below hb⟩
theorem Dz.len {w : World} {v : Value} {l : List DepV} (h : Dz w v l) : ∃ A c, v = .slice A l.length c ∧ l.length ≤ c ∧ l.length ≤ 9223372036854775807 := by
  obtain ⟨A, c, h1, h2, h3, h4⟩ := h
  exact ⟨A, c, h1, h2, h3⟩
theorem cell_next1 {w : World} {a : Addr} {i : Nat} {u : Value} (h : w.cell? (a.add (i + 1)) = some u) : w.cell? ⟨(a.add i).block, (a.add i).off + 1, none⟩ = some u := by
  rw [← Addr.add_add a i 1] at h
  exact h
theorem cell_next2 {w : World} {a : Addr} {i : Nat} {u : Value} (h : w.cell? (a.add (i + 2)) = some u) : w.cell? ⟨(a.add i).block, (a.add i).off + 2, none⟩ = some u := by
  rw [← Addr.add_add a i 2] at h
  exact h
theorem Dz.get {w : World} {A : Option Addr} {n c : Nat} {l : List DepV} (h : Dz w (.slice A n c) l) (i : Nat) (hi : i < l.length) :
    ∃ ad vd, A = some ad ∧ w.cell? (ad.add (i * 3)) = some (.string (l.getD i zdep).out) ∧ w.cell? ⟨(ad.add (i * 3)).block, (ad.add (i * 3)).off + 1, none⟩ = some (.int .i64 (l.getD i zdep).time) ∧ w.cell? ⟨(ad.add (i * 3)).block, (ad.add (i * 3)).off + 2, none⟩ = some vd ∧ Ss w vd (l.getD i zdep).deps := by
  obtain ⟨A', c', e, h2, h3, h4⟩ := h
  injection e with e1 e2 e3
  subst e1
  obtain ⟨ad, e, hc⟩ := h4 (by omega)
  obtain ⟨vd, q0, q1, q2, hs⟩ := hc i hi
  exact ⟨ad, vd, e, q0, cell_next1 q1, cell_next2 q2, hs⟩
theorem take_at {α : Type} (l : List α) (z : α) (k : Nat) (h : k < l.length) : l.take (k + 1) = l.take k ++ [l.getD k z] ∧ l.getD k z ∈ l := by
  refine ⟨?_, ?_⟩
  · rw [List.take_add_one, List.getElem?_eq_getElem h, List.getD_eq_getElem?_getD, List.getElem?_eq_getElem h]; rfl
  · rw [List.getD_eq_getElem?_getD, List.getElem?_eq_getElem h]; exact List.getElem_mem h
theorem split_at {α : Type} (l : List α) (z : α) (k : Nat) (h : k < l.length) : l = l.take k ++ l.getD k z :: l.drop (k + 1) := by
  conv => lhs; rw [← List.take_append_drop (k + 1) l]
  rw [(take_at l z k h).1, List.append_assoc]
  rfl
/-- The book behind what was planned of some. -/
def tell (b : BookV) (d : DepV) : BookV := if planE d = 0 then toldV b d else b
def tellA (l : List DepV) : BookV := l.foldl tell book0
theorem tellA_snoc (l : List DepV) (d : DepV) : tellA (l ++ [d]) = tell (tellA l) d := by
  unfold tellA
  rw [List.foldl_append]
  rfl
theorem tell_good {b : BookV} (h : Good b) (d : DepV) : Good (tell b d) := by
  unfold tell
  split
  · rename_i he
    exact toldV_good h he
  · exact h
theorem tellA_good (l : List DepV) : Good (tellA l) := by
  have key : ∀ (l : List DepV) (b : BookV), Good b → Good (l.foldl tell b) := by
    intro l
    induction l with
    | nil => exact fun b h => h
    | cons d l ih => exact fun b h => ih _ (tell_good h d)
  exact key l _ good0
theorem takes_split {b z : BookV} {l1 l2 : List (List Int)} {x : List Int} (h : takesV b (l1 ++ x :: l2) = some z) : ∃ b1 b2, takesV b l1 = some b1 ∧ takeV b1 x = some b2 ∧ takesV b2 l2 = some z := by
  unfold takesV at h ⊢
  rw [List.foldlM_append] at h
  cases e1 : l1.foldlM takeV b with
  | none => rw [e1] at h; cases h
  | some b1 =>
    rw [e1] at h
    simp only [Option.bind_eq_bind, Option.bind_some, List.foldlM_cons] at h
    cases e2 : takeV b1 x with
    | none => rw [e2] at h; cases h
    | some b2 =>
      rw [e2] at h
      exact ⟨b1, b2, rfl, e2, h⟩
theorem takes_snoc {b b1 b2 : BookV} {l : List (List Int)} {x : List Int} (h1 : takesV b l = some b1) (h2 : takeV b1 x = some b2) : takesV b (l ++ [x]) = some b2 := by
  unfold takesV at h1 ⊢
  rw [List.foldlM_append, h1]
  simp [h2]
theorem planL_few {ns : List ByteArray} {d : DepV} : (planL ns d).length ≤ d.deps.length + 2 := by
  unfold planL
  split
  · have h := allN_len ns d
    have h2 := allN_app ns d
    rw [h2, List.length_append] at h
    simp only [List.length_append, List.length_map, List.length_singleton]
    omega
  · simp
theorem planL_short {ns : List ByteArray} {d : DepV} (hb : BriefD d) : ∀ r ∈ planL ns d, r.length ≤ 6000 := by
  intro r hr
  unfold planL at hr
  split at hr
  · rcases List.mem_append.1 hr with h | h
    · obtain ⟨s, hs, rfl⟩ := List.mem_map.1 h
      unfold nameRec
      rw [List.length_cons, textBytes_length]
      rcases freshN_sub ns d s hs with rfl | h
      · have := hb.out; omega
      · have := hb.deps s h; omega
    · rw [List.mem_singleton.1 h]
      unfold outRec
      simp only [List.length_cons, List.length_append, leBytes_length, idsB_length]
      have := hb.few
      omega
  · cases hr
/-- A row of records of the call's own is read. -/
theorem rs_row {w : World} {base : Nat} {ok : Nat → Prop} {v : Value} {rs : List (List Int)} (h : kr.R 46 w base ok v rs) : Rs w v rs := by
  obtain ⟨A, c, rfl, hc, hr⟩ := Kd.R_reads h
  refine ⟨A, c, rfl, hc, hr.2.1, fun hp => ?_⟩
  obtain ⟨ad, e, hcell⟩ := hr.2.2 hp
  refine ⟨ad, e, fun i hi => ?_⟩
  obtain ⟨cs, _, hk, hcs⟩ := hcell i _ (List.getElem?_eq_getElem hi)
  obtain ⟨A', c', rfl, hc', hC⟩ := hk
  refine ⟨_, by have := hcs 0 _ rfl; rwa [show i * kr.sz + 0 = i from by show i * 1 + 0 = i; omega] at this, ?_⟩
  rw [List.getD_eq_getElem?_getD, List.getElem?_eq_getElem hi]
  exact ⟨A', c', rfl, hc', Kd.reads_of_C (enc := Value.int .u8) (d := (0 : Int)) (h1 := fun _ => rfl) hC⟩
theorem rs_get {w : World} {A : Option Addr} {n c : Nat} {rs : List (List Int)} (h : Rs w (.slice A n c) rs) (i : Nat) (hi : i < rs.length) : ∃ ad u, A = some ad ∧ w.cell? (ad.add i) = some u ∧ Bs w u (rs.getD i []) := by
  obtain ⟨A', c', e, _, _, h4⟩ := h
  injection e with e1 e2 e3
  subst e1
  obtain ⟨ad, e, hc⟩ := h4 (by omega)
  obtain ⟨u, q, hb⟩ := hc i hi
  exact ⟨ad, u, e, q, hb⟩
--BEGIN WALK
set_option maxRecDepth 100000 in
set_option maxHeartbeats 4000000 in
theorem told_any (v : Value) (l : List DepV) (w : World) (h : Dz w v l) (hfit : ∀ d ∈ l, FitD d) (hbr : ∀ d ∈ l, BriefD d) (hl : l.length ≤ 30) :
    Calls Try.prog 10 #[v] w fun e w' => ∃ g S, e = .returned (.tuple #[.pointer (some ⟨g, 0, none⟩), .bool true]) ∧ Bk S (60 * l.length) w' g (tellA l) ∧ (∀ k, S k → w.heap.size ≤ k) ∧ Below w.heap.size w w' := by
  obtain ⟨A, c, rfl, hc, hm⟩ := h.len
  have HL := Lib.hid h
  have HFIT := Lib.hid hfit
  have HBR := Lib.hid hbr
  clear h hfit hbr
  obtain ⟨n, hn⟩ : ∃ n, n = l.length := ⟨_, rfl⟩
  rw [← hn] at hc hm HL hl ⊢
  have HN := Lib.hid hn
  clear hn
  go_enter Try.func10, Try.ntmps10
  go_wp2_with fail
  refine (bnew_any _).mono ?_
  rintro e w1 ⟨g, rfl, hk, hb1⟩
  have HK1 := Lib.hid hk
  have HB1 := Lib.hid hb1
  clear hk hb1
  go_wp2
  go_loopw [5] (fun i wr => ∃ (k : Nat) (S : Nat → Prop), k ≤ n ∧ i = .int .i64 k ∧ Hid (Bk S (60 * k) wr g (tellA (l.take k))) ∧ Hid (∀ j, S j → w.heap.size ≤ j) ∧ Hid (Below w.heap.size w wr)) (fun i _ => n - (intOf i).toNat)
  case atStart => exact ⟨0, _, by omega, rfl, by rw [List.take_zero]; exact HK1.out, fun j (hj : w.heap.size ≤ j ∧ j < w1.heap.size) => hj.1, HB1.out⟩
  case round =>
    obtain ⟨k, S, hk, rfl, HK, HS, HB⟩ := hrel
    by_cases l1 : k < n
    · have hkl : k < l.length := by rw [← HN.out]; exact l1
      obtain ⟨ad, vd, e1, q0, q1, q2, hs⟩ := (HL.out.below HB.out).get k hkl
      subst e1
      obtain ⟨hTK, hmem⟩ := take_at l zdep k hkl
      have HTK := Lib.hid hTK
      have HFD := Lib.hid (HFIT.out _ hmem)
      have HBD := Lib.hid (HBR.out _ hmem)
      have HSD := Lib.hid hs
      clear hTK hmem hs hkl
      generalize l.getD k zdep = d at q0 q1 q2 HTK HFD HBD HSD
      obtain ⟨Ad, cd, ev, _, _⟩ := ss_len HSD.out
      subst ev
      obtain ⟨nd, hnd⟩ : ∃ nd, nd = d.deps.length := ⟨_, rfl⟩
      rw [← hnd] at HSD q2
      have HDI : Hid (DepIs wr (.agg #[.string d.out, .int .i64 d.time, .slice Ad nd cd]) d) := ⟨_, rfl, HSD.out⟩
      clear hnd
      have hkn : k ≤ 30 := by omega
      go_wp2_with fail
      refine (given_any _ d _ HDI.out (by have := HBD.out.few; omega)).mono ?_
      rintro e w2 ⟨v2, rfl, hd2, hb2⟩
      have HD2 := Lib.hid hd2
      have HB2 := Lib.hid hb2
      have HK2 := Lib.hid (HK.out.below hb2)
      clear hd2 hb2 q0 q1 q2
      go_wp2_with fail
      refine (plan_any S _ g _ _ d _ HK2.out HD2.out HFD.out (by omega) (by have := HBD.out.few; omega)).mono ?_
      rintro e w3 ⟨vo, rfl, hr3⟩
      have HK3 := Lib.hid (HK2.out.below hr3.below)
      have HB3 := Lib.hid (HB.out.trans ((HB2.out.trans (hr3.below.mono HB2.out.size)).mono HB.out.size))
      have HR3 := Lib.hid hr3.row
      obtain ⟨Ao, no, co, eo, hno⟩ := hr3.slice
      subst eo
      have HNO := Lib.hid hno
      have hno52 : no ≤ 52 := by rw [hno]; have h1 := planL_few (ns := (tellA (l.take k)).ns) (d := d); have := HBD.out.few; omega
      have HS23 : Hid (w2.heap.size ≤ w3.heap.size) := hr3.below.size
      have HSW : Hid (∀ j, S j → j < w2.heap.size) := HK2.out.lt
      clear hr3 hno HDI HSD HD2
      by_cases hpe : planE d = 0
      case neg =>
        have hne : (planE d != 0) = true := by rw [bne_iff_ne]; exact hpe
        have HT : Hid (tellA (l.take (k + 1)) = tellA (l.take k)) := by show _ = _; rw [HTK.out, tellA_snoc]; exact if_neg hpe
        clear hpe
        go_wp2
        go_roundw
        case rel => exact ⟨k + 1, S, by omega, by go_num, by rw [HT.out]; exact HK3.out.more (by omega), HS.out, HB3.out⟩
        case measure => simp [intOf]; omega
      have hne : (planE d != 0) = false := by rw [bne_eq_false_iff_eq]; exact hpe
      have HT : Hid (tellA (l.take (k + 1)) = toldV (tellA (l.take k)) d) := by show _ = _; rw [HTK.out, tellA_snoc]; exact if_pos hpe
      have HTP : Hid (takesV (tellA (l.take k)) (planL (tellA (l.take k)).ns d) = some (toldV (tellA (l.take k)) d)) := takes_plan _ d (tellA_good _) hpe (by have := HK3.out.few; omega)
      have HRB : Hid (∀ r ∈ planL (tellA (l.take k)).ns d, Bytes r ∧ r.length ≤ 6000) := fun r hr => ⟨planL_bytes _ _ r hr, planL_short HBD.out r hr⟩
      have hpe0 : planE d = 0 := hpe
      clear hpe
      obtain ⟨wo, hwo⟩ : ∃ wo, wo = w3 := ⟨_, rfl⟩
      subst hwo
      generalize tellA (l.take k) = b at HK3 HTP HRB HNO HT HR3
      generalize planL b.ns d = recs at HTP HRB HNO HR3
      clear HK HK2
      rw [hpe0] at hne
      rw [hpe0]
      clear hpe0 hne
      go_wp2
      --S1
      go_loopw [8] (fun i wr => ∃ (j : Nat) (T : Nat → Prop) (bj : BookV), j ≤ no ∧ i = .int .i64 j ∧ Hid (takesV b (recs.take j) = some bj) ∧ Hid (Bk T (60 * k + j) wr g bj) ∧ Hid (∀ q, T q → w.heap.size ≤ q ∧ (q < w2.heap.size ∨ wo.heap.size ≤ q)) ∧ Hid (∀ q, w2.heap.size ≤ q → q < wo.heap.size → wr.heap[q]? = wo.heap[q]?) ∧ Hid (Below w.heap.size w wr) ∧ Hid (wo.heap.size ≤ wr.heap.size)) (fun i _ => no - (intOf i).toNat)
      case atStart => exact ⟨0, S, b, by omega, rfl, by rw [List.take_zero]; rfl, HK3.out, fun q hq => ⟨HS.out q hq, .inl (HSW.out q hq)⟩, fun q _ _ => rfl, HB3.out, Nat.le_refl _⟩
      case round =>
        obtain ⟨j, T, bj, hj, rfl, HJ, HKJ, HTJ, HQJ, HBJ, HZJ⟩ := hrel
        by_cases l2 : j < no
        · have hjl : j < recs.length := by rw [← HNO.out]; exact l2
          have hrow : kr.R 46 wr w2.heap.size (fun _ => True) (.slice Ao no co) recs := Kd.R_mono (Kd.R_move (Kd.R_bound HR3.out) (fun q hq => HQJ.out q hq.2.1 hq.2.2.1)) (fun _ _ => trivial)
          obtain ⟨ar, ur, er, q0, hbs⟩ := rs_get (rs_row hrow) j hjl
          subst er
          obtain ⟨hTJ, hmj⟩ := take_at recs [] j hjl
          have hsp := split_at recs [] j hjl
          have htp := HTP.out
          rw [hsp] at htp
          obtain ⟨b1, b2, t1, t2, _⟩ := takes_split htp
          obtain rfl : bj = b1 := by rw [HJ.out] at t1; injection t1
          have hrb := HRB.out _ hmj
          have t3 := takes_snoc HJ.out t2
          rw [← hTJ] at t3
          have HT3 := Lib.hid t3
          have HRBJ := Lib.hid hrb.1
          have hrl := hrb.2
          have HBS := Lib.hid hbs
          have HT2 := Lib.hid t2
          clear hrow hTJ hmj hsp htp t1 t2 t3 hrb hbs hjl
          generalize recs.getD j [] = rec_ at HT2 HT3 HRBJ hrl HBS
          obtain ⟨Ar, cr, ev, _, _⟩ := HBS.out.len
          subst ev
          obtain ⟨nr, hnr⟩ : ∃ nr, nr = rec_.length := ⟨_, rfl⟩
          rw [← hnr] at HBS q0
          clear hnr
          go_wp2_with fail
          refine (take_any T _ g bj _ rec_ _ HKJ.out HBS.out HRBJ.out (by omega) (by omega)).mono ?_
          rintro e w5 ⟨rfl, hk5, hf5⟩
          have hE : takeE (takeV bj rec_) = 0 := by rw [HT2.out]; rfl
          have hG : (takeV bj rec_).getD bj = b2 := by rw [HT2.out]; rfl
          rw [hG] at hk5
          rw [hE]
          have HK5 := Lib.hid hk5
          have HF5 := Lib.hid hf5
          clear hk5 hf5 hE hG q0
          go_wp2
          --S2
          go_roundw
          case rel =>
            refine ⟨j + 1, _, b2, by omega, by go_num, HT3.out, HK5.out, ?_, ?_, ?_, Nat.le_trans HZJ.out HF5.out.size⟩
            · rintro q (hq | hq)
              · exact HTJ.out q hq
              · have h1 := HBJ.out.size
                have h2 := hq.1
                refine ⟨by omega, ?_⟩
                rcases Nat.lt_or_ge q wo.heap.size with h | h
                · exfalso
                  have h3 := HZJ.out
                  omega
                · exact .inr h
            · intro q h1 h2
              have h3 := HQJ.out q h1 h2
              have hlt : q < wr.heap.size := by
                rw [Array.getElem?_eq_getElem h2] at h3
                exact (Array.getElem?_eq_some_iff.1 h3).1
              rw [HF5.out.block q hlt (fun hT => by rcases (HTJ.out q hT).2 with h | h <;> omega)]
              exact h3
            · exact HBJ.out.trans (HF5.out.below (fun q hq => (HTJ.out q hq).1) HBJ.out.size)
          case measure => simp [intOf]; omega
        · have hj2 : j = no := by omega
          have hJ := HJ.out
          rw [hj2, HNO.out, List.take_length, HTP.out] at hJ
          injection hJ with hJ
          subst hJ
          have HKE : Hid (Bk T (60 * (k + 1)) wr g (tellA (l.take (k + 1)))) := by show Bk _ _ _ _ _; rw [HT.out]; exact HKJ.out.more (by omega)
          clear hj2 HJ
          go_wp2
          --S3
          go_roundw
          case rel => exact ⟨k + 1, T, by omega, by go_num, HKE.out, fun q hq => (HTJ.out q hq).1, HBJ.out⟩
          case measure => simp [intOf]; omega
    · have hk2 : k = n := by omega
      have hke := HK.out
      rw [hk2, HN.out, List.take_length, ← HN.out] at hke
      have HKE := Lib.hid hke
      clear hk2 hke
      go_wp2
      go_ret2
      exact ⟨g, S, rfl, HKE.out, HS.out, HB.out⟩
--END WALK
end Go.Proofs.Ytinonkakpgiblaa.Nam
