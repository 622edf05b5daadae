/- The reference's Take (walk). -/
import Derived.Test.YtinonkakpgiblaaNamPut
import Derived.Test.YtinonkakpgiblaaNamTake
namespace Go.Proofs.Ytinonkakpgiblaa.Nam
open Go.RowKit Go.Proofs.YtinonkakpgiblaaW.PrintWords Go.Proofs.YtinonkakpgiblaaW.PrintLast Go.Proofs.Ytinonkakpgiblaa.Base Go.Proofs.Ytinonkakpgiblaa.Pack Go.Maps
set_option linter.unusedVariables false
set_option linter.unusedSimpArgs false

theorem putV_len (l : List DepV) (d : DepV) : (putV l d).length ≤ l.length + 1 := by
  unfold putV
  split
  · rw [List.length_set]; omega
  · rw [List.length_append, List.length_take, List.length_cons, List.length_drop]; omega
theorem bs_head {w : World} {v : Value} {k : Int} {rest : List Int} (h : Bs w v (k :: rest)) : ∃ ad c, v = .slice (some ad) (rest.length + 1) c ∧ w.cell? ad = some (.int .u8 k) ∧ rest.length + 1 ≤ 9223372036854775807 := by
  obtain ⟨A, c, rfl, hc, hm⟩ := h.len
  obtain ⟨_, _, e, _, hr⟩ := h
  injection e with e1 e2 e3
  subst e1
  obtain ⟨ad, ea, hq⟩ := at_nat hr 0 (by simp)
  subst ea
  have h0 : ad.add 0 = ad := by simp [Addr.add]
  rw [h0] at hq
  exact ⟨ad, c, rfl, hq, by simpa using hm⟩
set_option maxRecDepth 100000 in
set_option maxHeartbeats 1000000 in
theorem rtake_empty (g : Nat) (v : Value) (w : World) (hv : Bs w v []) :
    Calls Try.prog 24 #[.pointer (some ⟨g, 0, none⟩), v] w fun e w' => e = .returned (.bool false) ∧ w' = w := by
  obtain ⟨A, c, rfl, _⟩ := hv.len
  go_enter Try.func24, Try.ntmps24
  go_wp2
  go_ret
  exact ⟨rfl, rfl⟩
set_option maxRecDepth 100000 in
set_option maxHeartbeats 1000000 in
theorem rtake_odd (g : Nat) (v : Value) (k : Int) (rest : List Int) (w : World) (hv : Bs w v (k :: rest)) (h1 : k ≠ 1) (h2 : k ≠ 2) :
    Calls Try.prog 24 #[.pointer (some ⟨g, 0, none⟩), v] w fun e w' => e = .returned (.bool false) ∧ w' = w := by
  obtain ⟨ad, c, rfl, hq, hm⟩ := bs_head hv
  have b1 : (k != 1) = true := by rw [bne_iff_ne]; exact h1
  have b2 : (k != 2) = true := by rw [bne_iff_ne]; exact h2
  clear hv
  go_enter Try.func24, Try.ntmps24
  go_wp2
  go_ret
  exact ⟨rfl, rfl⟩
set_option maxRecDepth 100000 in
set_option maxHeartbeats 4000000 in
theorem rtake_name (T : Nat → Prop) (g : Nat) (b : BookV) (L : List DepV) (v : Value) (rest : List Int) (w : World) (h : RBk T w g b.ns L) (hv : Bs w v (1 :: rest)) (hb : Bytes (1 :: rest)) (hn : b.ns.length ≤ 1000000) (hl : rest.length ≤ 90000) :
    Calls Try.prog 24 #[.pointer (some ⟨g, 0, none⟩), v] w fun e w' => e = .returned (.bool (takeName b (rest, false)).isSome) ∧ RBk (Sn T w.heap.size w') w' g ((takeName b (rest, false)).getD b).ns L ∧ Foot T w w' := by
  obtain ⟨ad, c, rfl, hq, hm⟩ := bs_head hv
  obtain ⟨n, hn1⟩ : ∃ n, n = rest.length + 1 := ⟨_, rfl⟩
  rw [← hn1] at hv ⊢
  have hn2 : 0 < n := by omega
  obtain ⟨x, hx⟩ : ∃ x, w.heap.size = x := ⟨_, rfl⟩
  obtain ⟨Wb, hWb⟩ : ∃ Wb, Wb = w.alloc (.cells #[.slice (some ad) n c, .int .i64 1, .bool false] 96) := ⟨_, rfl⟩
  have hb0 : Below w.heap.size w Wb := by rw [hWb]; exact below_alloc (Below.refl _ _) _
  have HR : Hid (RRa w Wb x (1 :: rest) (rest, false)) := ⟨1, ⟨⟨_, by rw [hWb, ← hx]; exact blk_new w _, hv⟩, hb0, Nat.le_of_eq hx, by simp⟩, fun _ => rfl, fun h => by cases h⟩
  have HB0 := Lib.hid hb0
  have HX := Lib.hid hx
  have HWB := Lib.hid hWb
  have HBK := Lib.hid h
  have HBY := Lib.hid hb
  have q1 : Wb.cell? ad = some (.int .u8 1) := pw_cell_below hb0 hq
  have HL9 : Hid ((1 :: rest).length ≤ 9223372036854775807) := by show _ ≤ _; simp only [List.length_cons]; omega
  clear h hv hb hb0 hWb hn1
  go_enter Try.func24, Try.ntmps24
  go_upto_region 4 with (fail)
  rw [← HWB.out]
  try rw [hx]
  clear hx
  go_wp2_with fail
  clear q1
  refine (rreft_g w x (1 :: rest) (rest, false) _ HR.out HL9.out HBY.out).mono ?_
  rintro e w1 ⟨rfl, hr1, ho1⟩
  have HR1 := Lib.hid hr1
  have HB1 := Lib.hid hr1.below
  obtain ⟨vr, at1, hc1⟩ := hr1.cell
  have q2 := blk_cell hc1 2
  have HTS : Hid ((txt (rest, false)).size ≤ 65535) := (txt_size (rest, false) (fun z hz => HBY.out z (List.mem_cons_of_mem _ hz))).2
  have HK1 : Hid (RBk T w1 g b.ns L) := HBK.out.below hr1.below
  have XC1 := Lib.hid hc1
  clear hr1 ho1 hc1
  obtain ⟨s, hs⟩ : ∃ s, s = txt (rest, false) := ⟨_, rfl⟩
  have HTN : Hid (takeName b (rest, false) = if s ∈ b.ns ∨ (txtS (rest, false)).2 = true ∨ 0 < (txtS (rest, false)).1.length then none else some ⟨b.ns ++ [s], b.os⟩) := by show _ = _; rw [hs]; rfl
  rw [← hs] at HTS ⊢
  have HXB : Hid (w.heap.size ≤ x) := Nat.le_of_eq HX.out
  clear hs
  generalize txtS (rest, false) = s2 at HR1 q2 XC1 HTN
  obtain ⟨rs, bad⟩ := s2
  simp only at q2 XC1 HTN
  have HNO : Hid (∀ w', Below w.heap.size w w' → takeName b (rest, false) = none → RBk (Sn T w.heap.size w') w' g ((takeName b (rest, false)).getD b).ns L ∧ Foot T w w') := fun w' hb hn => by
    rw [hn]
    refine ⟨(HBK.out.below hb).mono (fun k hk => .inl hk) ?_, Foot.of_below hb⟩
    rintro k (hk | hk)
    · exact Nat.lt_of_lt_of_le (HBK.out.lt k hk) hb.size
    · exact hk.2
  cases bad with
  | true =>
    have HE : Hid (takeName b (rest, false) = none) := by show _ = _; rw [HTN.out, if_pos (.inr (.inl rfl))]
    clear HTN
    go_wp2
    go_ret
    refine ⟨?_, HNO.out _ HB1.out HE.out⟩
    rw [HE.out]
    rfl
  | false =>
    go_wp2_with fail
    refine (rleft_g w x (1 :: rest) (rs, false) _ HR1.out HL9.out).mono ?_
    rintro e w2 ⟨rfl, hd⟩
    have hb12 : Below w1.heap.size w1 w2 := hd.below
    have HB2 := Lib.hid (HB1.out.trans (hb12.mono HB1.out.size))
    have HK2 := Lib.hid (HK1.out.below hb12)
    clear hd hb12 q2
    simp only
    by_cases hrs : 0 < rs.length
    · have HE : Hid (takeName b (rest, false) = none) := by show _ = _; rw [HTN.out, if_pos (.inr (.inr hrs))]
      clear HTN
      go_wp2
      go_ret
      refine ⟨?_, HNO.out _ HB2.out HE.out⟩
      rw [HE.out]
      rfl
    · have hz : rs.length = 0 := by omega
      rw [hz]
      clear hrs
      go_wp2_with fail
      refine (at_any T g b.ns L s _ HK2.out).mono ?_
      rintro e w3 ⟨⟨r, rfl, h1, h2⟩, he⟩
      subst he
      by_cases hin : s ∈ b.ns
      · have h0 := (h1 hin).1
        have HE : Hid (takeName b (rest, false) = none) := by show _ = _; rw [HTN.out, if_pos (.inl hin)]
        clear HTN h1 h2 hz
        go_wp2
        go_ret
        refine ⟨?_, HNO.out _ HB2.out HE.out⟩
        rw [HE.out]
        rfl
      · have h0 := h2 hin
        subst h0
        have HE : Hid (takeName b (rest, false) = some ⟨b.ns ++ [s], b.os⟩) := by
          show _ = _
          rw [HTN.out, if_neg]
          rintro (h | h | h)
          · exact hin h
          · cases h
          · omega
        clear HTN h1 h2 hz HNO
        obtain ⟨hlt, htg, vn, vl, hg, hN, hLr⟩ := HK2.out
        obtain ⟨An, cn, en⟩ := Kd.R_slice hN
        obtain ⟨nn, hnn⟩ : ∃ nn, nn = b.ns.length := ⟨_, rfl⟩
        rw [← hnn] at en
        subst en
        have c0 : w3.cell? ⟨g, 0, none⟩ = some (.slice An nn cn) := blk_cell hg 0
        have XG := Lib.hid hg
        have HNr := Lib.hid hN
        have HLr := Lib.hid hLr
        have HTG := Lib.hid htg
        clear hlt hg hN hLr hnn htg
        go_wp2_with (at_builtin; refine Held.of ?_)
        refine Held.out (Kd.R_append Kd.string 0 rfl (.tmp 56) (.tmp 58) 22 9 (.string ⟨#[]⟩) 16 rfl Try.underlying22 (by kernel_rfl) rfl (by decide) (by decide) _ b.ns s [.string s] (fun k => T k ∨ w.heap.size ≤ k) (fun _ => False) rfl rfl rfl (fun _ h => h.elim) (fun k hk => .inr (Nat.le_trans HB2.out.size hk)) (Kd.R_mono HNr.out fun _ h => .inl h) (Below.refl _ _) (Nat.zero_le _) (by omega) ?_)
        intro v4 w4 r4 _ g4 hat
        obtain ⟨A4, c4, e4⟩ := Kd.R_slice r4
        obtain ⟨n4, hn4⟩ : ∃ n4, n4 = (b.ns ++ [s]).length := ⟨_, rfl⟩
        rw [← hn4] at e4
        subst e4
        have HR4 := Lib.hid r4
        have hty := Kd.R_typed HNr.out
        have XG4 : Hid (w4.heap[g]? = some (.cells #[.slice An nn cn, vl] 55 (0, 0))) := blk_grown XG.out g4 (Kd.R_ne HNr.out XG.out (by decide))
        have HL4 := Lib.hid (Kd.R_after HLr.out g4 hat)
        have HF4 : Hid (Foot T w w4) := (Foot.of_below HB2.out).trans (Foot.of_grown g4 (fun k e => HNr.out.1 k e))
        have f4 := blk_frozen XG4.out 0
        have k4 := blk_cell XG4.out 0
        clear r4 g4 hn4 hty c0 hat
        go_wp2
        go_ret
        have hfoot := HF4.out.setCell HTG.out 0 (.slice A4 n4 c4)
        have hsz := hfoot.size
        refine ⟨by rw [HE.out]; rfl, ?_, hfoot⟩
        rw [HE.out]
        refine ⟨?_, .inl HTG.out, .slice A4 n4 c4, vl, blk_set XG4.out 0 _, ?_, ?_⟩
        · rintro k (hk | hk)
          · exact Nat.lt_of_lt_of_le (HBK.out.lt k hk) hsz
          · exact hk.2
        · exact Kd.R_mono (Kd.R_bound (Kd.R_set HR4.out XG4.out (by decide) 0 _)) (fun k hk => hk.1.elim .inl fun h => .inr ⟨h, hk.2.2.1⟩)
        · exact Kd.R_mono (Kd.R_set HL4.out XG4.out (by decide) 0 _) (fun k hk => ⟨.inl hk.1, hk.2⟩)
/-- An output's record under way. -/
structure Rx (x h : Nat) (data : List Int) (w0 w : World) (s : RS) (nm : ByteArray) (tm : Int) (v : Value) (l : List ByteArray) : Prop where
  rd : RRa w0 w x data s
  fd : w.heap[h]? = some (.cells #[.string nm, .int .i64 tm, v] 24 (0, 0))
  row : Kd.string.R 9 w 0 (fun k => w0.heap.size ≤ k) v l
section
variable {x h : Nat} {data : List Int} {w0 w w1 : World} {s s' : RS} {nm : ByteArray} {tm : Int} {v v1 : Value} {l l1 : List ByteArray}
theorem Rx.op (k : Rx x h data w0 w s nm tm v l) (hr : RRa w0 w1 x data s') (ho : Only x w w1) : Rx x h data w0 w1 s' nm tm v l := by
  obtain ⟨vr, ar, hc⟩ := k.rd.cell
  refine ⟨hr, (ho.block h (blk_lt k.fd) ?_).trans k.fd, ?_⟩
  · exact blk_ne k.fd hc (by decide)
  · exact Kd.R_mono (Kd.R_step (Kd.R_types k.row hc (by decide)) (fun i hi hl => ho.block i hl hi.2)) (fun _ hk => hk.1)
theorem Rx.drew (k : Rx x h data w0 w s nm tm v l) : Rx x h data w0 w.drew s nm tm v l := ⟨k.rd.move (Below.drew k.rd.below) rfl, k.fd, Kd.R_step k.row (fun _ _ _ => rfl)⟩
theorem Rx.app (k : Rx x h data w0 w s nm tm v l) (hh : w0.heap.size ≤ h) (r1 : Kd.string.R 9 w1 0 (fun k => w0.heap.size ≤ k) v1 l1) (g1 : w.grownBy w1 v.ownBlock) :
    w1.heap[h]? = some (.cells #[.string nm, .int .i64 tm, v] 24 (0, 0)) ∧ Rx x h data w0 (w1.setCell ⟨h, 2, none⟩ v1) s nm tm v1 l1 := by
  obtain ⟨vr, ar, hc⟩ := k.rd.cell
  have e1 := blk_grown k.fd g1 (Kd.R_ne k.row k.fd (by decide))
  have e2 := blk_grown hc g1 (Kd.R_ne k.row hc (by decide))
  have hxh : x ≠ h := blk_ne hc k.fd (by decide)
  have hb : Below w0.heap.size w0 w1 := k.rd.below.grown g1 k.rd.below.size (fun q hq => k.row.1 q hq)
  refine ⟨e1, k.rd.move (hb.setCell hh _) ?_, blk_set e1 2 v1, Kd.R_set r1 e1 (by decide) 2 v1⟩
  rw [show (w1.setCell ⟨h, 2, none⟩ v1).heap[x]? = w1.heap[x]? from Below.heap_setCell _ _ _ _ hxh, e2, hc]
end
--BEGIN WALK
set_option maxRecDepth 100000 in
set_option maxHeartbeats 4000000 in
theorem rtake_out (T : Nat → Prop) (g : Nat) (b : BookV) (L : List DepV) (v : Value) (rest : List Int) (w : World) (h : RBk T w g b.ns L) (hA : AllOf b L) (hG : Good b) (hv : Bs w v (2 :: rest)) (hb : Bytes (2 :: rest)) (hn : b.ns.length ≤ 1000000) (hLl : L.length ≤ 1000000) (hl : rest.length ≤ 90000) :
    Calls Try.prog 24 #[.pointer (some ⟨g, 0, none⟩), v] w fun e w' => e = .returned (.bool (takeOut b (rest, false)).isSome) ∧ (∃ L', RBk (Sn T w.heap.size w') w' g ((takeOut b (rest, false)).getD b).ns L' ∧ AllOf ((takeOut b (rest, false)).getD b) L' ∧ L'.length ≤ L.length + 1) ∧ Foot T w w' := by
  obtain ⟨ad, c, rfl, hq, hm⟩ := bs_head hv
  obtain ⟨n, hn1⟩ : ∃ n, n = rest.length + 1 := ⟨_, rfl⟩
  rw [← hn1] at hv ⊢
  have hn2 : 0 < n := by omega
  obtain ⟨x, hx⟩ : ∃ x, w.heap.size = x := ⟨_, rfl⟩
  obtain ⟨Wb, hWb⟩ : ∃ Wb, Wb = w.alloc (.cells #[.slice (some ad) n c, .int .i64 1, .bool false] 96) := ⟨_, rfl⟩
  have hb0 : Below w.heap.size w Wb := by rw [hWb]; exact below_alloc (Below.refl _ _) _
  have HR0 : Hid (RRa w Wb x (2 :: rest) (rest, false)) := ⟨1, ⟨⟨_, by rw [hWb, ← hx]; exact blk_new w _, hv⟩, hb0, Nat.le_of_eq hx, by simp⟩, fun _ => rfl, fun h => by cases h⟩
  have HX := Lib.hid hx
  have HWB := Lib.hid hWb
  have HBK := Lib.hid h
  have HBY := Lib.hid hb
  have HA := Lib.hid hA
  have HG := Lib.hid hG
  have HLL := Lib.hid hLl
  have q1 : Wb.cell? ad = some (.int .u8 2) := pw_cell_below hb0 hq
  have HL9 : Hid ((2 :: rest).length ≤ 9223372036854775807) := by show _ ≤ _; simp only [List.length_cons]; omega
  have hbr : Bytes (rest, false).1 := fun z hz => hb z (List.mem_cons_of_mem _ hz)
  have r0 := num4_range hbr
  have r1 := num_range (numS_bytes (m := 4) hbr) (show 8 ≤ 8 by omega)
  have r2 := num4_range (numS_bytes (m := 8) (numS_bytes (m := 4) hbr))
  obtain ⟨own, hown⟩ : ∃ own : Nat, num 4 (rest, false) = (own : Int) := ⟨_, (Int.toNat_of_nonneg r0.1).symm⟩
  obtain ⟨time, htime⟩ : ∃ time : Nat, num 8 (numS 4 (rest, false)) = (time : Int) := ⟨_, (Int.toNat_of_nonneg r1.1).symm⟩
  obtain ⟨many, hmany⟩ : ∃ many : Nat, num 4 (numS 8 (numS 4 (rest, false))) = (many : Int) := ⟨_, (Int.toNat_of_nonneg r2.1).symm⟩
  rw [hown] at r0
  rw [htime] at r1
  rw [hmany] at r2
  obtain ⟨sR, hsR⟩ : ∃ sR, sR = oRest (rest, false) := ⟨_, rfl⟩
  have hRB : Bytes sR.1 := by rw [hsR]; exact numS_bytes (numS_bytes (numS_bytes hbr))
  have HRB := Lib.hid hRB
  have hob : oBad b (rest, false) ↔ (sR.2 = true ∨ b.ns.length ≤ own ∨ 4611686018427387904 ≤ (time : Int) ∨ sR.1.length ≠ 4 * many) := by
    have e1 : oOwn (rest, false) = own := by unfold oOwn; rw [hown]; rfl
    have e2 : oTime (rest, false) = (time : Int) := htime
    have e3 : oMany (rest, false) = many := by unfold oMany; rw [hmany]; rfl
    unfold oBad
    rw [e1, e2, e3, ← hsR]
  have HOB : Hid ((sR.2 = true ∨ b.ns.length ≤ own ∨ 4611686018427387904 ≤ (time : Int) ∨ sR.1.length ≠ 4 * many) → takeOut b (rest, false) = none) := fun hc => by
    unfold takeOut
    rw [if_pos (hob.2 hc)]
  have HOG : Hid (¬ (sR.2 = true ∨ b.ns.length ≤ own ∨ 4611686018427387904 ≤ (time : Int) ∨ sR.1.length ≠ 4 * many) → takeOut b (rest, false) = if ∀ n ∈ depL many sR, n.toNat < b.ns.length then some ⟨b.ns, putO b.os own ⟨(time : Int), (depL many sR).map Int.toNat⟩⟩ else none) := fun hc => by
    have e1 : oOwn (rest, false) = own := by unfold oOwn; rw [hown]; rfl
    have e2 : oTime (rest, false) = (time : Int) := htime
    have e3 : oMany (rest, false) = many := by unfold oMany; rw [hmany]; rfl
    have e4 : oDeps (rest, false) = depL many sR := by unfold oDeps; rw [e3, hsR]
    unfold takeOut
    rw [if_neg (fun h => hc (hob.1 h)), e1, e2, e4]
  have HNO : Hid (∀ w', Below w.heap.size w w' → takeOut b (rest, false) = none → (∃ L', RBk (Sn T w.heap.size w') w' g ((takeOut b (rest, false)).getD b).ns L' ∧ AllOf ((takeOut b (rest, false)).getD b) L' ∧ L'.length ≤ L.length + 1) ∧ Foot T w w') := fun w' hb hn => by
    rw [hn]
    refine ⟨⟨L, (HBK.out.below hb).mono (fun k hk => .inl hk) ?_, HA.out, Nat.le_succ _⟩, Foot.of_below hb⟩
    rintro k (hk | hk)
    · exact Nat.lt_of_lt_of_le (HBK.out.lt k hk) hb.size
    · exact hk.2
  have HOWN := Lib.hid hown
  have HTIME := Lib.hid htime
  have HMANY := Lib.hid hmany
  have HSR := Lib.hid hsR
  clear h hv hb hb0 hWb hn1 hA hG hLl hbr hown htime hmany hsR hRB hob
  go_enter Try.func24, Try.ntmps24
  go_upto_region 4 with (fail)
  rw [← HWB.out]
  try rw [hx]
  clear hx
  go_wp2_with fail
  clear q1
  --S1
  refine (rnum_g w x (2 :: rest) (rest, false) _ 4 HR0.out HL9.out (by omega) HBY.out).mono ?_
  rintro e w1 ⟨rfl, hr, ho⟩
  have HR1 : Hid (RRa w w1 x (2 :: rest) (numS 4 (rest, false))) := hr
  clear hr ho
  rw [HOWN.out]
  go_wp2_with fail
  refine (rnum_g w x (2 :: rest) (numS 4 (rest, false)) _ 8 HR1.out HL9.out (by omega) HBY.out).mono ?_
  rintro e w2 ⟨rfl, hr, ho⟩
  have HR2 : Hid (RRa w w2 x (2 :: rest) (numS 8 (numS 4 (rest, false)))) := hr
  clear hr ho
  rw [HTIME.out]
  go_wp2_with fail
  refine (rnum_g w x (2 :: rest) (numS 8 (numS 4 (rest, false))) _ 4 HR2.out HL9.out (by omega) HBY.out).mono ?_
  rintro e w3 ⟨rfl, hr, ho⟩
  have HR3 : Hid (RRa w w3 x (2 :: rest) (oRest (rest, false))) := hr
  clear hr ho
  rw [HMANY.out]
  rw [← HSR.out] at HR3
  obtain ⟨rR, bR⟩ := sR
  have HB3 := Lib.hid HR3.out.below
  obtain ⟨vr, at3, hc3⟩ := HR3.out.cell
  have q2 : w3.cell? ⟨x, 2, none⟩ = some (.bool bR) := blk_cell hc3 2
  have HK3 := Lib.hid (HBK.out.below HB3.out)
  obtain ⟨_, htg, vn, vl, hg, hN, _⟩ := HK3.out
  obtain ⟨An, cn, en⟩ := Kd.R_slice hN
  obtain ⟨nn, hnn⟩ : ∃ nn, nn = b.ns.length := ⟨_, rfl⟩
  rw [← hnn] at en hn
  subst en
  have c0 : w3.cell? ⟨g, 0, none⟩ = some (.slice An nn cn) := blk_cell hg 0
  have XG := Lib.hid hg
  have HSS := Lib.hid (r_ss hN)
  have HNN := Lib.hid hnn
  clear hg hN hnn hc3 HR0 HR1 HR2 htg
  cases bR with
  | true =>
    have HE : Hid (takeOut b (rest, false) = none) := HOB.out (.inl rfl)
    clear HOB HOG
    go_wp2
    go_ret
    refine ⟨?_, HNO.out _ HB3.out HE.out⟩
    rw [HE.out]
    rfl
  | false =>
    have hwn : IntKind.u64.wrap (nn : Int) = nn := by simp [IntKind.wrap, IntKind.bits, IntKind.signed]; omega
    by_cases g1 : own < nn
    case neg =>
      have HE : Hid (takeOut b (rest, false) = none) := HOB.out (.inr (.inl (by have := HNN.out; omega)))
      have hge : (nn : Int) ≤ (own : Int) := by omega
      clear HOB HOG g1 hwn
      go_wp2
      go_ret
      refine ⟨?_, HNO.out _ HB3.out HE.out⟩
      rw [HE.out]
      rfl
    --S2
    by_cases g2 : time < 4611686018427387904
    case neg =>
      have HE : Hid (takeOut b (rest, false) = none) := HOB.out (.inr (.inr (.inl (by omega))))
      have hd2 : decide ((4611686018427387904 : Int) ≤ (time : Int)) = true := decide_eq_true (by omega)
      have hd1 : decide (nn ≤ own) = false := decide_eq_false (by omega)
      clear HOB HOG g1 g2 hwn
      go_wp2
      go_ret
      refine ⟨?_, HNO.out _ HB3.out HE.out⟩
      rw [HE.out]
      rfl
    have hd1 : decide (nn ≤ own) = false := decide_eq_false (by omega)
    have hd2 : decide ((4611686018427387904 : Int) ≤ (time : Int)) = false := decide_eq_false (by omega)
    clear hwn
    go_wp2_with fail
    --S3
    refine (rleft_g w x (2 :: rest) (rR, false) _ HR3.out HL9.out).mono ?_
    rintro e w4 ⟨rfl, hd⟩
    have hb34 : Below w3.heap.size w3 w4 := hd.below
    have hheap : w4.heap = w3.heap := by obtain ⟨m, rfl⟩ := hd; rfl
    have HB4 := Lib.hid (HB3.out.trans (hb34.mono HB3.out.size))
    have HR4 : Hid (RRa w w4 x (2 :: rest) (rR, false)) := HR3.out.move HB4.out (by rw [hheap])
    have c0' : w4.cell? ⟨g, 0, none⟩ = some (.slice An nn cn) := pw_cell_below hb34 c0
    have HSS4 := Lib.hid (HSS.out.below hb34)
    have XG4 := Lib.hid ((hb34.block _ (blk_lt XG.out)).trans XG.out)
    clear hd hheap hb34 q2 c0
    simp only
    have hlr : rR.length ≤ 90001 := by
      obtain ⟨a5, _, h6, _⟩ := HR4.out
      have h7 : rR = (2 :: rest).drop a5 := h6 rfl
      rw [h7, List.length_drop, List.length_cons]
      omega
    obtain ⟨lr, hlr0⟩ : ∃ lr, lr = rR.length := ⟨_, rfl⟩
    rw [← hlr0] at hlr ⊢
    have HLR := Lib.hid hlr0
    clear hlr0
    by_cases g3 : lr = 4 * many
    case neg =>
      have HE : Hid (takeOut b (rest, false) = none) := HOB.out (.inr (.inr (.inr (by rw [← HLR.out]; exact g3))))
      clear HOB HOG
      --S4
      have hd3 : ((lr : Int) != 4 * (many : Int)) = true := by rw [bne_iff_ne]; omega
      clear g3
      go_wp2
      go_ret
      refine ⟨?_, HNO.out _ HB4.out HE.out⟩
      rw [HE.out]
      rfl
    --S5
    have hd3 : ((lr : Int) != 4 * (many : Int)) = false := by rw [bne_eq_false_iff_eq]; omega
    have hmn : many ≤ 30000 := by omega
    have HOK : Hid (takeOut b (rest, false) = if ∀ n ∈ depL many (rR, false), n.toNat < b.ns.length then some ⟨b.ns, putO b.os own ⟨(time : Int), (depL many (rR, false)).map Int.toNat⟩⟩ else none) := HOG.out (by
      rintro (h | h | h | h)
      · cases h
      · have := HNN.out; omega
      · omega
      · exact h (by rw [← HLR.out]; exact g3))
    clear HOB HOG g3
    obtain ⟨Ax, cx, ex, _, _, hcel⟩ := HSS4.out
    injection ex with ex1 ex2 ex3
    subst ex1
    obtain ⟨an, ead, hcell⟩ := hcel (by omega)
    subst ead
    have hownl : own < b.ns.length := by have := HNN.out; omega
    have HOL := Lib.hid hownl
    obtain ⟨nm, hnm⟩ : ∃ nm, nm = b.ns.getD own ByteArray.empty := ⟨_, rfl⟩
    have q5 : w4.cell? (an.add own) = some (.string nm) := by rw [hnm]; exact hcell own hownl
    have HNM := Lib.hid hnm
    obtain ⟨hf, hhf⟩ : ∃ hf, w4.heap.size = hf := ⟨_, rfl⟩
    obtain ⟨w5, hw5⟩ : ∃ w5, w5 = w4.alloc (.cells #[.string nm, .int .i64 (time : Int), .slice none 0 0] 24) := ⟨_, rfl⟩
    have hb45 : Below w4.heap.size w4 w5 := by rw [hw5]; exact below_alloc (Below.refl _ _) _
    obtain ⟨vq, aq, hcq⟩ := HR4.out.cell
    have HX5 : Hid (Rx x hf (2 :: rest) w w5 (rR, false) nm (time : Int) (.slice none 0 0) []) := ⟨HR4.out.move (HB4.out.trans (hb45.mono HB4.out.size)) (hb45.block _ (blk_lt hcq)), by rw [hw5, ← hhf]; exact blk_new w4 _, Kd.R_nil _ _ _ _ _⟩
    have HW5 := Lib.hid hw5
    have HHF : Hid (w.heap.size ≤ hf) := by show _ ≤ _; rw [← hhf]; exact HB4.out.size
    clear hcel hcell ex2 ex3 hownl hnm hw5 hb45 hcq
    go_upto_region 14 with (fail)
    rw [← HW5.out]
    try rw [hhf]
    clear hhf q5 c0' hd1 hd2 hd3
    go_wp2
    --S6
    go_loopw [11] (fun i wr => ∃ (k : Nat) (v : Value), k ≤ many ∧ i = .int .u64 k ∧ Hid (Rx x hf (2 :: rest) w wr (depS k (rR, false)) nm (time : Int) v ((depL k (rR, false)).map fun n : Int => b.ns.getD n.toNat ⟨#[]⟩)) ∧ Hid (∀ n ∈ depL k (rR, false), n.toNat < b.ns.length)) (fun i _ => many - (intOf i).toNat)
    case atStart => exact ⟨0, _, by omega, rfl, HX5.out, fun n hn => by cases hn⟩
    case round =>
      obtain ⟨k, v, hk, rfl, XK, HD⟩ := hrel
      by_cases l1 : k < many
      · go_wp2_with fail
        refine (rnum_g w x (2 :: rest) (depS k (rR, false)) _ 4 XK.out.rd HL9.out (by omega) HBY.out).mono ?_
        rintro e w6 ⟨rfl, hr, ho⟩
        have XA := Lib.hid (XK.out.op hr ho)
        have rn := num4_range (depS_bytes k (s := (rR, false)) HRB.out)
        have HSN : Hid (depL (k + 1) (rR, false) = depL k (rR, false) ++ [num 4 (depS k (rR, false))] ∧ depS (k + 1) (rR, false) = numS 4 (depS k (rR, false))) := depL_snoc k (rR, false)
        obtain ⟨y, hy⟩ : ∃ y : Nat, num 4 (depS k (rR, false)) = (y : Int) := ⟨_, (Int.toNat_of_nonneg rn.1).symm⟩
        rw [hy] at rn HSN ⊢
        rw [← HSN.out.2] at XA
        have HB6 := Lib.hid hr.below
        have HK6 := Lib.hid (HBK.out.below hr.below)
        clear hr ho hy XK
        obtain ⟨_, _, v6, l6, hg6, hN6, _⟩ := HK6.out
        obtain ⟨A6, s6, e6⟩ := Kd.R_slice hN6
        rw [← HNN.out] at e6
        subst e6
        have XG6 := Lib.hid hg6
        have HSS6 := Lib.hid (r_ss hN6)
        have c6 : w6.cell? ⟨g, 0, none⟩ = some (.slice A6 nn s6) := blk_cell hg6 0
        clear hg6 hN6 HK6
        by_cases l2 : y < nn
        case neg =>
          have hd4 : decide (nn ≤ y) = true := decide_eq_true (by omega)
          have HE : Hid (takeOut b (rest, false) = none) := by
            show _ = _
            rw [HOK.out, if_neg]
            intro hall
            refine l2 ?_
            have h := hall (y : Int) ?_
            · have := HNN.out
              rw [Int.toNat_natCast] at h
              omega
            · have h1 : depL (k + 1) (rR, false) = (depL many (rR, false)).take (k + 1) := (depL_take many (k + 1) _ (by omega)).symm
              have h2 : (y : Int) ∈ depL (k + 1) (rR, false) := by rw [HSN.out.1]; simp
              rw [h1] at h2
              exact List.mem_of_mem_take h2
          clear l2
          go_wp2
          go_ret
          refine ⟨?_, HNO.out _ HB6.out HE.out⟩
          rw [HE.out]
          rfl
        --S7
        have hd4 : decide (nn ≤ y) = false := decide_eq_false (by omega)
        obtain ⟨Ax6, cx6, ex6, _, _, hcel6⟩ := HSS6.out
        injection ex6 with q61 q62 q63
        subst q61
        obtain ⟨a6, ead6, hcell6⟩ := hcel6 (by have := HNN.out; omega)
        subst ead6
        have hname := hcell6 y (by have := HNN.out; omega)
        obtain ⟨sy, hsy⟩ : ∃ sy, sy = b.ns.getD y ByteArray.empty := ⟨_, rfl⟩
        rw [← hsy] at hname
        obtain ⟨Av, cv, ev⟩ := Kd.R_slice XA.out.row
        obtain ⟨nv, hnv⟩ : ∃ nv, nv = ((depL k (rR, false)).map fun n : Int => b.ns.getD n.toNat ⟨#[]⟩).length := ⟨_, rfl⟩
        have hnk : nv = k := by rw [hnv, List.length_map, depL_length]
        rw [← hnv] at ev
        subst ev
        have HTM : Hid ((depL (k + 1) (rR, false)).map (fun n : Int => b.ns.getD n.toNat ⟨#[]⟩) = (depL k (rR, false)).map (fun n : Int => b.ns.getD n.toNat ⟨#[]⟩) ++ [sy]) := by
          show _ = _
          rw [HSN.out.1, List.map_append, hsy]
          rfl
        have HLEN : Hid (((depL k (rR, false)).map fun n : Int => b.ns.getD n.toNat ⟨#[]⟩).length ≤ 30000) := by show List.length _ ≤ 30000; rw [List.length_map, depL_length]; omega
        have HD7 : Hid (∀ n ∈ depL (k + 1) (rR, false), n.toNat < b.ns.length) := fun z hz => by
          rw [HSN.out.1] at hz
          rcases List.mem_append.1 hz with h | h
          · exact HD.out z h
          · rw [List.mem_singleton.1 h, Int.toNat_natCast]
            have := HNN.out
            omega
        have P0 := Lib.hid (show w6.cell? ⟨hf, 2, none⟩ = some (.slice Av nv cv) from blk_cell XA.out.fd 2)
        have P1 := Lib.hid (show w6.cell? ⟨g, 0, none⟩ = some (.slice (some a6) nn s6) from c6)
        have P2 := Lib.hid hname
        have XD := Lib.hid XA.out.drew
        have HS6 : Hid (w.heap.size ≤ w6.heap.size) := HB6.out.size
        have HNK := Lib.hid hnk
        clear hcel6 hcell6 q62 q63 hsy hnv hnk hname
        go_wp2
        --S8
        refine start_ (n := 13) (S := fun w' => Below w6.heap.size w6 w' ∧ w'.cell? ⟨hf, 2, none⟩ = some (.slice Av nv cv) ∧ w'.cell? ⟨g, 0, none⟩ = some (.slice (some a6) nn s6) ∧ w'.cell? (a6.add y) = some (.string sy)) (ds := [10, 12]) #[false, false, false, false, false, false, false, false, false, false, false, false, false] (by kernel_rfl) rfl rfl ⟨Below.drew (Below.refl _ _), P0.out, P1.out, P2.out⟩ (fun hHeld => ?_)
        refine pure_ (i := 0) (N := some 119) (v := ?_) (a' := ?_) #[true, false, false, false, false, false, false, false, false, false, false, false, false] rfl rfl (by kernel_rfl) (fun _ _ _ h => h) (Or.inl ⟨by rfl, ?_⟩) ?_ ?_
        rotate_left
        · intro w'
          go_simp
          with_reducible rfl
        rotate_left
        · simp only [Act.put, List.setIfInBounds_toArray, List.set_cons_zero, List.set_cons_succ, i64_w, i32_w]
          rfl
        refine pure_ (i := 2) (N := some 121) (v := ?_) (a' := ?_) #[true, false, true, false, false, false, false, false, false, false, false, false, false] rfl rfl (by kernel_rfl) (fun _ _ _ h => h) (Or.inl ⟨by rfl, ?_⟩) ?_ ?_
        rotate_left
        · intro w'
          go_simp
          with_reducible rfl
        rotate_left
        · simp only [Act.put, List.setIfInBounds_toArray, List.set_cons_zero, List.set_cons_succ, i64_w, i32_w]
          rfl
        refine pure_ (i := 3) (N := some 122) (v := ?_) (a' := ?_) #[true, false, true, true, false, false, false, false, false, false, false, false, false] rfl rfl (by kernel_rfl) (fun _ _ _ h => h) (Or.inl ⟨by rfl, ?_⟩) ?_ ?_
        rotate_left
        · intro w'
          go_simp
          with_reducible rfl
        rotate_left
        · simp only [Act.put, List.setIfInBounds_toArray, List.set_cons_zero, List.set_cons_succ, i64_w, i32_w]
          rfl
        refine pure_ (i := 4) (N := some 123) (v := ?_) (a' := ?_) #[true, false, true, true, true, false, false, false, false, false, false, false, false] rfl rfl (by kernel_rfl) (fun _ _ _ h => h) (Or.inl ⟨by rfl, ?_⟩) ?_ ?_
        rotate_left
        · intro w'
          go_simp
          with_reducible rfl
        rotate_left
        · simp only [Act.put, List.setIfInBounds_toArray, List.set_cons_zero, List.set_cons_succ, i64_w, i32_w]
          rfl
        refine pure_ (i := 6) (N := some 125) (v := ?_) (a' := ?_) #[true, false, true, true, true, false, true, false, false, false, false, false, false] rfl rfl (by kernel_rfl) (fun _ _ _ h => h) (Or.inl ⟨by rfl, ?_⟩) ?_ ?_
        rotate_left
        · intro w'
          go_simp
          with_reducible rfl
        rotate_left
        · simp only [Act.put, List.setIfInBounds_toArray, List.set_cons_zero, List.set_cons_succ, i64_w, i32_w]
          rfl
        refine take_ (i := 1) (N := some 120) (v := ?_) (a' := ?_) #[true, true, true, true, true, false, true, false, false, false, false, false, false] rfl rfl (by kernel_rfl) (fun _ _ _ h => h) (Or.inl ⟨by rfl, ?_⟩) hHeld ?_ ?_
        rotate_left
        · rintro w' ⟨s0, s1, s2, s3⟩
          go_simp
          with_reducible rfl
        rotate_left
        · simp only [Act.put, List.setIfInBounds_toArray, List.set_cons_zero, List.set_cons_succ, i64_w, i32_w]
          rfl
        refine take_ (i := 5) (N := some 124) (v := ?_) (a' := ?_) #[true, true, true, true, true, true, true, false, false, false, false, false, false] rfl rfl (by kernel_rfl) (fun _ _ _ h => h) (Or.inl ⟨by rfl, ?_⟩) hHeld ?_ ?_
        rotate_left
        · rintro w' ⟨s0, s1, s2, s3⟩
          go_simp
          with_reducible rfl
        rotate_left
        · simp only [Act.put, List.setIfInBounds_toArray, List.set_cons_zero, List.set_cons_succ, i64_w, i32_w]
          rfl
        refine pure_ (i := 7) (N := some 126) (v := ?_) (a' := ?_) #[true, true, true, true, true, true, true, true, false, false, false, false, false] rfl rfl (by kernel_rfl) (fun _ _ _ h => h) (Or.inl ⟨by rfl, ?_⟩) ?_ ?_
        rotate_left
        · intro w'
          go_simp
          with_reducible rfl
        rotate_left
        · simp only [Act.put, List.setIfInBounds_toArray, List.set_cons_zero, List.set_cons_succ, i64_w, i32_w]
          rfl
        refine take_ (i := 8) (N := some 127) (v := ?_) (a' := ?_) #[true, true, true, true, true, true, true, true, true, false, false, false, false] rfl rfl (by kernel_rfl) (fun _ _ _ h => h) (Or.inl ⟨by rfl, ?_⟩) hHeld ?_ ?_
        rotate_left
        · rintro w' ⟨s0, s1, s2, s3⟩
          go_simp
          with_reducible rfl
        rotate_left
        · simp only [Act.put, List.setIfInBounds_toArray, List.set_cons_zero, List.set_cons_succ, i64_w, i32_w]
          rfl
        refine one_ (i := 9) (N := some 128) #[true, true, true, true, true, true, true, true, true, true, false, false, false] rfl rfl (by kernel_rfl) (by decide) (fun K hK => ?_)
        refine value_ (w1 := ?_) (v := ?_) (by rfl) rfl ?_ ?_
        rotate_left 2
        · go_simp
          constructor
          · rfl
          · rfl
        refine hK.out _ _ ⟨hHeld.1.alloc hHeld.1.size _, pw_cell_below (hHeld.1.alloc hHeld.1.size _) P0.out, pw_cell_below (hHeld.1.alloc hHeld.1.size _) P1.out, pw_cell_below (hHeld.1.alloc hHeld.1.size _) P2.out⟩ (fun hHeld => ?_)
        clear hK K
        refine norm_ (a' := ?_) ?_ ?_
        rotate_left
        · show Act.put _ (some 128) _ = _
          simp only [Act.put, List.setIfInBounds_toArray, List.set_cons_zero, List.set_cons_succ, i64_w, i32_w]
          rfl
        refine last_ (i := 10) (N := some 129) #[true, true, true, true, true, true, true, true, true, true, true, false, false] rfl rfl (by kernel_rfl) (by decide) (fun K hK => ?_)
        refine app_str_step (w0 := w6.drew) 0 rfl (.tmp 120) (.tmp 128) rfl (.slice Av nv cv) _ sy (fun k => w.heap.size ≤ k) rfl rfl XD.out.row (fun _ h => Nat.le_trans HS6.out h) (Below.refl _ _) (Nat.zero_le _) (by have := HLEN.out; omega) ?_
        intro va wa ra _ ga
        obtain ⟨Aa, ca, ea⟩ := Kd.R_slice ra
        obtain ⟨na, hna⟩ : ∃ na, na = (((depL k (rR, false)).map fun n : Int => b.ns.getD n.toNat ⟨#[]⟩) ++ [sy]).length := ⟨_, rfl⟩
        rw [← hna] at ea
        subst ea
        obtain ⟨e7, x7⟩ := XD.out.app HHF.out ra ga
        have X7 := Lib.hid x7
        have fa := blk_frozen e7 2
        have ka := blk_cell e7 2
        clear ra ga hna e7 x7
        refine hK.out _ _ ?_
        clear hK K
        refine norm_ (a' := ?_) ?_ ?_
        rotate_left
        · show Act.put _ (some 129) _ = _
          simp only [Act.put, List.setIfInBounds_toArray, List.set_cons_zero, List.set_cons_succ, i64_w, i32_w]
          rfl
        refine pure_ (i := 11) (N := some 130) (v := ?_) (a' := ?_) #[true, true, true, true, true, true, true, true, true, true, true, true, false] rfl rfl (by kernel_rfl) (fun _ _ _ h => h) (Or.inl ⟨by rfl, ?_⟩) ?_ ?_
        rotate_left
        · intro w'
          go_simp
          with_reducible rfl
        rotate_left
        · simp only [Act.put, List.setIfInBounds_toArray, List.set_cons_zero, List.set_cons_succ, i64_w, i32_w]
          rfl
        refine last_ (i := 12) (N := none) #[true, true, true, true, true, true, true, true, true, true, true, true, true] rfl rfl (by kernel_rfl) (by decide) (fun K hK => ?_)
        refine skip_ (w1 := ?_) (by rfl) rfl ?_ ?_
        rotate_left
        · go_simp
          rfl
        refine hK.out _ _ ?_
        clear hK K
        refine done_ (by kernel_rfl) ?_
        --S9
        have X8 : Hid (Rx x hf (2 :: rest) w (wa.setCell ⟨hf, 2, none⟩ (.slice Aa na ca)) (depS (k + 1) (rR, false)) nm (time : Int) (.slice Aa na ca) ((depL (k + 1) (rR, false)).map fun n : Int => b.ns.getD n.toNat ⟨#[]⟩)) := by
          rw [HTM.out]
          exact X7.out
        clear hHeld fa ka
        go_wp2
        go_roundw
        case rel => exact ⟨k + 1, _, by omega, by go_num, X8.out, HD7.out⟩
        case measure => simp [intOf]; omega
      · have hk2 : k = many := by omega
        have XK2 : Hid (Rx x hf (2 :: rest) w wr (depS many (rR, false)) nm (time : Int) v ((depL many (rR, false)).map fun n : Int => b.ns.getD n.toNat ⟨#[]⟩)) := by have h := XK.out; rw [hk2] at h; exact h
        have HDM : Hid (∀ n ∈ depL many (rR, false), n.toNat < b.ns.length) := by have h := HD.out; rw [hk2] at h; exact h
        have HE : Hid (takeOut b (rest, false) = some ⟨b.ns, putO b.os own ⟨(time : Int), (depL many (rR, false)).map Int.toNat⟩⟩) := by
          show _ = _
          rw [HOK.out, if_pos HDM.out]
        clear hk2 XK HD
        have HRW := Lib.hid XK2.out.row
        have HPT : Hid (∀ m, m = (⟨nm, (time : Int), (depL many (rR, false)).map fun n : Int => b.ns.getD n.toNat ⟨#[]⟩⟩ : DepV) → m = depV b own ⟨(time : Int), (depL many (rR, false)).map Int.toNat⟩) := by
          intro m hm
          rw [hm, HNM.out]
          unfold depV
          simp only [List.map_map]
          rfl
        --SA
        go_wp2_with (with_reducible refine gate_ (.load 24 (.tmp 10)) rfl ?_; refine Held.of ?_)
        refine Held.out (wpList_load_row rfl 24 (.tmp 10) rfl hf rfl 24 _ (0, 0) _ XK2.out.fd Try.underlying24 rfl (by kernel_rfl) ?_)
        go_wp2_with fail
        refine (put_any T (fun k => w.heap.size ≤ k ∧ k < wr.heap.size) g b.ns L ⟨nm, (time : Int), (depL many (rR, false)).map fun n : Int => b.ns.getD n.toNat ⟨#[]⟩⟩ v wr (HBK.out.below XK2.out.rd.below) (Kd.R_mono (Kd.R_bound XK2.out.row) (fun k hk => ⟨hk.1, hk.2.2.1⟩)) (fun k hk => ⟨hk.2, fun ht => by have h1 := HBK.out.lt k ht; have h2 := hk.1; omega⟩) HLL.out).mono ?_
        rintro e w9 ⟨rfl, hrb, hft⟩
        have HRB9 := Lib.hid hrb
        have HFT9 := Lib.hid hft
        clear hrb hft
        go_wp2
        go_ret
        have hsz := XK2.out.rd.below.size
        have hsz2 := HFT9.out.size
        refine ⟨by rw [HE.out]; rfl, ?_, (Foot.of_below XK2.out.rd.below).trans HFT9.out⟩
        rw [HE.out]
        simp only [Option.getD_some]
        refine ⟨_, HRB9.out.mono ?_ ?_, ?_, putV_len _ _⟩
        · rintro k (hk | hk | hk)
          · exact .inl hk
          · exact .inr ⟨hk.1, Nat.lt_of_lt_of_le hk.2 hsz2⟩
          · exact .inr ⟨Nat.le_trans hsz hk.1, hk.2⟩
        · rintro k (hk | hk)
          · exact Nat.lt_of_lt_of_le (HBK.out.lt k hk) (Nat.le_trans hsz hsz2)
          · exact hk.2
        · rw [HPT.out _ rfl]
          exact AllOf.put HG.out HA.out HOL.out _
--END WALK
theorem RBk.sn {T : Nat → Prop} {w : World} {g : Nat} {ns : List ByteArray} {L : List DepV} (h : RBk T w g ns L) (n : Nat) : RBk (Sn T n w) w g ns L :=
  h.mono (fun k hk => .inl hk) (fun k hk => hk.elim (h.lt k) (·.2))
theorem takeName_all {b : BookV} {L : List DepV} (hA : AllOf b L) (hG : Good b) (s : RS) : AllOf ((takeName b s).getD b) L := by
  unfold takeName
  split
  · exact hA
  · exact hA.names hG _
/-- The reference takes a record. -/
theorem rtake_any (T : Nat → Prop) (g : Nat) (b : BookV) (L : List DepV) (v : Value) (xs : List Int) (w : World) (h : RBk T w g b.ns L) (hA : AllOf b L) (hG : Good b) (hv : Bs w v xs) (hb : Bytes xs) (hn : b.ns.length ≤ 1000000) (hLl : L.length ≤ 1000000) (hl : xs.length ≤ 90000) :
    Calls Try.prog 24 #[.pointer (some ⟨g, 0, none⟩), v] w fun e w' => e = .returned (.bool (takeV b xs).isSome) ∧ (∃ L', RBk (Sn T w.heap.size w') w' g ((takeV b xs).getD b).ns L' ∧ AllOf ((takeV b xs).getD b) L' ∧ L'.length ≤ L.length + 1) ∧ Foot T w w' := by
  cases xs with
  | nil =>
    refine (rtake_empty g v w hv).mono ?_
    rintro e w' ⟨rfl, rfl⟩
    exact ⟨rfl, ⟨L, h.sn _, hA, Nat.le_succ _⟩, Foot.of_below (Below.refl _ _)⟩
  | cons k rest =>
    have hl2 : rest.length ≤ 90000 := by simp only [List.length_cons] at hl; omega
    by_cases h1 : k = 1
    · subst h1
      have e : takeV b (1 :: rest) = takeName b (rest, false) := rfl
      rw [e]
      refine (rtake_name T g b L v rest w h hv hb hn hl2).mono ?_
      rintro e w' ⟨rfl, hr, hf⟩
      exact ⟨rfl, ⟨L, hr, takeName_all hA hG _, Nat.le_succ _⟩, hf⟩
    · by_cases h2 : k = 2
      · subst h2
        have e : takeV b (2 :: rest) = takeOut b (rest, false) := rfl
        rw [e]
        exact rtake_out T g b L v rest w h hA hG hv hb hn hLl hl2
      · have e : takeV b (k :: rest) = none := by rw [takeV_cons, if_neg h1, if_neg h2]
        rw [e]
        refine (rtake_odd g v k rest w hv h1 h2).mono ?_
        rintro e w' ⟨rfl, rfl⟩
        exact ⟨rfl, ⟨L, h.sn _, hA, Nat.le_succ _⟩, Foot.of_below (Below.refl _ _)⟩
end Go.Proofs.Ytinonkakpgiblaa.Nam
