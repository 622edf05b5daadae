/- The law DiskRenames (walk). -/
import Derived.Test.YtononoakdebjeaaDoorDkAll
import Derived.RegionTactic
import Derived.ChangeAlike
import Derived.BigRegion
namespace Go.Proofs.YtononoakdebjeaaDoor.Dk
open Go.RowKit Go.Proofs.YtononoakdebjeaaDoorW.PrintWords Go.Proofs.YtononoakdebjeaaDoorW.PrintLast Go.Proofs.YtononoakdebjeaaDoor.Base Go.Proofs.YtononoakdebjeaaDoor.Path Go.Proofs.YtononoakdebjeaaDoor.Pack Go.Maps
set_option linter.unusedVariables false
set_option linter.unusedSimpArgs false
abbrev nmR : ByteArray := ⟨#[102]⟩
abbrev nmG : ByteArray := ⟨#[103]⟩
theorem ti_below {w w' : World} {v : Value} {l : List Int} (h : Ti w v l) (hb : Below w.heap.size w w') : Ti w' v l := by
  obtain ⟨A, c, rfl, h1, h2, h3⟩ := h
  refine ⟨A, c, rfl, h1, h2, fun hl => ?_⟩
  obtain ⟨ad, e, h4⟩ := h3 hl
  exact ⟨ad, e, fun i hi => pw_cell_below hb (h4 i hi)⟩
theorem ti_lt {w : World} {v : Value} {l : List Int} (h : Ti w v l) (hl : 0 < l.length) {k : Nat} (hk : v.ownBlock = some k) : k < w.heap.size := by
  obtain ⟨A, c, rfl, h1, h2, h3⟩ := h
  obtain ⟨ad, rfl, h4⟩ := h3 hl
  have h5 := h4 0 hl
  have hk : ad.block = k := Option.some.inj hk
  have e := add_block ad 0
  by_cases hlt : k < w.heap.size
  · exact hlt
  · exfalso
    have h6 : w.heap[(ad.add 0).block]? = none := by rw [e, hk]; exact Array.getElem?_eq_none (by omega)
    unfold World.cell? at h5
    rw [h6] at h5
    cases h5
theorem ti_move {w w' : World} {v : Value} {l : List Int} (h : Ti w v l) (hk : ∀ k, v.ownBlock = some k → 0 < l.length → k < w.heap.size → w'.heap[k]? = w.heap[k]?) : Ti w' v l := by
  rcases Nat.eq_zero_or_pos l.length with h0 | h0
  · obtain ⟨A, c, e, h1, h2, h3⟩ := h
    exact ⟨A, c, e, h1, h2, fun hl => absurd hl (by omega)⟩
  · exact ti_blk h (fun k h1 h2 => hk k h1 h0 h2)
theorem restart_e {B z c g : Nat} {w : World} {D : DiskV} (N : Nat) (dirN : Int) (vt : Value) (tails : List Int) (h : DQ B z c w g D) (hN : D.sure.length + D.pend.length ≤ N) (ht : Ti w vt tails) (ha : 0 < tails.length → Ap B z vt) (hd : -9223372036854775808 ≤ dirN ∧ dirN ≤ 9223372036854775807) (htl : tails.length ≤ 1000000) (hc : c + N ≤ 10000000) :
    Calls Tryd.prog 25 #[.pointer (some ⟨g, 0, none⟩), .agg #[.int .i64 dirN, vt]] w (RestartQ B (c + N + 1) g (restartV D dirN tails) w) := by
  obtain ⟨S, h1, h2, h3, h4⟩ := h
  refine (restart_any S c N g D dirN vt tails w h1 hN (fun W hf => ti_move ht (fun k hk hl0 hl => hf.block k hl (fun hs => by have := h2 k hs; have := ha hl0 k hk; omega))) hd htl hc).mono fun e w' ⟨e1, hd, hf⟩ => ⟨e1, ⟨_, hd, fun q hq => ⟨?_, hd.lt q hq⟩, Nat.le_trans h3 hf.size, Nat.le_refl _⟩, hf.below (fun q hq => (h2 q hq).1) h3⟩
  rcases hq with hq | hq
  · exact (h2 q hq).1
  · omega
/-! ### The law, plainly -/
/-- Whatever a restart keeps: the file is whole, as it was, or (if all was done, surely) as it is then. -/
def EndI (was thn : List Int) (all : Bool) (D : DiskV) : Prop := ∀ n tails, ∃ i, look (restartV D n tails).dir nmR = some i ∧ (((restartV D n tails).fs i).b = thn ∨ (all = false ∧ ((restartV D n tails).fs i).b = was))
theorem end_sure {was thn : List Int} {t i : Nat} {D : DiskV} (h : SureI nmR was t i D) : EndI was thn false D := fun n tails => by
  have r := h.restart n tails
  exact ⟨i, r.dir.at_, .inr ⟨rfl, by rw [r.file]⟩⟩
theorem end_ren {was thn : List Int} {D : DiskV} (h : RenI nmR was thn D) : EndI was thn false D := fun n tails => by
  obtain ⟨i, x, h1, h2, h3⟩ := h.restart n tails
  exact ⟨i, h1, h3.elim (fun e => .inr ⟨rfl, h2.trans e⟩) (fun e => .inl (h2.trans e))⟩
theorem write_ren {was thn : List Int} {t i k : Nat} {D D' : DiskV} (h : SureI nmR was t i D) (r : DeedR D (rightB nmG) (FreshR nmG thn) D' k) :
    (k ≠ 0 ∧ EndI was thn false D') ∨ (k = 0 ∧ NewI nmR nmG was thn 0 t i D') := by
  have hs : SureI nmR was t i D' := h.deed (fun _ _ _ h1 hd => h1.fresh (by decide) hd) r
  rcases r with ⟨_, _, rfl⟩ | ⟨_, _, _, rfl⟩ | ⟨_, _, ⟨_, _, rfl⟩ | ⟨_, hd⟩⟩
  · exact .inl ⟨by omega, end_sure hs⟩
  · exact .inl ⟨by omega, end_sure hs⟩
  · exact .inl ⟨by omega, end_sure hs⟩
  · by_cases hk : k = 0
    · exact .inr ⟨hk, NewI.write (D := countV D) ⟨h.ne, h.own, h.dir, h.pend, h.file⟩ (by decide) (by decide) hk hd⟩
    · exact .inl ⟨hk, end_sure hs⟩
theorem sync_ren {was thn : List Int} {t i k : Nat} {D D' : DiskV} (h : NewI nmR nmG was thn 0 t i D) (r : DeedR D (rightB nmG) (ThereR nmG SyncR) D' k) :
    (k ≠ 0 ∧ EndI was thn false D') ∨ (k = 0 ∧ NewI nmR nmG was thn thn.length t i D') := by
  have hs : SureI nmR was t i D' := h.base.deed (fun _ _ _ h1 hd => h1.there (by decide) (fun j hj h4 => by rw [h4.1]; exact h1.upd hj _) hd) r
  rcases r with ⟨_, _, rfl⟩ | ⟨_, _, _, rfl⟩ | ⟨_, _, ⟨_, _, rfl⟩ | ⟨_, hd⟩⟩
  · exact .inl ⟨by omega, end_sure hs⟩
  · exact .inl ⟨by omega, end_sure hs⟩
  · exact .inl ⟨by omega, end_sure hs⟩
  · by_cases hk : k = 0
    · exact .inr ⟨hk, NewI.sync (D := countV D) ⟨⟨h.base.ne, h.base.own, h.base.dir, h.base.pend, h.base.file⟩, h.at_⟩ (by decide) hd⟩
    · exact .inl ⟨hk, end_sure hs⟩
theorem rename_ren {was thn : List Int} {t i k : Nat} {ok : Bool} {D D' : DiskV} (h : NewI nmR nmG was thn thn.length t i D) (r : DeedR D ok (ThereR nmG (RenameR nmG nmR)) D' k) :
    (k ≠ 0 ∧ EndI was thn false D') ∨ (k = 0 ∧ RenI nmR was thn D' ∧ ∃ j u, look D'.dir nmR = some j ∧ D'.fs j = ⟨thn, thn.length, u⟩) := by
  have hb := h.base
  rcases r with ⟨_, e, rfl⟩ | ⟨_, _, e, rfl⟩ | ⟨_, _, ⟨_, e, rfl⟩ | ⟨_, hd⟩⟩
  · exact .inl ⟨by omega, by rw [e]; exact end_sure hb⟩
  · exact .inl ⟨by omega, by rw [e]; exact end_sure (D := { D with down := true }) ⟨hb.ne, hb.own, hb.dir, hb.pend, hb.file⟩⟩
  · exact .inl ⟨by omega, by rw [e]; exact end_sure (D := countV D) ⟨hb.ne, hb.own, hb.dir, hb.pend, hb.file⟩⟩
  · have hn : NewI nmR nmG was thn thn.length t i (countV D) := ⟨⟨hb.ne, hb.own, hb.dir, hb.pend, hb.file⟩, h.at_⟩
    have hk : k = 0 := by
      obtain ⟨j, u, hl, _⟩ := hn.at_
      unfold ThereR at hd
      rw [hl] at hd
      exact hd.2
    exact .inr ⟨hk, hn.rename hd⟩
theorem dir_ren {was thn : List Int} {k : Nat} {D D' : DiskV} (h : RenI nmR was thn D) (h2 : ∃ j u, look D.dir nmR = some j ∧ D.fs j = ⟨thn, thn.length, u⟩) (r : DeedR D true SyncDirR D' k) :
    (k ≠ 0 ∧ EndI was thn false D') ∨ (k = 0 ∧ EndI was thn true D') := by
  rcases r with ⟨_, e, rfl⟩ | ⟨_, _, e, rfl⟩ | ⟨_, _, ⟨ho, _⟩ | ⟨_, e, rfl⟩⟩
  · exact .inl ⟨by omega, by rw [e]; exact end_ren h⟩
  · exact .inl ⟨by omega, by rw [e]; exact end_ren (h.down true)⟩
  · cases ho
  · refine .inr ⟨rfl, fun n tails => ?_⟩
    obtain ⟨j, u, hl, hf⟩ := h2
    have hd := (restart_dir D' n tails).1
    refine ⟨j, ?_, .inl ?_⟩
    · rw [hd, e]
      unfold keptV
      rw [show ({ countV D with sure := (countV D).dir, pend := [] } : DiskV).pend = [] from rfl, List.take_nil]
      exact hl
    · have hfj : D'.fs j = ⟨thn, thn.length, u⟩ := by rw [e]; exact hf
      rw [restart_fs (by rw [hfj]), hfj]
--BEGIN WALK
set_option maxRecDepth 100000 in
set_option maxHeartbeats 4000000 in
theorem DiskRenames_any (u v t : Value) (was thn tails : List Int) (arm : Nat) (dirN : Int) (w : World) (hu : Bs w u was) (hv : Bs w v thn) (ht : Ti w t tails) (ha : arm ≤ 255) (hd : -9223372036854775808 ≤ dirN ∧ dirN ≤ 9223372036854775807) :
    Calls Tryd.prog 6 #[.agg #[u, v, .int .u8 (arm : Int), .int .i64 dirN, t]] w fun e w' => e = .returned (.bool true) ∧ Below w.heap.size w w' := by
  have HU := Lib.hid hu
  have HV := Lib.hid hv
  have HT := Lib.hid ht
  obtain ⟨A1, c1, rfl, hc1, hm1⟩ := hu.len
  obtain ⟨A2, c2, rfl, hc2, hm2⟩ := hv.len
  obtain ⟨A3, c3, rfl, hr3⟩ := ht
  have hm3 := hr3.2.1
  obtain ⟨n1, hn1⟩ : ∃ n, n = was.length := ⟨_, rfl⟩
  obtain ⟨n2, hn2⟩ : ∃ n, n = thn.length := ⟨_, rfl⟩
  obtain ⟨n3, hn3⟩ : ∃ n, n = tails.length := ⟨_, rfl⟩
  rw [← hn1] at HU hc1 hm1 ⊢
  rw [← hn2] at HV hc2 hm2 ⊢
  rw [← hn3] at HT hm3 ⊢
  have HN1 := Lib.hid hn1
  have HN2 := Lib.hid hn2
  have HN3 := Lib.hid hn3
  clear hu hv hr3 hn1 hn2 hn3
  go_enter Tryd.func6, Tryd.ntmps6
  go_upto_region 1 with (fail)
  obtain ⟨x, hx⟩ : ∃ x, w.heap.size = x := ⟨_, rfl⟩
  obtain ⟨W, hW⟩ : ∃ W, W = w.alloc (.cells #[.slice A1 n1 c1, .slice A2 n2 c2, .int .u8 (arm : Int), .int .i64 dirN, .slice A3 n3 c3] 60) := ⟨_, rfl⟩
  have hX : W.heap[x]? = some (.cells #[.slice A1 n1 c1, .slice A2 n2 c2, .int .u8 (arm : Int), .int .i64 dirN, .slice A3 n3 c3] 60 (0, 0)) := by rw [hW]; exact alloc_at w _ hx
  rw [← hW]
  have k0 := blk_cell hX 0
  have k1 := blk_cell hX 1
  have k2 := blk_cell hX 2
  have k3 := blk_cell hX 3
  have k4 := blk_cell hX 4
  --S1
  go_region
  clear k0 k1 k2 k3 k4 hX hW
  obtain ⟨W2, hW2⟩ : ∃ W2, W2 = ((w.alloc (.cells #[.slice A1 n1 c1, .slice A2 n2 c2, .int .u8 (arm : Int), .int .i64 dirN, .slice A3 n3 c3] 60)).alloc (.cells #[.int .i64 dirN, .slice A3 n3 c3] 57)).drew := ⟨_, rfl⟩
  obtain ⟨g1, gs, hb2⟩ : W2.heap[x + 1]? = some (.cells #[.int .i64 dirN, .slice A3 n3 c3] 57 (0, 0)) ∧ W2.heap.size = x + 2 ∧ Below w.heap.size w W2 := by
    rw [hW2]
    obtain ⟨_, a2, a3, a4⟩ := allocs2 w (.cells #[.slice A1 n1 c1, .slice A2 n2 c2, .int .u8 (arm : Int), .int .i64 dirN, .slice A3 n3 c3] 60) (.cells #[.int .i64 dirN, .slice A3 n3 c3] 57) hx
    exact ⟨a2, a3, Below.drew a4⟩
  rw [← hW2]
  have k5 := blk_cell g1 0
  have k6 := blk_cell g1 1
  have K5 := Lib.hid k5
  have K6 := Lib.hid k6
  have HB2 := Lib.hid hb2
  have HX := Lib.hid hx
  have hle : w.heap.size ≤ W2.heap.size := hb2.size
  have HLE := Lib.hid hle
  clear W hW2 g1 hb2 hx gs hle
  by_cases l1 : 1000 < n1
  · have d1 : decide (1000 < (n1 : Int)) = true := decide_eq_true (by omega)
    go_wp2
    go_ret
    exact ⟨rfl, HB2.out⟩
  · have d1 : decide (1000 < (n1 : Int)) = false := decide_eq_false (by omega)
    by_cases l2 : 1000 < n2
    · have d2 : decide (1000 < (n2 : Int)) = true := decide_eq_true (by omega)
      go_wp2
      go_ret
      exact ⟨rfl, HB2.out⟩
    · have d2 : decide (1000 < (n2 : Int)) = false := decide_eq_false (by omega)
      by_cases l3 : 20 < n3
      · have d3 : decide (20 < (n3 : Int)) = true := decide_eq_true (by omega)
        go_wp2
        go_ret
        exact ⟨rfl, HB2.out⟩
      · have d3 : decide (20 < (n3 : Int)) = false := decide_eq_false (by omega)
        go_wp2_with fail
        clear k5 k6 d1 d2 d3
        --S2
        refine (fresh04 (B := W2.heap.size) W2 (Nat.le_refl _)).mono ?_
        rintro e w3 ⟨g, rfl, d3, b3⟩
        have HD3 := Lib.hid d3
        have HB3 := Lib.hid b3
        clear d3 b3
        go_wp2_with fail
        refine (write_e ⟨#[102]⟩ _ was HD3.out (by decide) (HU.out.below (HB2.out.trans (HB3.out.mono HLE.out))) (fun hl k hk => .inl (by have := bs_lt HU.out hk hl; have := HLE.out; omega)) (by rw [← HN1.out]; omega) (by omega)).mono ?_
        rintro e w4 ⟨D4, q4, rfl, d4, r4, b4⟩
        obtain ⟨rfl, i, o4, a4, _⟩ := (NoneI.new 16777216 _).writeD (by show (-1 : Int) ≠ 0; omega) right_f (by rw [← HN1.out]; omega) (by rw [← HN1.out]; omega) (by intro h; cases h) r4
        have HD4 := Lib.hid d4
        have HO4 := Lib.hid o4
        have HA4 : Hid (D4.armed = -1) := a4
        have HB4 := Lib.hid (HB3.out.trans (b4.mono (Nat.le_refl _)))
        clear d4 r4 o4 a4 b4 HD3 HB3
        go_wp2_with fail
        refine (sync_q ⟨#[102]⟩ HD4.out (by decide) (by omega)).mono ?_
        rintro e w5 ⟨D5, q5, rfl, d5, r5, b5⟩
        obtain ⟨rfl, o5, a5, _⟩ := HO4.out.syncD (by rw [HA4.out]; omega) right_f r5
        have HD5 := Lib.hid d5
        have HO5 := Lib.hid o5
        have HA5 : Hid (D5.armed = -1) := a5.trans (count_minus HA4.out)
        have HB5 := Lib.hid (HB4.out.trans (b5.mono (Nat.le_refl _)))
        clear d5 r5 o5 a5 b5 HD4 HO4 HA4 HB4
        go_wp2_with fail
        refine (syncDir_q HD5.out (by omega)).mono ?_
        rintro e w6 ⟨D6, q6, rfl, d6, r6, b6⟩
        obtain ⟨rfl, o6, a6, _⟩ := HO5.out.syncDirD (by rw [HA5.out]; omega) r6
        obtain ⟨tm, s6⟩ : ∃ tm, SureI nmR was tm i D6 := ⟨_, o6.toSure (by decide) rfl⟩
        have HD6 := Lib.hid d6
        have HS6 := Lib.hid s6
        have HB6 := Lib.hid (HB5.out.trans (b6.mono (Nat.le_refl _)))
        clear d6 r6 o6 a6 b6 s6 HD5 HO5 HA5 HB5
        go_wp2_with fail
        obtain ⟨k, hk⟩ : ∃ k : Nat, (arm : Int) % 6 = (k : Int) := ⟨arm % 6, by omega⟩
        rw [hk]
        have hk5 : k ≤ 5 := by omega
        clear hk
        refine (arm_q (k : Int) HD6.out (by omega)).mono ?_
        rintro e w7 ⟨rfl, d7, b7, z7⟩
        have HD7 := Lib.hid d7
        have HS7 := Lib.hid (HS6.out.arm (k : Int))
        have HB7 := Lib.hid (HB6.out.trans (b7.mono (Nat.le_refl _)))
        clear d7 b7 z7 HD6 HS6 HB6
        go_wp2_with fail
        --S3
        refine (write_e ⟨#[103]⟩ _ thn HD7.out (by decide) (HV.out.below (HB2.out.trans (HB7.out.mono HLE.out))) (fun hl k hk => .inl (by have := bs_lt HV.out hk hl; have := HLE.out; omega)) (by rw [← HN2.out]; omega) (by omega)).mono ?_
        rintro e w8 ⟨D8, q8, rfl, d8, r8, b8⟩
        have HD8 := Lib.hid d8
        have HB8 := Lib.hid (HB7.out.trans (b8.mono (Nat.le_refl _)))
        have HR8 := write_ren HS7.out r8
        clear d8 r8 b8 HD7 HS7 HB7
        rcases HR8 with ⟨hq, hend⟩ | ⟨rfl, n8⟩
        · --F1
          have c8 : ((q8 : Int) == 0) = false := by rw [beq_eq_false_iff_ne]; omega
          have HE := Lib.hid hend
          clear hend
          have k5 := pw_cell_below HB8.out K5.out
          have k6 := pw_cell_below HB8.out K6.out
          go_wp2_with fail
          clear k5 k6
          refine (restart_e 13 dirN _ tails HD8.out HD8.out.ok.few (ti_below HT.out (HB2.out.trans (HB8.out.mono HLE.out))) (fun hl k hk => .inl (by have := ti_lt HT.out hl hk; have := HLE.out; omega)) hd (by rw [← HN3.out]; omega) (by omega)).mono ?_
          rintro e w12 ⟨rfl, d12, b12⟩
          have HD12 := Lib.hid d12
          have HB12 := Lib.hid (HB8.out.trans (b12.mono (Nat.le_refl _)))
          have hdn := (restart_dir D8 dirN tails).2.2.2.2.1
          obtain ⟨j, hlk, hfb⟩ := HE.out dirN tails
          clear d12 b12 HD8 HB8 HE
          go_wp2_with fail
          refine (read_q ⟨#[102]⟩ HD12.out (by decide)).mono ?_
          rintro e w13 hr
          obtain ⟨v13, rfl, o13⟩ := read_some hr hdn hlk
          clear hr hlk hdn
          obtain ⟨A13, n13, c13, rfl, hn13⟩ := o13.slice
          clear hn13
          have HB13 := Lib.hid (HB12.out.trans (o13.below.mono HB12.out.size))
          have HO13 := Lib.hid o13.bs
          have HS1 := Lib.hid (str_of (HU.out.below (HB2.out.trans (HB13.out.mono HLE.out))))
          have HS2 := Lib.hid (str_of (HV.out.below (HB2.out.trans (HB13.out.mono HLE.out))))
          clear o13 HD12 HB12
          have s1 := HS1.out
          have s2 := HS2.out
          have s0 := str_of HO13.out
          have e1 : ((strOfNums was).toList == (strOfNums was).toList) = true := beq_self_eq_true _
          have e2 : ((strOfNums thn).toList == (strOfNums thn).toList) = true := beq_self_eq_true _
          rcases hfb with hfb | ⟨_, hfb⟩
          · rw [hfb] at s0
            clear hfb
            cases e3 : ((strOfNums thn).toList == (strOfNums was).toList) with
            | true =>
              go_wp2_with fail
              refine (awake04 w13).mono ?_
              rintro e w14 ⟨rfl, b14⟩
              have HB14 := Lib.hid (HB2.out.trans ((HB13.out.trans (b14.mono HB13.out.size)).mono HLE.out))
              clear b14
              go_wp2
              go_ret
              exact ⟨rfl, HB14.out⟩
            | false =>
              go_wp2_with fail
              refine (awake04 w13).mono ?_
              rintro e w14 ⟨rfl, b14⟩
              have HB14 := Lib.hid (HB2.out.trans ((HB13.out.trans (b14.mono HB13.out.size)).mono HLE.out))
              clear b14
              go_wp2
              go_ret
              exact ⟨rfl, HB14.out⟩
          · rw [hfb] at s0
            clear hfb
            go_wp2_with fail
            refine (awake04 w13).mono ?_
            rintro e w14 ⟨rfl, b14⟩
            have HB14 := Lib.hid (HB2.out.trans ((HB13.out.trans (b14.mono HB13.out.size)).mono HLE.out))
            clear b14
            go_wp2
            go_ret
            exact ⟨rfl, HB14.out⟩
        · have HNW := Lib.hid n8
          clear n8
          go_wp2_with fail
          refine (sync_q ⟨#[103]⟩ HD8.out (by decide) (by omega)).mono ?_
          rintro e w9 ⟨D9, q9, rfl, d9, r9, b9⟩
          have HD9 := Lib.hid d9
          have HB9 := Lib.hid (HB8.out.trans (b9.mono (Nat.le_refl _)))
          have HR9 := sync_ren HNW.out r9
          clear d9 r9 b9 HD8 HB8 HNW
          rcases HR9 with ⟨hq, hend⟩ | ⟨rfl, n9⟩
          · --F2
            have c8 : ((q9 : Int) == 0) = false := by rw [beq_eq_false_iff_ne]; omega
            have HE := Lib.hid hend
            clear hend
            have k5 := pw_cell_below HB9.out K5.out
            have k6 := pw_cell_below HB9.out K6.out
            go_wp2_with fail
            clear k5 k6
            refine (restart_e 16 dirN _ tails HD9.out HD9.out.ok.few (ti_below HT.out (HB2.out.trans (HB9.out.mono HLE.out))) (fun hl k hk => .inl (by have := ti_lt HT.out hl hk; have := HLE.out; omega)) hd (by rw [← HN3.out]; omega) (by omega)).mono ?_
            rintro e w12 ⟨rfl, d12, b12⟩
            have HD12 := Lib.hid d12
            have HB12 := Lib.hid (HB9.out.trans (b12.mono (Nat.le_refl _)))
            have hdn := (restart_dir D9 dirN tails).2.2.2.2.1
            obtain ⟨j, hlk, hfb⟩ := HE.out dirN tails
            clear d12 b12 HD9 HB9 HE
            go_wp2_with fail
            refine (read_q ⟨#[102]⟩ HD12.out (by decide)).mono ?_
            rintro e w13 hr
            obtain ⟨v13, rfl, o13⟩ := read_some hr hdn hlk
            clear hr hlk hdn
            obtain ⟨A13, n13, c13, rfl, hn13⟩ := o13.slice
            clear hn13
            have HB13 := Lib.hid (HB12.out.trans (o13.below.mono HB12.out.size))
            have HO13 := Lib.hid o13.bs
            have HS1 := Lib.hid (str_of (HU.out.below (HB2.out.trans (HB13.out.mono HLE.out))))
            have HS2 := Lib.hid (str_of (HV.out.below (HB2.out.trans (HB13.out.mono HLE.out))))
            clear o13 HD12 HB12
            have s1 := HS1.out
            have s2 := HS2.out
            have s0 := str_of HO13.out
            have e1 : ((strOfNums was).toList == (strOfNums was).toList) = true := beq_self_eq_true _
            have e2 : ((strOfNums thn).toList == (strOfNums thn).toList) = true := beq_self_eq_true _
            rcases hfb with hfb | ⟨_, hfb⟩
            · rw [hfb] at s0
              clear hfb
              cases e3 : ((strOfNums thn).toList == (strOfNums was).toList) with
              | true =>
                go_wp2_with fail
                refine (awake04 w13).mono ?_
                rintro e w14 ⟨rfl, b14⟩
                have HB14 := Lib.hid (HB2.out.trans ((HB13.out.trans (b14.mono HB13.out.size)).mono HLE.out))
                clear b14
                go_wp2
                go_ret
                exact ⟨rfl, HB14.out⟩
              | false =>
                go_wp2_with fail
                refine (awake04 w13).mono ?_
                rintro e w14 ⟨rfl, b14⟩
                have HB14 := Lib.hid (HB2.out.trans ((HB13.out.trans (b14.mono HB13.out.size)).mono HLE.out))
                clear b14
                go_wp2
                go_ret
                exact ⟨rfl, HB14.out⟩
            · rw [hfb] at s0
              clear hfb
              go_wp2_with fail
              refine (awake04 w13).mono ?_
              rintro e w14 ⟨rfl, b14⟩
              have HB14 := Lib.hid (HB2.out.trans ((HB13.out.trans (b14.mono HB13.out.size)).mono HLE.out))
              clear b14
              go_wp2
              go_ret
              exact ⟨rfl, HB14.out⟩
          · have HNW := Lib.hid n9
            clear n9
            go_wp2_with fail
            refine (rename_q ⟨#[103]⟩ ⟨#[102]⟩ HD9.out (by decide) (by decide) (by omega)).mono ?_
            rintro e w10 ⟨D10, q10, rfl, d10, r10, b10⟩
            have HD10 := Lib.hid d10
            have HB10 := Lib.hid (HB9.out.trans (b10.mono (Nat.le_refl _)))
            have HR10 := rename_ren HNW.out r10
            clear d10 r10 b10 HD9 HB9 HNW
            rcases HR10 with ⟨hq, hend⟩ | ⟨rfl, n10, m10⟩
            · --F3
              have c8 : ((q10 : Int) == 0) = false := by rw [beq_eq_false_iff_ne]; omega
              have HE := Lib.hid hend
              clear hend
              have k5 := pw_cell_below HB10.out K5.out
              have k6 := pw_cell_below HB10.out K6.out
              go_wp2_with fail
              clear k5 k6
              refine (restart_e 19 dirN _ tails HD10.out HD10.out.ok.few (ti_below HT.out (HB2.out.trans (HB10.out.mono HLE.out))) (fun hl k hk => .inl (by have := ti_lt HT.out hl hk; have := HLE.out; omega)) hd (by rw [← HN3.out]; omega) (by omega)).mono ?_
              rintro e w12 ⟨rfl, d12, b12⟩
              have HD12 := Lib.hid d12
              have HB12 := Lib.hid (HB10.out.trans (b12.mono (Nat.le_refl _)))
              have hdn := (restart_dir D10 dirN tails).2.2.2.2.1
              obtain ⟨j, hlk, hfb⟩ := HE.out dirN tails
              clear d12 b12 HD10 HB10 HE
              go_wp2_with fail
              refine (read_q ⟨#[102]⟩ HD12.out (by decide)).mono ?_
              rintro e w13 hr
              obtain ⟨v13, rfl, o13⟩ := read_some hr hdn hlk
              clear hr hlk hdn
              obtain ⟨A13, n13, c13, rfl, hn13⟩ := o13.slice
              clear hn13
              have HB13 := Lib.hid (HB12.out.trans (o13.below.mono HB12.out.size))
              have HO13 := Lib.hid o13.bs
              have HS1 := Lib.hid (str_of (HU.out.below (HB2.out.trans (HB13.out.mono HLE.out))))
              have HS2 := Lib.hid (str_of (HV.out.below (HB2.out.trans (HB13.out.mono HLE.out))))
              clear o13 HD12 HB12
              have s1 := HS1.out
              have s2 := HS2.out
              have s0 := str_of HO13.out
              have e1 : ((strOfNums was).toList == (strOfNums was).toList) = true := beq_self_eq_true _
              have e2 : ((strOfNums thn).toList == (strOfNums thn).toList) = true := beq_self_eq_true _
              rcases hfb with hfb | ⟨_, hfb⟩
              · rw [hfb] at s0
                clear hfb
                cases e3 : ((strOfNums thn).toList == (strOfNums was).toList) with
                | true =>
                  go_wp2_with fail
                  refine (awake04 w13).mono ?_
                  rintro e w14 ⟨rfl, b14⟩
                  have HB14 := Lib.hid (HB2.out.trans ((HB13.out.trans (b14.mono HB13.out.size)).mono HLE.out))
                  clear b14
                  go_wp2
                  go_ret
                  exact ⟨rfl, HB14.out⟩
                | false =>
                  go_wp2_with fail
                  refine (awake04 w13).mono ?_
                  rintro e w14 ⟨rfl, b14⟩
                  have HB14 := Lib.hid (HB2.out.trans ((HB13.out.trans (b14.mono HB13.out.size)).mono HLE.out))
                  clear b14
                  go_wp2
                  go_ret
                  exact ⟨rfl, HB14.out⟩
              · rw [hfb] at s0
                clear hfb
                go_wp2_with fail
                refine (awake04 w13).mono ?_
                rintro e w14 ⟨rfl, b14⟩
                have HB14 := Lib.hid (HB2.out.trans ((HB13.out.trans (b14.mono HB13.out.size)).mono HLE.out))
                clear b14
                go_wp2
                go_ret
                exact ⟨rfl, HB14.out⟩
            · have HNW := Lib.hid n10
              have HMW := Lib.hid m10
              clear n10 m10
              go_wp2_with fail
              refine (syncDir_q HD10.out (by omega)).mono ?_
              rintro e w11 ⟨D11, q11, rfl, d11, r11, b11⟩
              have HD11 := Lib.hid d11
              have HB11 := Lib.hid (HB10.out.trans (b11.mono (Nat.le_refl _)))
              have HR11 := dir_ren HNW.out HMW.out r11
              clear d11 r11 b11 HD10 HB10 HNW HMW
              rcases HR11 with ⟨hq, hend⟩ | ⟨rfl, hend⟩
              · --F4
                have c8 : ((q11 : Int) == 0) = false := by rw [beq_eq_false_iff_ne]; omega
                have HE := Lib.hid hend
                clear hend
                have k5 := pw_cell_below HB11.out K5.out
                have k6 := pw_cell_below HB11.out K6.out
                go_wp2_with fail
                clear k5 k6
                refine (restart_e 22 dirN _ tails HD11.out HD11.out.ok.few (ti_below HT.out (HB2.out.trans (HB11.out.mono HLE.out))) (fun hl k hk => .inl (by have := ti_lt HT.out hl hk; have := HLE.out; omega)) hd (by rw [← HN3.out]; omega) (by omega)).mono ?_
                rintro e w12 ⟨rfl, d12, b12⟩
                have HD12 := Lib.hid d12
                have HB12 := Lib.hid (HB11.out.trans (b12.mono (Nat.le_refl _)))
                have hdn := (restart_dir D11 dirN tails).2.2.2.2.1
                obtain ⟨j, hlk, hfb⟩ := HE.out dirN tails
                clear d12 b12 HD11 HB11 HE
                go_wp2_with fail
                refine (read_q ⟨#[102]⟩ HD12.out (by decide)).mono ?_
                rintro e w13 hr
                obtain ⟨v13, rfl, o13⟩ := read_some hr hdn hlk
                clear hr hlk hdn
                obtain ⟨A13, n13, c13, rfl, hn13⟩ := o13.slice
                clear hn13
                have HB13 := Lib.hid (HB12.out.trans (o13.below.mono HB12.out.size))
                have HO13 := Lib.hid o13.bs
                have HS1 := Lib.hid (str_of (HU.out.below (HB2.out.trans (HB13.out.mono HLE.out))))
                have HS2 := Lib.hid (str_of (HV.out.below (HB2.out.trans (HB13.out.mono HLE.out))))
                clear o13 HD12 HB12
                have s1 := HS1.out
                have s2 := HS2.out
                have s0 := str_of HO13.out
                have e1 : ((strOfNums was).toList == (strOfNums was).toList) = true := beq_self_eq_true _
                have e2 : ((strOfNums thn).toList == (strOfNums thn).toList) = true := beq_self_eq_true _
                rcases hfb with hfb | ⟨_, hfb⟩
                · rw [hfb] at s0
                  clear hfb
                  cases e3 : ((strOfNums thn).toList == (strOfNums was).toList) with
                  | true =>
                    go_wp2_with fail
                    refine (awake04 w13).mono ?_
                    rintro e w14 ⟨rfl, b14⟩
                    have HB14 := Lib.hid (HB2.out.trans ((HB13.out.trans (b14.mono HB13.out.size)).mono HLE.out))
                    clear b14
                    go_wp2
                    go_ret
                    exact ⟨rfl, HB14.out⟩
                  | false =>
                    go_wp2_with fail
                    refine (awake04 w13).mono ?_
                    rintro e w14 ⟨rfl, b14⟩
                    have HB14 := Lib.hid (HB2.out.trans ((HB13.out.trans (b14.mono HB13.out.size)).mono HLE.out))
                    clear b14
                    go_wp2
                    go_ret
                    exact ⟨rfl, HB14.out⟩
                · rw [hfb] at s0
                  clear hfb
                  go_wp2_with fail
                  refine (awake04 w13).mono ?_
                  rintro e w14 ⟨rfl, b14⟩
                  have HB14 := Lib.hid (HB2.out.trans ((HB13.out.trans (b14.mono HB13.out.size)).mono HLE.out))
                  clear b14
                  go_wp2
                  go_ret
                  exact ⟨rfl, HB14.out⟩
              · --F5
                have HE := Lib.hid hend
                clear hend
                have k5 := pw_cell_below HB11.out K5.out
                have k6 := pw_cell_below HB11.out K6.out
                go_wp2_with fail
                clear k5 k6
                refine (restart_e 22 dirN _ tails HD11.out HD11.out.ok.few (ti_below HT.out (HB2.out.trans (HB11.out.mono HLE.out))) (fun hl k hk => .inl (by have := ti_lt HT.out hl hk; have := HLE.out; omega)) hd (by rw [← HN3.out]; omega) (by omega)).mono ?_
                rintro e w12 ⟨rfl, d12, b12⟩
                have HD12 := Lib.hid d12
                have HB12 := Lib.hid (HB11.out.trans (b12.mono (Nat.le_refl _)))
                have hdn := (restart_dir D11 dirN tails).2.2.2.2.1
                obtain ⟨j, hlk, hfb⟩ := HE.out dirN tails
                clear d12 b12 HD11 HB11 HE
                go_wp2_with fail
                refine (read_q ⟨#[102]⟩ HD12.out (by decide)).mono ?_
                rintro e w13 hr
                obtain ⟨v13, rfl, o13⟩ := read_some hr hdn hlk
                clear hr hlk hdn
                obtain ⟨A13, n13, c13, rfl, hn13⟩ := o13.slice
                clear hn13
                have HB13 := Lib.hid (HB12.out.trans (o13.below.mono HB12.out.size))
                have HO13 := Lib.hid o13.bs
                have HS1 := Lib.hid (str_of (HU.out.below (HB2.out.trans (HB13.out.mono HLE.out))))
                have HS2 := Lib.hid (str_of (HV.out.below (HB2.out.trans (HB13.out.mono HLE.out))))
                clear o13 HD12 HB12
                rcases hfb with hfb | ⟨hfb, _⟩
                rotate_left
                · cases hfb
                have s0 := str_of HO13.out
                rw [hfb] at s0
                have s2 := HS2.out
                have e2 : ((strOfNums thn).toList == (strOfNums thn).toList) = true := beq_self_eq_true _
                clear hfb
                go_wp2_with fail
                refine (awake04 w13).mono ?_
                rintro e w14 ⟨rfl, b14⟩
                have HB14 := Lib.hid (HB2.out.trans ((HB13.out.trans (b14.mono HB13.out.size)).mono HLE.out))
                clear b14
                go_wp2
                go_ret
                exact ⟨rfl, HB14.out⟩
--END WALK
end Go.Proofs.YtononoakdebjeaaDoor.Dk
