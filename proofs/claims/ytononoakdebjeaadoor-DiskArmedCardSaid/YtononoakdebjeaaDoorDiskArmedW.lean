/- The law DiskArmed (walk). -/
import Derived.Test.YtononoakdebjeaaDoorDk04
namespace Go.Proofs.YtononoakdebjeaaDoor.Dk
open Go.RowKit Go.Proofs.YtononoakdebjeaaDoorW.PrintWords Go.Proofs.YtononoakdebjeaaDoorW.PrintLast Go.Proofs.YtononoakdebjeaaDoor.Base Go.Proofs.YtononoakdebjeaaDoor.Path Go.Proofs.YtononoakdebjeaaDoor.Pack Go.Maps
set_option linter.unusedVariables false
set_option linter.unusedSimpArgs false
def offV (D : DiskV) (x : Bool) (a : Int) : DiskV := { D with down := x, armed := a }
theorem cutsV_off (D : DiskV) (x : Bool) (a : Int) (i : Nat) (t : Int) : cutsV (offV D x a) i t = offV (cutsV D i t) x a := by
  unfold cutsV offV
  simp only
  split <;> rfl
theorem cutsAll_off (x : Bool) (a : Int) (tails : List Int) : ∀ (L : Dir) (D : DiskV) (k : Nat), cutsAll (offV D x a) tails L k = offV (cutsAll D tails L k) x a
  | [], _, _ => rfl
  | p :: L, D, k => by
    show cutsAll (cutsV (offV D x a) p.2 (tailOf tails k)) tails L (k + 1) = _
    rw [cutsV_off, cutsAll_off x a tails L]
    rfl
/-- A restart asks neither whether a disk is down, nor whether it is armed. -/
theorem restart_off (D : DiskV) (x : Bool) (a n : Int) (tails : List Int) : restartV (offV D x a) n tails = restartV D n tails := by
  have e : ({ offV D x a with dir := keptV (offV D x a) n } : DiskV) = offV { D with dir := keptV D n } x a := rfl
  unfold restartV
  simp only
  rw [e, cutsAll_off]
  rfl
abbrev nmF : ByteArray := ⟨#[102]⟩
def ArmI (k i : Nat) (D : DiskV) : Prop := D.armed = (k : Int) - (i : Int) ∧ D.deeds = i ∧ D.down = false ∧ ((i = 0 ∧ NoneI 16777216 D) ∨ 0 < i ∧ ∃ j v, OneI 16777216 nmF j v false D ∧ v.b.length = i ∧ v.sure = 0)
def ArmAt (B k i g : Nat) (w : World) : Prop := ∃ D z, DQ B z (1 + 3 * i) w g D ∧ ArmI k i D
theorem ArmI.next {k i q : Nat} {x : Int} {D D' : DiskV} (h : ArmI k i D) (hk : i < k) (hl : k ≤ 50) (r : DeedR D (rightB nmF) (AppendR nmF [x]) D' q) : q = 0 ∧ ArmI k (i + 1) D' := by
  obtain ⟨h1, h2, h3, h4⟩ := h
  have ha : D.armed ≠ 0 := by omega
  have hc := count_plus (D := D) (by omega)
  rcases h4 with ⟨h5, h6⟩ | ⟨_, j, v, h5, h6, h7⟩
  · obtain ⟨e, j, o, a, d⟩ := h6.appendD ha right_f (by simp) (by simp) (by intro h; cases h) r
    exact ⟨e, by rw [a, hc, h1]; omega, by rw [d, h2], o.down, .inr ⟨Nat.succ_pos _, j, _, o, by simp [h5], rfl⟩⟩
  · obtain ⟨e, o, a, d⟩ := h5.appendD ha right_f (by simp; omega) (by simp; omega) r
    exact ⟨e, by rw [a, hc, h1]; omega, by rw [d, h2], o.down, .inr ⟨Nat.succ_pos _, j, _, o, by simp [h6], h7⟩⟩
def DeadAt (B k i g : Nat) (w : World) : Prop := ∃ D0 b z, DQ B z (1 + 3 * k + 3 * i) w g (offV D0 b 0) ∧ ArmI k k D0 ∧ (0 < i → b = true)
theorem ArmI.dead {k q : Nat} {b : Bool} {x : Int} {D D' : DiskV} (h : ArmI k k D) (r : DeedR (offV D b 0) (rightB nmF) (AppendR nmF [x]) D' q) : q = 8 ∧ D' = offV D true 0 := by
  obtain ⟨e, hq⟩ := r.dead (.inr rfl)
  exact ⟨hq, e⟩
theorem ArmI.zero {k : Nat} {D : DiskV} (h : ArmI k k D) : D = offV D false 0 := by
  obtain ⟨h1, _, h3, _⟩ := h
  unfold offV
  rw [← h3, show (0 : Int) = D.armed by omega]
theorem ArmI.few {k i : Nat} {D : DiskV} (h : ArmI k i D) : D.sure.length + D.pend.length ≤ 1 := by
  rcases h.2.2.2 with ⟨_, h⟩ | ⟨_, j, v, h, _⟩
  · rw [h.sure, h.pend]; exact Nat.zero_le _
  · have hs := h.sy
    rw [if_neg (by decide)] at hs
    rw [hs.1, hs.2]
    exact Nat.le_refl _
/-- Behind the restart. -/
theorem ArmI.last {k : Nat} {D : DiskV} (h : ArmI k k D) (hk : k ≤ 50) : let R := restartV D 1 [1000]; R.down = false ∧ R.armed = -1 ∧ ((k = 0 ∧ look R.dir nmF = none) ∨ (0 < k ∧ ∃ j, look R.dir nmF = some j ∧ (R.fs j).b.length = k)) := by
  have hr := restart_dir D 1 [1000]
  refine ⟨hr.2.2.2.2.1, hr.2.2.2.1, ?_⟩
  rcases h.2.2.2 with ⟨h0, h⟩ | ⟨hp, j, v, h, hv, hs⟩
  · refine .inl ⟨h0, ?_⟩
    rw [(h.restart 1 [1000]).dir]
    rfl
  · have h1 := h.restart (by intro e; cases e) 1 [1000] (.inr (by omega)) v.b.length (by
      have e : tailOf [1000] 0 = 1000 := rfl
      rw [hs, e]
      omega)
    rw [if_neg (Nat.lt_irrefl _)] at h1
    exact .inr ⟨hp, j, by rw [h1.dir]; exact look_one _ _, by rw [h1.file]; exact hv⟩
--BEGIN WALK
set_option maxRecDepth 100000 in
set_option maxHeartbeats 4000000 in
theorem DiskArmed_any (n more : Int) (w : World) (hn : 0 ≤ n ∧ n ≤ 255) (hm : 0 ≤ more ∧ more ≤ 255) :
    Calls Tryd.prog 7 #[.int .u8 n, .int .u8 more] w fun e w' => e = .returned (.bool true) ∧ Below w.heap.size w w' := by
  obtain ⟨n, rfl⟩ : ∃ m : Nat, n = (m : Int) := ⟨n.toNat, by omega⟩
  obtain ⟨more, rfl⟩ : ∃ m : Nat, more = (m : Int) := ⟨more.toNat, by omega⟩
  go_enter Tryd.func7, Tryd.ntmps7
  go_wp2_with fail
  refine (fresh04 (B := w.heap.size) w (Nat.le_refl _)).mono ?_
  rintro e w1 ⟨g, rfl, d1, b1⟩
  have HD1 := Lib.hid d1
  have HB1 := Lib.hid b1
  clear d1 b1
  go_wp2_with fail
  obtain ⟨k, hk⟩ : ∃ k : Nat, (n : Int) % 50 = (k : Int) := ⟨n % 50, by omega⟩
  obtain ⟨r, hr⟩ : ∃ r : Nat, (more : Int) % 5 = (r : Int) := ⟨more % 5, by omega⟩
  rw [hk]
  have hkl : k < 50 := by omega
  have hrl : r < 5 := by omega
  have HK := Lib.hid hk
  have HR := Lib.hid hr
  clear hk
  refine (arm_q (k : Int) HD1.out (by omega)).mono ?_
  rintro e w2 ⟨rfl, d2, b2, z2⟩
  have HA0 : Hid (ArmAt w.heap.size k 0 g w2) := ⟨_, _, d2, by show max (k : Int) (-1) = _; omega, rfl, rfl, .inl ⟨rfl, (NoneI.new 16777216 _).arm _⟩⟩
  have HB2 := Lib.hid (HB1.out.trans (b2.mono (Nat.le_refl _)))
  clear d2 b2 z2 HD1
  go_wp2
  --S1
  go_loopw [8] (fun i wr => ∃ j : Nat, j ≤ k ∧ i = .int .i64 j ∧ Hid (ArmAt w.heap.size k j g wr) ∧ Hid (Below w.heap.size w wr)) (fun i _ => k - (intOf i).toNat)
  case atStart => exact ⟨0, Nat.zero_le _, rfl, HA0.out, HB2.out⟩
  case round =>
    obtain ⟨j, hj, rfl, HA, HB⟩ := hrel
    by_cases l1 : j < k
    · go_wp2_with fail
      obtain ⟨D, z, dq, ai⟩ := HA.out
      obtain ⟨W, hW⟩ : ∃ W, W = wr.alloc (.cells #[.int .u8 (j : Int)] 5) := ⟨_, rfl⟩
      have hv : Bs W (.slice (some ⟨wr.heap.size, 0, none⟩) 1 1) [(j : Int)] := by rw [hW]; exact Bs.lit wr 5 [(j : Int)] (by simp)
      have hb : Below wr.heap.size wr W := by rw [hW]; exact below_alloc (Below.refl _ _) _
      rw [← hW]
      refine (append_q ⟨#[102]⟩ _ [(j : Int)] (dq.below hb) (by decide) hv (fun q hq => .inr (by obtain ⟨S, _, _, _, hz⟩ := dq; rw [← Option.some.inj hq]; exact hz)) (by simp) (by omega)).mono ?_
      rintro e w3 ⟨D3, q3, rfl, d3, r3, b3⟩
      obtain ⟨rfl, ai3⟩ := ai.next l1 (by omega) r3
      have HA3 : Hid (ArmAt w.heap.size k (j + 1) g w3) := ⟨_, _, d3.more (by omega), ai3⟩
      have HB3 := Lib.hid ((HB.out.trans (hb.mono HB.out.size)).trans (b3.mono (Nat.le_refl _)))
      have hdn := ai3.2.2.1
      have HDW := Lib.hid (hdn ▸ down_q d3)
      clear dq ai hW hv hb d3 r3 ai3 b3 hdn
      go_wp2_with fail
      refine HDW.out.mono ?_
      rintro e w4 ⟨rfl, rfl⟩
      go_wp2
      go_roundw
      case rel => exact ⟨j + 1, by omega, by go_num, HA3.out, HB3.out⟩
      case measure => simp [intOf]; omega
    · --S7
      obtain rfl : j = k := by omega
      obtain ⟨D, z, dq, ai⟩ := HA.out
      have HD0 : Hid (DeadAt w.heap.size j 0 g wr) := ⟨D, false, z, by rw [← ai.zero]; exact dq, ai, fun h => absurd h (Nat.lt_irrefl 0)⟩
      have HB7 := Lib.hid HB.out
      clear dq ai HA HB HA0 HB2
      go_wp2
      --S8
      go_loopw [9] (fun i wr => ∃ q : Nat, q ≤ r + 1 ∧ i = .int .i64 q ∧ Hid (DeadAt w.heap.size j q g wr) ∧ Hid (Below w.heap.size w wr)) (fun i _ => r + 1 - (intOf i).toNat)
      case atStart => exact ⟨0, Nat.zero_le _, rfl, HD0.out, HB7.out⟩
      case round =>
        obtain ⟨q, hq, rfl, HD, HB⟩ := hrel
        by_cases l2 : q ≤ r
        · have hle : decide ((q : Int) ≤ (more : Int) % 5) = true := by rw [HR.out]; exact decide_eq_true (by omega)
          have hle2 : decide ((more : Int) % 5 < (q : Int)) = false := by rw [HR.out]; exact decide_eq_false (by omega)
          go_wp2_with fail
          obtain ⟨D, b, z, dq, ai, hbq⟩ := HD.out
          obtain ⟨W, hW⟩ : ∃ W, W = wr.alloc (.cells #[.int .u8 7] 5) := ⟨_, rfl⟩
          have hv : Bs W (.slice (some ⟨wr.heap.size, 0, none⟩) 1 1) [7] := by rw [hW]; exact Bs.lit wr 5 [7] (by simp)
          have hb : Below wr.heap.size wr W := by rw [hW]; exact below_alloc (Below.refl _ _) _
          rw [← hW]
          refine (append_q ⟨#[102]⟩ _ [7] (dq.below hb) (by decide) hv (fun q hq => .inr (by obtain ⟨S, _, _, _, hz⟩ := dq; rw [← Option.some.inj hq]; exact hz)) (by simp) (by omega)).mono ?_
          rintro e w3 ⟨D3, q3, rfl, d3, r3, b3⟩
          obtain ⟨rfl, rfl⟩ := ai.dead r3
          have HD3 : Hid (DeadAt w.heap.size j (q + 1) g w3) := ⟨D, true, _, d3.more (by omega), ai, fun _ => rfl⟩
          have HB3 := Lib.hid ((HB.out.trans (hb.mono HB.out.size)).trans (b3.mono (Nat.le_refl _)))
          have HDW : Hid (Calls Tryd.prog 28 #[.pointer (some ⟨g, 0, none⟩)] w3 fun e w' => e = .returned (.bool true) ∧ w' = w3) := down_q d3
          have hde : (offV D true 0).deeds = j := ai.2.1
          have HDE : Hid (Calls Tryd.prog 29 #[.pointer (some ⟨g, 0, none⟩)] w3 fun e w' => e = .returned (.int .i64 (j : Int)) ∧ w' = w3) := hde ▸ deeds_q d3
          clear dq ai hbq hW hv hb d3 r3 b3 hde hle hle2
          go_wp2_with fail
          refine HDW.out.mono ?_
          rintro e w4 ⟨rfl, rfl⟩
          go_wp2_with fail
          refine HDE.out.mono ?_
          rintro e w4 ⟨rfl, rfl⟩
          go_wp2
          go_roundw
          case rel => exact ⟨q + 1, by omega, by go_num, HD3.out, HB3.out⟩
          case measure => simp [intOf]; omega
        · --S9
          have hle : decide ((q : Int) ≤ (more : Int) % 5) = false := by rw [HR.out]; exact decide_eq_false (by omega)
          have hle2 : decide ((more : Int) % 5 < (q : Int)) = true := by rw [HR.out]; exact decide_eq_true (by omega)
          obtain ⟨D, b, z, dq, ai, hbq⟩ := HD.out
          obtain rfl := hbq (by omega)
          have HDQ := Lib.hid dq
          have HAI := Lib.hid ai
          clear dq ai hbq
          go_wp2_with fail
          clear hle hle2
          refine (arm_q 100 HDQ.out (by omega)).mono ?_
          rintro e w3 ⟨rfl, d3, b3, z3⟩
          have HD3 : Hid (DQ w.heap.size z (1 + 3 * j + 3 * q) w3 g (offV D true 100)) := d3
          have HB3 := Lib.hid (HB.out.trans (b3.mono (Nat.le_refl _)))
          clear d3 b3 z3
          go_wp2_with fail
          refine (stat_q ⟨#[102]⟩ HD3.out (by decide)).mono ?_
          rintro e w4 hs
          obtain ⟨rfl, b4⟩ := stat_down hs rfl
          have HD4 := Lib.hid (HD3.out.below b4)
          have HB4 := Lib.hid (HB3.out.trans (b4.mono HB3.out.size))
          clear hs b4
          go_wp2_with fail
          obtain ⟨W, hW⟩ : ∃ W, W = w4.alloc (.cells #[.int .i64 0, .int .i64 0] 37) := ⟨_, rfl⟩
          have hb : Below w4.heap.size w4 W := by rw [hW]; exact below_alloc (Below.refl _ _) _
          rw [← hW]
          refine (syncDir_q (HD4.out.below hb) (by omega)).mono ?_
          rintro e w5 ⟨D5, q5, rfl, d5, r5, b5⟩
          obtain ⟨e5, rfl⟩ := r5.dead (.inl rfl)
          subst e5
          have HD5 : Hid (DQ w.heap.size w5.heap.size (1 + 3 * j + 3 * q + 3) w5 g (offV D true 100)) := d5
          have HB5 := Lib.hid ((HB4.out.trans (hb.mono HB4.out.size)).trans (b5.mono (Nat.le_refl _)))
          clear d5 r5 b5 hb hW
          go_wp2_with fail
          --S10
          obtain ⟨W, hW⟩ : ∃ W, W = w5.alloc (.cells #[.int .i64 1000] 3) := ⟨_, rfl⟩
          have hb : Below w5.heap.size w5 W := by rw [hW]; exact below_alloc (Below.refl _ _) _
          have hx : W.heap[w5.heap.size]? = some (.cells #[.int .i64 1000] 3 (0, 0)) := by rw [hW]; exact blk_new w5 _
          rw [← hW]
          have hti : Ti W (.slice (some ⟨w5.heap.size, 0, none⟩) 1 1) [1000] := ⟨_, 1, rfl, rfl, by simp, fun _ => ⟨_, rfl, fun i hi => by
            obtain rfl : i = 0 := by simp at hi; omega
            exact blk_cell hx 0⟩⟩
          refine (restart_q 1 1 _ [1000] (HD5.out.below hb) HAI.out.few hti (fun q hq => .inr (by rw [← Option.some.inj hq]; exact Nat.le_refl _)) (by omega) (by simp) (by omega)).mono ?_
          rintro e w6 ⟨rfl, d6, b6⟩
          rw [show restartV (offV D true 100) 1 [1000] = restartV D 1 [1000] from restart_off D true 100 1 [1000]] at d6
          obtain ⟨l1', l2', l3'⟩ := HAI.out.last (by omega)
          have HD6 := Lib.hid d6
          have HL1 := Lib.hid l1'
          have HL2 := Lib.hid l2'
          have HB6 := Lib.hid ((HB5.out.trans (hb.mono HB5.out.size)).trans (b6.mono (Nat.le_refl _)))
          clear d6 b6 hb hW hx hti l1' l2'
          go_wp2_with fail
          refine (read_q ⟨#[102]⟩ HD6.out (by decide)).mono ?_
          rintro e w7 hr7
          rcases l3' with ⟨j0, hlk⟩ | ⟨j0, i, hlk, hln⟩
          · obtain ⟨rfl, b7⟩ := read_none hr7 HL1.out hlk
            have HD7 := Lib.hid (HD6.out.below b7)
            have HB7 := Lib.hid (HB6.out.trans (b7.mono HB6.out.size))
            subst j0
            have HDW : Hid (Calls Tryd.prog 28 #[.pointer (some ⟨g, 0, none⟩)] w7 fun e w' => e = .returned (.bool false) ∧ w' = w7) := HL1.out ▸ down_q HD7.out
            clear hr7 b7 hlk
            go_wp2_with fail
            refine HDW.out.mono ?_
            rintro e w8 ⟨rfl, rfl⟩
            go_wp2_with fail
            refine (syncDir_q HD7.out (by omega)).mono ?_
            rintro e w9 ⟨D9, q9, rfl, d9, r9, b9⟩
            obtain ⟨_, rfl⟩ := r9.up HL1.out (by rw [HL2.out]; omega)
            have HB9 := Lib.hid (HB7.out.trans (b9.mono (Nat.le_refl _)))
            clear d9 r9 b9
            go_wp2_with fail
            refine (awake04 w9).mono ?_
            rintro e w10 ⟨rfl, b10⟩
            have HB10 := Lib.hid (HB9.out.trans (b10.mono HB9.out.size))
            clear b10
            go_wp2
            go_ret
            exact ⟨rfl, HB10.out⟩
          · obtain ⟨v7, rfl, o7⟩ := read_some hr7 HL1.out hlk
            obtain ⟨A7, n7, c7, rfl, hn7⟩ := o7.slice
            rw [hln] at hn7
            obtain rfl : n7 = j := hn7
            have HD7 := Lib.hid (HD6.out.below o7.below)
            have HB7 := Lib.hid (HB6.out.trans (o7.below.mono HB6.out.size))
            have b7 : decide (0 < (n7 : Int)) = true := decide_eq_true (by omega)
            have HDW : Hid (Calls Tryd.prog 28 #[.pointer (some ⟨g, 0, none⟩)] w7 fun e w' => e = .returned (.bool false) ∧ w' = w7) := HL1.out ▸ down_q HD7.out
            clear hr7 hlk o7 hln
            go_wp2_with fail
            refine HDW.out.mono ?_
            rintro e w8 ⟨rfl, rfl⟩
            go_wp2_with fail
            refine (syncDir_q HD7.out (by omega)).mono ?_
            rintro e w9 ⟨D9, q9, rfl, d9, r9, b9⟩
            obtain ⟨_, rfl⟩ := r9.up HL1.out (by rw [HL2.out]; omega)
            have HB9 := Lib.hid (HB7.out.trans (b9.mono (Nat.le_refl _)))
            clear d9 r9 b9
            go_wp2_with fail
            refine (awake04 w9).mono ?_
            rintro e w10 ⟨rfl, b10⟩
            have HB10 := Lib.hid (HB9.out.trans (b10.mono HB9.out.size))
            clear b10
            go_wp2
            go_ret
            exact ⟨rfl, HB10.out⟩
--END WALK
end Go.Proofs.YtononoakdebjeaaDoor.Dk
