/- The walk of the law PackReads. -/
import Derived.Test.YtokempdkfpbpmaaPackRefRead
import Derived.Test.YtokempdkfpbpmaaWLast
namespace Go.Proofs.Ytokempdkfpbpmaa.Pack
open Go.RowKit Go.Proofs.YtokempdkfpbpmaaW.PrintWords Go.Proofs.YtokempdkfpbpmaaW.PrintLast Go.Proofs.Ytokempdkfpbpmaa.Base
set_option linter.unusedVariables false
set_option linter.unusedSimpArgs false

/-! one question, as both readers answer it -/
def badOf (data : List Int) (p : Nat) (bad : Bool) (m : Nat) : Bool := bad || decide (data.length < p + m)
def atOf (data : List Int) (p : Nat) (bad : Bool) (m : Nat) : Nat := if badOf data p bad m = true then p else p + m
def valOf (data : List Int) (p : Nat) (bad : Bool) (m : Nat) : Int := if badOf data p bad m = true then 0 else leVal ((data.drop p).take m)
def restB (data : List Int) (p : Nat) (bad : Bool) : List Int := if bad = true then [] else data.drop p
def lenT (data : List Int) (p : Nat) : Nat := (leVal ((data.drop p).take 2)).toNat
def badT (data : List Int) (p : Nat) (bad : Bool) : Bool := bad || (decide (data.length < p + 2) || decide (data.length < p + 2 + lenT data p))
def valT (data : List Int) (p : Nat) (bad : Bool) : ByteArray := if badT data p bad = true then strOfNums [] else strOfNums ((data.drop (p + 2)).take (lenT data p))
theorem restB_true (data : List Int) (p : Nat) : restB data p true = [] := rfl
theorem restB_false (data : List Int) (p : Nat) : restB data p false = data.drop p := rfl
theorem badOf_cases {data : List Int} {p : Nat} {bad : Bool} {m : Nat} (h : badOf data p bad m = true) : bad = true ∨ data.length < p + m := by
  unfold badOf at h
  simpa using h
theorem badOf_not {data : List Int} {p : Nat} {bad : Bool} {m : Nat} (h : ¬ badOf data p bad m = true) : bad = false ∧ p + m ≤ data.length := by
  unfold badOf at h
  simpa using h
theorem badT_cases {data : List Int} {p : Nat} {bad : Bool} (h : badT data p bad = true) : bad = true ∨ data.length < p + 2 ∨ data.length < p + 2 + lenT data p := by
  unfold badT at h
  simpa using h
theorem badT_not {data : List Int} {p : Nat} {bad : Bool} (h : ¬ badT data p bad = true) : bad = false ∧ p + 2 ≤ data.length ∧ p + 2 + lenT data p ≤ data.length := by
  unfold badT at h
  simpa using h
theorem short_of {data : List Int} {p : Nat} {bad : Bool} {m : Nat} (h : bad = true ∨ data.length < p + m) (hm : 0 < m) : bad = true ∨ (restB data p bad).length < m := by
  rcases h with h | h
  · exact .inl h
  · refine .inr ?_
    unfold restB
    split
    · simpa using hm
    · rw [List.length_drop]; omega
theorem valOf_range (data : List Int) (p : Nat) (bad : Bool) (m : Nat) (hb : Bytes data) : 0 ≤ valOf data p bad m ∧ valOf data p bad m < 256 ^ m := by
  unfold valOf
  split
  · exact ⟨Int.le_refl _, Int.pow_pos (by decide)⟩
  · rename_i h
    have h2 := (badOf_not h).2
    have hr := leVal_range ((data.drop p).take m) ((hb.drop p).take m)
    have hl : ((data.drop p).take m).length = m := by rw [List.length_take, List.length_drop]; omega
    rwa [hl] at hr

theorem r32_step (B g p : Nat) (data : List Int) (bad : Bool) (w : World) (h : Rd B w g (restB data p bad) bad) (hb : Bytes data) :
    Calls Try.prog 29 #[.pointer (some ⟨g, 0, none⟩)] w fun e w' => e = .returned (.int .u32 (valOf data p bad 4)) ∧ Rd B w' g (restB data (atOf data p bad 4) (badOf data p bad 4)) (badOf data p bad 4) ∧ Only g w w' := by
  by_cases hbad : badOf data p bad 4 = true
  · have e1 : valOf data p bad 4 = 0 := if_pos hbad
    rw [e1, hbad, restB_true]
    exact r32_short B g _ bad w h (short_of (badOf_cases hbad) (by omega))
  · obtain ⟨rfl, hle⟩ := badOf_not hbad
    have e1 : valOf data p false 4 = leVal ((data.drop p).take 4) := if_neg hbad
    have e2 : atOf data p false 4 = p + 4 := if_neg hbad
    have e3 : badOf data p false 4 = false := by simpa using hbad
    rw [e1, e2, e3, restB_false, ← List.drop_drop]
    exact r32_ok B g _ w h (by rw [List.length_drop]; omega) (hb.drop p)
theorem r64_step (B g p : Nat) (data : List Int) (bad : Bool) (w : World) (h : Rd B w g (restB data p bad) bad) (hb : Bytes data) :
    Calls Try.prog 31 #[.pointer (some ⟨g, 0, none⟩)] w fun e w' => e = .returned (.int .u64 (valOf data p bad 8)) ∧ Rd B w' g (restB data (atOf data p bad 8) (badOf data p bad 8)) (badOf data p bad 8) ∧ Only g w w' := by
  by_cases hbad : badOf data p bad 8 = true
  · have e1 : valOf data p bad 8 = 0 := if_pos hbad
    rw [e1, hbad, restB_true]
    exact r64_short B g _ bad w h (short_of (badOf_cases hbad) (by omega))
  · obtain ⟨rfl, hle⟩ := badOf_not hbad
    have e1 : valOf data p false 8 = leVal ((data.drop p).take 8) := if_neg hbad
    have e2 : atOf data p false 8 = p + 8 := if_neg hbad
    have e3 : badOf data p false 8 = false := by simpa using hbad
    rw [e1, e2, e3, restB_false, ← List.drop_drop]
    exact r64_ok B g _ w h (by rw [List.length_drop]; omega) (hb.drop p)
theorem rnum_step (w0 w : World) (g m p : Nat) (data : List Int) (bad : Bool) (h : RRd w0 w g data p bad) (hb : Bytes data) (h8 : m ≤ 8) (h9 : data.length ≤ 9223372036854775807) :
    Calls Try.prog 30 #[.pointer (some ⟨g, 0, none⟩), .int .i64 m] w fun e w' => e = .returned (.int .u64 (valOf data p bad m)) ∧ RRd w0 w' g data (atOf data p bad m) (badOf data p bad m) ∧ Only g w w' := by
  by_cases hbad : badOf data p bad m = true
  · have e1 : valOf data p bad m = 0 := if_pos hbad
    have e2 : atOf data p bad m = p := if_pos hbad
    rw [e1, e2, hbad]
    exact rnumber_short w0 w g m p data bad h (badOf_cases hbad) h9
  · obtain ⟨rfl, hle⟩ := badOf_not hbad
    have e1 : valOf data p false m = leVal ((data.drop p).take m) := if_neg hbad
    have e2 : atOf data p false m = p + m := if_neg hbad
    have e3 : badOf data p false m = false := by simpa using hbad
    rw [e1, e2, e3]
    exact rnumber_ok w0 w g m p data h hle h9 h8 hb
theorem rnum4_step (w0 w : World) (g p : Nat) (data : List Int) (bad : Bool) (h : RRd w0 w g data p bad) (hb : Bytes data) (h9 : data.length ≤ 9223372036854775807) :
    Calls Try.prog 30 #[.pointer (some ⟨g, 0, none⟩), .int .i64 4] w fun e w' => e = .returned (.int .u64 (valOf data p bad 4)) ∧ RRd w0 w' g data (atOf data p bad 4) (badOf data p bad 4) ∧ Only g w w' := rnum_step w0 w g 4 p data bad h hb (by omega) h9
theorem rnum8_step (w0 w : World) (g p : Nat) (data : List Int) (bad : Bool) (h : RRd w0 w g data p bad) (hb : Bytes data) (h9 : data.length ≤ 9223372036854775807) :
    Calls Try.prog 30 #[.pointer (some ⟨g, 0, none⟩), .int .i64 8] w fun e w' => e = .returned (.int .u64 (valOf data p bad 8)) ∧ RRd w0 w' g data (atOf data p bad 8) (badOf data p bad 8) ∧ Only g w w' := rnum_step w0 w g 8 p data bad h hb (by omega) h9
theorem rt_step (B g p : Nat) (data : List Int) (bad : Bool) (w : World) (h : Rd B w g (restB data p bad) bad) (hb : Bytes data) :
    Calls Try.prog 32 #[.pointer (some ⟨g, 0, none⟩)] w fun e w' => e = .returned (.string (valT data p bad)) ∧ Rd B w' g (restB data (p + 2 + lenT data p) (badT data p bad)) (badT data p bad) ∧ Only g w w' := by
  by_cases hbad : badT data p bad = true
  · have e1 : valT data p bad = strOfNums [] := if_pos hbad
    rw [e1, hbad, restB_true]
    have hbr : Bytes (restB data p bad) := by
      unfold restB
      split
      · exact Bytes.nil
      · exact hb.drop p
    refine rtext_short B g _ bad w h hbr ?_
    rcases Bool.eq_false_or_eq_true bad with e | e
    · exact .inl e
    · subst e
      rw [restB_false, List.length_drop, List.length_drop, List.length_drop]
      rcases badT_cases hbad with h1 | h1 | h1
      · cases h1
      · right; left; omega
      · unfold lenT at h1
        by_cases h2 : data.length < p + 2
        · right; left; omega
        · right; right; omega
  · obtain ⟨rfl, h2, hle⟩ := badT_not hbad
    have e1 : valT data p false = strOfNums ((data.drop (p + 2)).take (lenT data p)) := if_neg hbad
    have e3 : badT data p false = false := by simpa using hbad
    have := rtext_two B g (data.drop p) w h (by rw [List.length_drop]; omega) (hb.drop p) (by rw [List.length_drop, List.length_drop]; unfold lenT at hle; omega)
    rw [List.drop_drop, List.drop_drop] at this
    rw [e1, e3, restB_false]
    exact this
theorem rrt_step (w0 w : World) (g p : Nat) (data : List Int) (bad : Bool) (h : RRd w0 w g data p bad) (hb : Bytes data) (h9 : data.length ≤ 9223372036854775807) :
    Calls Try.prog 33 #[.pointer (some ⟨g, 0, none⟩)] w fun e w' => e = .returned (.string (valT data p bad)) ∧ (∃ q, RRd w0 w' g data q (badT data p bad) ∧ restB data (p + 2 + lenT data p) (badT data p bad) = restB data q (badT data p bad)) ∧ Only g w w' := by
  by_cases hbad : badT data p bad = true
  · have e1 : valT data p bad = strOfNums [] := if_pos hbad
    rw [e1, hbad]
    refine (rreft_short w0 w g p data bad h h9 hb (badT_cases hbad)).mono ?_
    rintro e w' ⟨h1, ⟨q, h2⟩, h3⟩
    exact ⟨h1, ⟨q, h2, rfl⟩, h3⟩
  · obtain ⟨rfl, h2, hle⟩ := badT_not hbad
    have e1 : valT data p false = strOfNums ((data.drop (p + 2)).take (lenT data p)) := if_neg hbad
    have e3 : badT data p false = false := by simpa using hbad
    rw [e1, e3]
    refine (rreft_ok w0 w g p data h h2 h9 hb hle).mono ?_
    rintro e w' ⟨h1, h2, h3⟩
    exact ⟨h1, ⟨_, h2, rfl⟩, h3⟩
/-- What is left, as both tell it. -/
theorem left_same (data : List Int) (p : Nat) (bad : Bool) (h : p ≤ data.length) : (((restB data p bad).length : Nat) : Int) = (if bad then 0 else (data.length : Int) - p) := by
  unfold restB
  cases bad with
  | true => rfl
  | false => simp [List.length_drop]; omega

--BEGIN WALK
theorem rr_lt {w0 w : World} {g : Nat} {data : List Int} {p : Nat} {bad : Bool} (h : RRd w0 w g data p bad) : g < w.heap.size := by
  obtain ⟨_, hc, _⟩ := h.cell
  exact blk_lt hc
/-- Both readers behind a question to the first. -/
theorem both_one {w w1 w2 : World} {B g1 g2 : Nat} {data rest : List Int} {p : Nat} {bad b' : Bool} (hr : RRd w w1 g2 data p bad) (ho : Only g1 w1 w2) (hne : g1 ≠ g2) (hB : w.heap.size ≤ B) (hd : Rd B w2 g1 rest b') : RRd w w2 g2 data p bad :=
  hr.move (hr.below.trans (ho.below (Nat.le_trans hB hd.base) hr.below.size)) (ho.block g2 (rr_lt hr) (fun h => hne h.symm))
theorem both_two {w w1 w2 : World} {B g1 g2 : Nat} {data rest : List Int} {p : Nat} {bad b' : Bool} (hr : RRd w w1 g2 data p bad) (ho : Only g2 w1 w2) (hne : g1 ≠ g2) (hd : Rd B w1 g1 rest b') : Rd B w2 g1 rest b' := by
  obtain ⟨v, hc, _⟩ := hr.cell
  exact hd.only ho hne hc (by decide)

set_option maxRecDepth 100000 in
set_option maxHeartbeats 12000000 in
theorem PackReads_any (A1 A2 : Option Addr) (c1 c2 : Nat) (xs qs : List Int) (w : World) (r1 : ReadsInt w .u8 A1 xs.length xs) (hc1 : xs.length ≤ c1) (hb : Bytes xs) (r2 : ReadsInt w .u8 A2 qs.length qs) (hq : Bytes qs) :
    Calls Try.prog 12 #[.slice A1 xs.length c1, .slice A2 qs.length c2] w fun e w' => e = .returned (.bool true) ∧ Below w.heap.size w w' := by
  have hm1 := r1.2.1
  have hm2 := r2.2.1
  have R1 := Lib.hid (show Bs w (.slice A1 xs.length c1) xs from ⟨A1, c1, rfl, hc1, r1⟩)
  have R2 := Lib.hid r2
  have HB := Lib.hid hb
  have HQ := Lib.hid hq
  clear r1 r2 hb hq
  by_cases g1 : xs.length ≤ 1000
  · by_cases g2 : qs.length ≤ 100
    · have d1 : decide ((1000 : Int) < (xs.length : Int)) = false := decide_eq_false (by omega)
      have d2 : decide ((100 : Int) < (qs.length : Int)) = false := decide_eq_false (by omega)
      have HE := Lib.hid (Ow.lit (Below.refl w.heap.size w) [] (by simp))
      go_enter Try.func12, Try.ntmps12
      go_wp2_with (at_builtin; refine Held.of ?_)
      refine app_bytes rfl (.tmp 17) (.tmp 18) 22 rfl Try.underlying22 _ _ [] xs rfl rfl HE.out (R1.out.alloc _) (by (try simp only [List.length_append, List.length_nil, List.length_cons]); omega) ?_
      clear HE
      intro va w1 o1 _
      rw [List.nil_append] at o1
      have O1 := Lib.hid o1
      clear o1
      go_wp2_with fail
      refine (new_any _ _ _ O1.out.bs (by omega)).mono ?_
      rintro e w2 ⟨g1, rfl, hr, hb2⟩
      obtain ⟨B, hB⟩ : ∃ B, w1.heap.size = B := ⟨_, rfl⟩
      rw [hB] at hr
      have hB0 : w.heap.size ≤ B := by rw [← hB]; exact O1.out.below.size
      have HB2 := Lib.hid (below_then O1.out.below O1.out.below.size hb2)
      have HR := Lib.hid hr
      clear hr hb2 hB O1
      have hgl := HR.out.lt
      have hR : Rd B (w2.alloc (.cells #[.slice A1 xs.length c1, .int .i64 0, .bool false] 52)) g1 (restB xs 0 false) false := by
        rw [restB_false, List.drop_zero]
        exact HR.out.below (below_alloc (Below.refl _ _) _)
      have hRR : RRd w (w2.alloc (.cells #[.slice A1 xs.length c1, .int .i64 0, .bool false] 52)) w2.heap.size xs 0 false :=
        ⟨⟨_, blk_new w2 _, R1.out⟩, below_alloc HB2.out _, HB2.out.size, Nat.zero_le _⟩
      have HRD0 := Lib.hid hR
      have HRR0 := Lib.hid hRR
      have hne : g1 ≠ w2.heap.size := by omega
      obtain ⟨g2, hg2⟩ : ∃ g2, w2.heap.size = g2 := ⟨_, rfl⟩
      have HG2 := Lib.hid hg2
      clear hR hRR hgl HR hg2
      go_wp2
      rw [HG2.out] at HRR0 hne ⊢
      go_loopw [7] (fun i wx => ∃ (k p : Nat) (bad : Bool), k ≤ qs.length ∧ i = .int .i64 k ∧ Rd B wx g1 (restB xs p bad) bad ∧ RRd w wx g2 xs p bad) (fun i _ => qs.length - (intOf i).toNat)
      case atStart => exact ⟨0, 0, false, Nat.zero_le _, rfl, HRD0.out, HRR0.out⟩
      case round =>
        obtain ⟨k, p, bad, hk, rfl, hrd, hrr⟩ := hrel
        have HRD := Lib.hid hrd
        have HRR := Lib.hid hrr
        clear hrd hrr HRD0 HRR0 HB2 HG2
        by_cases hlt : k < qs.length
        · obtain ⟨ad, e1, hcell⟩ := at_nat (R2.out.below HRR.out.below) k hlt
          cases e1
          have hby := rd_byte HQ.out k hlt
          obtain ⟨y0, y1⟩ := hby
          obtain ⟨x, hx⟩ : ∃ x, rd qs (k : Int) = x := ⟨_, rfl⟩
          rw [hx] at hcell y0 y1
          clear hx
          rcases (by omega : x % 3 = 0 ∨ x % 3 = 1 ∨ x % 3 = 2) with hx3 | hx3 | hx3
          · have s0 : (x % 3 == 0) = true := by rw [hx3]; rfl
            have s1 : (x % 3 == 1) = false := by rw [hx3]; rfl
            have s2 : (x % 3 == 2) = false := by rw [hx3]; rfl
            clear hx3
            obtain ⟨v0, v1⟩ := valOf_range xs p bad 4 HB.out
            go_wp2_with fail
            refine (r32_step B g1 p xs bad _ HRD.out HB.out).mono ?_
            rintro e w3 ⟨rfl, hr3, ho3⟩
            have HRD3 := Lib.hid hr3
            have HRR3 := Lib.hid (both_one HRR.out ho3 hne hB0 hr3)
            clear hr3 ho3 HRD HRR
            obtain ⟨v, hv⟩ : ∃ v, valOf xs p bad 4 = v := ⟨_, rfl⟩
            have HV := Lib.hid hv
            rw [hv] at v0 v1 ⊢
            clear hv
            have v2 : v < 4294967296 := v1
            go_wp2_with fail
            refine (rnum4_step w _ g2 p xs bad HRR3.out HB.out hm1).mono ?_
            rintro e wy ⟨rfl, hr4, ho4⟩
            rw [HV.out]
            have hrd4 := both_two HRR3.out ho4 hne HRD3.out
            obtain ⟨p2, hp2⟩ : ∃ p2, atOf xs p bad 4 = p2 := ⟨_, rfl⟩
            obtain ⟨b2, hb2⟩ : ∃ b2, badOf xs p bad 4 = b2 := ⟨_, rfl⟩
            rw [hp2, hb2] at hr4 hrd4
            have HRD := Lib.hid hrd4
            have HRR := Lib.hid hr4
            clear hr4 ho4 hrd4 hp2 hb2 HRD3 HRR3
            obtain ⟨wx, hwx⟩ : ∃ wx, wx = wy := ⟨_, rfl⟩
            subst hwx
            obtain ⟨_, hc2, _⟩ := HRR.out.cell
            have hcell2 : wx.drew.cell? ⟨g2, 2, none⟩ = some (.bool b2) := blk_cell hc2 2
            have HLS := Lib.hid (left_same xs p2 b2 HRR.out.le)
            clear hc2
            go_wp2
            refine start_ (n := 14) (S := fun w' => Below wx.heap.size wx w' ∧ w'.cell? ⟨g2, 2, none⟩ = some (.bool b2)) (ds := []) #[false, false, false, false, false, false, false, false, false, false, false, false, false, false] (by kernel_rfl) rfl rfl ⟨below_drew (Below.refl _ _), hcell2⟩ (fun hHeld => ?_)
            refine pure_ (i := 0) (N := some 58) (v := ?_) (a' := ?_) #[true, false, false, false, false, false, false, false, false, false, false, false, false, false] rfl rfl (by kernel_rfl) (fun _ _ _ h => h) (Or.inl ⟨by rfl, ?_⟩) ?_ ?_
            rotate_left
            · intro w'
              go_simp
              with_reducible rfl
            rotate_left
            · simp only [Act.put, List.setIfInBounds_toArray, List.set_cons_zero, List.set_cons_succ, i64_w, i32_w]
              rfl
            refine pure_ (i := 2) (N := some 60) (v := ?_) (a' := ?_) #[true, false, true, false, false, false, false, false, false, false, false, false, false, false] rfl rfl (by kernel_rfl) (fun _ _ _ h => h) (Or.inl ⟨by rfl, ?_⟩) ?_ ?_
            rotate_left
            · intro w'
              go_simp
              with_reducible rfl
            rotate_left
            · simp only [Act.put, List.setIfInBounds_toArray, List.set_cons_zero, List.set_cons_succ, i64_w, i32_w]
              rfl
            refine one_ (i := 1) (N := some 59) #[true, true, true, false, false, false, false, false, false, false, false, false, false, false] rfl rfl (by kernel_rfl) (by decide) (fun K hK => ?_)
            refine goes_ Try.func34 (by kernel_rfl) rfl #[.pointer (some ⟨g1, 0, none⟩)] (by rfl) rfl rfl (by first | (simp only [List.map_toArray, List.map_cons, List.map_nil]; done) | (simp only [List.map_toArray, List.map_cons, List.map_nil]; rfl) | rfl) ?_
            with_reducible refine (left_any B g1 _ _ _ (HRD.out.below hHeld.1)).mono ?_
            rintro e w3 ⟨rfl, rfl⟩
            refine ⟨_, rfl, ?_⟩
            rw [HLS.out]
            refine hK.out _ _ ⟨hHeld.1, hHeld.2⟩ (fun hHeld => ?_)
            clear hK K
            refine norm_ (a' := ?_) ?_ ?_
            rotate_left
            · show Act.put _ (some 59) _ = _
              simp only [Act.put, List.setIfInBounds_toArray, List.set_cons_zero, List.set_cons_succ, i64_w, i32_w]
              rfl
            refine one_ (i := 3) (N := some 61) #[true, true, true, true, false, false, false, false, false, false, false, false, false, false] rfl rfl (by kernel_rfl) (by decide) (fun K hK => ?_)
            refine goes_ Try.func35 (by kernel_rfl) rfl #[.pointer (some ⟨g2, 0, none⟩)] (by rfl) rfl rfl (by first | (simp only [List.map_toArray, List.map_cons, List.map_nil]; done) | (simp only [List.map_toArray, List.map_cons, List.map_nil]; rfl) | rfl) ?_
            with_reducible refine (rleft_any w _ g2 p2 xs b2 (HRR.out.move (HRR.out.below.trans (hHeld.1.mono HRR.out.below.size)) (hHeld.1.block g2 (rr_lt HRR.out))) hm1).mono ?_
            rintro e w3 ⟨rfl, ⟨⟨nd, rfl⟩⟩⟩
            refine ⟨_, rfl, ?_⟩
            refine hK.out _ _ ⟨pw_below_drewN hHeld.1 _, hHeld.2⟩ (fun hHeld => ?_)
            clear hK K
            refine norm_ (a' := ?_) ?_ ?_
            rotate_left
            · show Act.put _ (some 61) _ = _
              simp only [Act.put, List.setIfInBounds_toArray, List.set_cons_zero, List.set_cons_succ, i64_w, i32_w]
              rfl
            refine pure_ (i := 4) (N := some 62) (v := ?_) (a' := ?_) #[true, true, true, true, true, false, false, false, false, false, false, false, false, false] rfl rfl (by kernel_rfl) (fun _ _ _ h => h) (Or.inl ⟨by rfl, ?_⟩) ?_ ?_
            rotate_left
            · intro w'
              go_simp
              with_reducible rfl
            rotate_left
            · simp only [Act.put, List.setIfInBounds_toArray, List.set_cons_zero, List.set_cons_succ, i64_w, i32_w]
              rfl
            refine pure_ (i := 5) (N := some 63) (v := ?_) (a' := ?_) #[true, true, true, true, true, true, false, false, false, false, false, false, false, false] rfl rfl (by kernel_rfl) (fun _ _ _ h => h) (Or.inl ⟨by rfl, ?_⟩) ?_ ?_
            rotate_left
            · intro w'
              go_simp
              with_reducible rfl
            rotate_left
            · simp only [Act.put, List.setIfInBounds_toArray, List.set_cons_zero, List.set_cons_succ, i64_w, i32_w]
              rfl
            refine pure_ (i := 6) (N := some 64) (v := ?_) (a' := ?_) #[true, true, true, true, true, true, true, false, false, false, false, false, false, false] rfl rfl (by kernel_rfl) (fun _ _ _ h => h) (Or.inl ⟨by rfl, ?_⟩) ?_ ?_
            rotate_left
            · intro w'
              go_simp
              with_reducible rfl
            rotate_left
            · simp only [Act.put, List.setIfInBounds_toArray, List.set_cons_zero, List.set_cons_succ, i64_w, i32_w]
              rfl
            refine pure_ (i := 8) (N := some 66) (v := ?_) (a' := ?_) #[true, true, true, true, true, true, true, false, true, false, false, false, false, false] rfl rfl (by kernel_rfl) (fun _ _ _ h => h) (Or.inl ⟨by rfl, ?_⟩) ?_ ?_
            rotate_left
            · intro w'
              go_simp
              with_reducible rfl
            rotate_left
            · simp only [Act.put, List.setIfInBounds_toArray, List.set_cons_zero, List.set_cons_succ, i64_w, i32_w]
              rfl
            refine pure_ (i := 9) (N := some 67) (v := ?_) (a' := ?_) #[true, true, true, true, true, true, true, false, true, true, false, false, false, false] rfl rfl (by kernel_rfl) (fun _ _ _ h => h) (Or.inl ⟨by rfl, ?_⟩) ?_ ?_
            rotate_left
            · intro w'
              go_simp
              with_reducible rfl
            rotate_left
            · simp only [Act.put, List.setIfInBounds_toArray, List.set_cons_zero, List.set_cons_succ, i64_w, i32_w]
              rfl
            refine pure_ (i := 10) (N := some 68) (v := ?_) (a' := ?_) #[true, true, true, true, true, true, true, false, true, true, true, false, false, false] rfl rfl (by kernel_rfl) (fun _ _ _ h => h) (Or.inl ⟨by rfl, ?_⟩) ?_ ?_
            rotate_left
            · intro w'
              go_simp
              with_reducible rfl
            rotate_left
            · simp only [Act.put, List.setIfInBounds_toArray, List.set_cons_zero, List.set_cons_succ, i64_w, i32_w]
              rfl
            refine take_ (i := 11) (N := some 69) (v := ?_) (a' := ?_) #[true, true, true, true, true, true, true, false, true, true, true, true, false, false] rfl rfl (by kernel_rfl) (fun _ _ _ h => h) (Or.inl ⟨by rfl, ?_⟩) hHeld ?_ ?_
            rotate_left
            · rintro w' ⟨s0, s1⟩
              go_simp
              with_reducible rfl
            rotate_left
            · simp only [Act.put, List.setIfInBounds_toArray, List.set_cons_zero, List.set_cons_succ, i64_w, i32_w]
              rfl
            refine one_ (i := 7) (N := some 65) #[true, true, true, true, true, true, true, true, true, true, true, true, false, false] rfl rfl (by kernel_rfl) (by decide) (fun K hK => ?_)
            refine goes_ Try.func36 (by kernel_rfl) rfl #[.pointer (some ⟨g1, 0, none⟩)] (by rfl) rfl rfl (by first | (simp only [List.map_toArray, List.map_cons, List.map_nil]; done) | (simp only [List.map_toArray, List.map_cons, List.map_nil]; rfl) | rfl) ?_
            with_reducible refine (right_any B g1 _ _ _ (HRD.out.below hHeld.1)).mono ?_
            rintro e w3 ⟨rfl, rfl⟩
            refine ⟨_, rfl, ?_⟩
            refine hK.out _ _ ⟨hHeld.1, hHeld.2⟩ (fun hHeld => ?_)
            clear hK K
            refine norm_ (a' := ?_) ?_ ?_
            rotate_left
            · show Act.put _ (some 65) _ = _
              simp only [Act.put, List.setIfInBounds_toArray, List.set_cons_zero, List.set_cons_succ, i64_w, i32_w]
              rfl
            refine pure_ (i := 12) (N := some 70) (v := ?_) (a' := ?_) #[true, true, true, true, true, true, true, true, true, true, true, true, true, false] rfl rfl (by kernel_rfl) (fun _ _ _ h => h) (Or.inl ⟨by rfl, ?_⟩) ?_ ?_
            rotate_left
            · intro w'
              go_simp
              with_reducible rfl
            rotate_left
            · simp only [Act.put, List.setIfInBounds_toArray, List.set_cons_zero, List.set_cons_succ, i64_w, i32_w]
              rfl
            refine pure_ (i := 13) (N := some 71) (v := ?_) (a' := ?_) #[true, true, true, true, true, true, true, true, true, true, true, true, true, true] rfl rfl (by kernel_rfl) (fun _ _ _ h => h) (Or.inl ⟨by rfl, ?_⟩) ?_ ?_
            rotate_left
            · intro w'
              go_simp
              with_reducible rfl
            rotate_left
            · simp only [Act.put, List.setIfInBounds_toArray, List.set_cons_zero, List.set_cons_succ, i64_w, i32_w]
              rfl
            refine done_ (by kernel_rfl) ?_
            have hrd9 : ∀ q, Rd B (wx.drewN q) g1 (restB xs p2 b2) b2 := fun q => HRD.out.drewN q
            have hrr9 : ∀ q, RRd w (wx.drewN q) g2 xs p2 b2 := fun q => HRR.out.move (pw_below_drewN HRR.out.below q) rfl
            have H9 := Lib.hid hrd9
            have H8 := Lib.hid hrr9
            clear hrd9 hrr9
            cases b2
            all_goals
              go_wp2
              go_roundw
              case rel => exact ⟨k + 1, p2, _, by omega, by go_num, H9.out _, H8.out _⟩
              case measure => simp [intOf]; omega
          · have s0 : (x % 3 == 0) = false := by rw [hx3]; rfl
            have s1 : (x % 3 == 1) = true := by rw [hx3]; rfl
            have s2 : (x % 3 == 2) = false := by rw [hx3]; rfl
            clear hx3
            obtain ⟨v0, v1⟩ := valOf_range xs p bad 8 HB.out
            go_wp2_with fail
            refine (r64_step B g1 p xs bad _ HRD.out HB.out).mono ?_
            rintro e w3 ⟨rfl, hr3, ho3⟩
            have HRD3 := Lib.hid hr3
            have HRR3 := Lib.hid (both_one HRR.out ho3 hne hB0 hr3)
            clear hr3 ho3 HRD HRR
            obtain ⟨v, hv⟩ : ∃ v, valOf xs p bad 8 = v := ⟨_, rfl⟩
            have HV := Lib.hid hv
            rw [hv] at v0 v1 ⊢
            clear hv
            have v2 : v < 18446744073709551616 := v1
            go_wp2_with fail
            refine (rnum8_step w _ g2 p xs bad HRR3.out HB.out hm1).mono ?_
            rintro e wy ⟨rfl, hr4, ho4⟩
            rw [HV.out]
            have hrd4 := both_two HRR3.out ho4 hne HRD3.out
            obtain ⟨p2, hp2⟩ : ∃ p2, atOf xs p bad 8 = p2 := ⟨_, rfl⟩
            obtain ⟨b2, hb2⟩ : ∃ b2, badOf xs p bad 8 = b2 := ⟨_, rfl⟩
            rw [hp2, hb2] at hr4 hrd4
            have HRD := Lib.hid hrd4
            have HRR := Lib.hid hr4
            clear hr4 ho4 hrd4 hp2 hb2 HRD3 HRR3
            obtain ⟨wx, hwx⟩ : ∃ wx, wx = wy := ⟨_, rfl⟩
            subst hwx
            obtain ⟨_, hc2, _⟩ := HRR.out.cell
            have hcell2 : wx.drew.cell? ⟨g2, 2, none⟩ = some (.bool b2) := blk_cell hc2 2
            have HLS := Lib.hid (left_same xs p2 b2 HRR.out.le)
            clear hc2
            go_wp2
            refine start_ (n := 14) (S := fun w' => Below wx.heap.size wx w' ∧ w'.cell? ⟨g2, 2, none⟩ = some (.bool b2)) (ds := []) #[false, false, false, false, false, false, false, false, false, false, false, false, false, false] (by kernel_rfl) rfl rfl ⟨below_drew (Below.refl _ _), hcell2⟩ (fun hHeld => ?_)
            refine pure_ (i := 0) (N := some 58) (v := ?_) (a' := ?_) #[true, false, false, false, false, false, false, false, false, false, false, false, false, false] rfl rfl (by kernel_rfl) (fun _ _ _ h => h) (Or.inl ⟨by rfl, ?_⟩) ?_ ?_
            rotate_left
            · intro w'
              go_simp
              with_reducible rfl
            rotate_left
            · simp only [Act.put, List.setIfInBounds_toArray, List.set_cons_zero, List.set_cons_succ, i64_w, i32_w]
              rfl
            refine pure_ (i := 2) (N := some 60) (v := ?_) (a' := ?_) #[true, false, true, false, false, false, false, false, false, false, false, false, false, false] rfl rfl (by kernel_rfl) (fun _ _ _ h => h) (Or.inl ⟨by rfl, ?_⟩) ?_ ?_
            rotate_left
            · intro w'
              go_simp
              with_reducible rfl
            rotate_left
            · simp only [Act.put, List.setIfInBounds_toArray, List.set_cons_zero, List.set_cons_succ, i64_w, i32_w]
              rfl
            refine one_ (i := 1) (N := some 59) #[true, true, true, false, false, false, false, false, false, false, false, false, false, false] rfl rfl (by kernel_rfl) (by decide) (fun K hK => ?_)
            refine goes_ Try.func34 (by kernel_rfl) rfl #[.pointer (some ⟨g1, 0, none⟩)] (by rfl) rfl rfl (by first | (simp only [List.map_toArray, List.map_cons, List.map_nil]; done) | (simp only [List.map_toArray, List.map_cons, List.map_nil]; rfl) | rfl) ?_
            with_reducible refine (left_any B g1 _ _ _ (HRD.out.below hHeld.1)).mono ?_
            rintro e w3 ⟨rfl, rfl⟩
            refine ⟨_, rfl, ?_⟩
            rw [HLS.out]
            refine hK.out _ _ ⟨hHeld.1, hHeld.2⟩ (fun hHeld => ?_)
            clear hK K
            refine norm_ (a' := ?_) ?_ ?_
            rotate_left
            · show Act.put _ (some 59) _ = _
              simp only [Act.put, List.setIfInBounds_toArray, List.set_cons_zero, List.set_cons_succ, i64_w, i32_w]
              rfl
            refine one_ (i := 3) (N := some 61) #[true, true, true, true, false, false, false, false, false, false, false, false, false, false] rfl rfl (by kernel_rfl) (by decide) (fun K hK => ?_)
            refine goes_ Try.func35 (by kernel_rfl) rfl #[.pointer (some ⟨g2, 0, none⟩)] (by rfl) rfl rfl (by first | (simp only [List.map_toArray, List.map_cons, List.map_nil]; done) | (simp only [List.map_toArray, List.map_cons, List.map_nil]; rfl) | rfl) ?_
            with_reducible refine (rleft_any w _ g2 p2 xs b2 (HRR.out.move (HRR.out.below.trans (hHeld.1.mono HRR.out.below.size)) (hHeld.1.block g2 (rr_lt HRR.out))) hm1).mono ?_
            rintro e w3 ⟨rfl, ⟨⟨nd, rfl⟩⟩⟩
            refine ⟨_, rfl, ?_⟩
            refine hK.out _ _ ⟨pw_below_drewN hHeld.1 _, hHeld.2⟩ (fun hHeld => ?_)
            clear hK K
            refine norm_ (a' := ?_) ?_ ?_
            rotate_left
            · show Act.put _ (some 61) _ = _
              simp only [Act.put, List.setIfInBounds_toArray, List.set_cons_zero, List.set_cons_succ, i64_w, i32_w]
              rfl
            refine pure_ (i := 4) (N := some 62) (v := ?_) (a' := ?_) #[true, true, true, true, true, false, false, false, false, false, false, false, false, false] rfl rfl (by kernel_rfl) (fun _ _ _ h => h) (Or.inl ⟨by rfl, ?_⟩) ?_ ?_
            rotate_left
            · intro w'
              go_simp
              with_reducible rfl
            rotate_left
            · simp only [Act.put, List.setIfInBounds_toArray, List.set_cons_zero, List.set_cons_succ, i64_w, i32_w]
              rfl
            refine pure_ (i := 5) (N := some 63) (v := ?_) (a' := ?_) #[true, true, true, true, true, true, false, false, false, false, false, false, false, false] rfl rfl (by kernel_rfl) (fun _ _ _ h => h) (Or.inl ⟨by rfl, ?_⟩) ?_ ?_
            rotate_left
            · intro w'
              go_simp
              with_reducible rfl
            rotate_left
            · simp only [Act.put, List.setIfInBounds_toArray, List.set_cons_zero, List.set_cons_succ, i64_w, i32_w]
              rfl
            refine pure_ (i := 6) (N := some 64) (v := ?_) (a' := ?_) #[true, true, true, true, true, true, true, false, false, false, false, false, false, false] rfl rfl (by kernel_rfl) (fun _ _ _ h => h) (Or.inl ⟨by rfl, ?_⟩) ?_ ?_
            rotate_left
            · intro w'
              go_simp
              with_reducible rfl
            rotate_left
            · simp only [Act.put, List.setIfInBounds_toArray, List.set_cons_zero, List.set_cons_succ, i64_w, i32_w]
              rfl
            refine pure_ (i := 8) (N := some 66) (v := ?_) (a' := ?_) #[true, true, true, true, true, true, true, false, true, false, false, false, false, false] rfl rfl (by kernel_rfl) (fun _ _ _ h => h) (Or.inl ⟨by rfl, ?_⟩) ?_ ?_
            rotate_left
            · intro w'
              go_simp
              with_reducible rfl
            rotate_left
            · simp only [Act.put, List.setIfInBounds_toArray, List.set_cons_zero, List.set_cons_succ, i64_w, i32_w]
              rfl
            refine pure_ (i := 9) (N := some 67) (v := ?_) (a' := ?_) #[true, true, true, true, true, true, true, false, true, true, false, false, false, false] rfl rfl (by kernel_rfl) (fun _ _ _ h => h) (Or.inl ⟨by rfl, ?_⟩) ?_ ?_
            rotate_left
            · intro w'
              go_simp
              with_reducible rfl
            rotate_left
            · simp only [Act.put, List.setIfInBounds_toArray, List.set_cons_zero, List.set_cons_succ, i64_w, i32_w]
              rfl
            refine pure_ (i := 10) (N := some 68) (v := ?_) (a' := ?_) #[true, true, true, true, true, true, true, false, true, true, true, false, false, false] rfl rfl (by kernel_rfl) (fun _ _ _ h => h) (Or.inl ⟨by rfl, ?_⟩) ?_ ?_
            rotate_left
            · intro w'
              go_simp
              with_reducible rfl
            rotate_left
            · simp only [Act.put, List.setIfInBounds_toArray, List.set_cons_zero, List.set_cons_succ, i64_w, i32_w]
              rfl
            refine take_ (i := 11) (N := some 69) (v := ?_) (a' := ?_) #[true, true, true, true, true, true, true, false, true, true, true, true, false, false] rfl rfl (by kernel_rfl) (fun _ _ _ h => h) (Or.inl ⟨by rfl, ?_⟩) hHeld ?_ ?_
            rotate_left
            · rintro w' ⟨s0, s1⟩
              go_simp
              with_reducible rfl
            rotate_left
            · simp only [Act.put, List.setIfInBounds_toArray, List.set_cons_zero, List.set_cons_succ, i64_w, i32_w]
              rfl
            refine one_ (i := 7) (N := some 65) #[true, true, true, true, true, true, true, true, true, true, true, true, false, false] rfl rfl (by kernel_rfl) (by decide) (fun K hK => ?_)
            refine goes_ Try.func36 (by kernel_rfl) rfl #[.pointer (some ⟨g1, 0, none⟩)] (by rfl) rfl rfl (by first | (simp only [List.map_toArray, List.map_cons, List.map_nil]; done) | (simp only [List.map_toArray, List.map_cons, List.map_nil]; rfl) | rfl) ?_
            with_reducible refine (right_any B g1 _ _ _ (HRD.out.below hHeld.1)).mono ?_
            rintro e w3 ⟨rfl, rfl⟩
            refine ⟨_, rfl, ?_⟩
            refine hK.out _ _ ⟨hHeld.1, hHeld.2⟩ (fun hHeld => ?_)
            clear hK K
            refine norm_ (a' := ?_) ?_ ?_
            rotate_left
            · show Act.put _ (some 65) _ = _
              simp only [Act.put, List.setIfInBounds_toArray, List.set_cons_zero, List.set_cons_succ, i64_w, i32_w]
              rfl
            refine pure_ (i := 12) (N := some 70) (v := ?_) (a' := ?_) #[true, true, true, true, true, true, true, true, true, true, true, true, true, false] rfl rfl (by kernel_rfl) (fun _ _ _ h => h) (Or.inl ⟨by rfl, ?_⟩) ?_ ?_
            rotate_left
            · intro w'
              go_simp
              with_reducible rfl
            rotate_left
            · simp only [Act.put, List.setIfInBounds_toArray, List.set_cons_zero, List.set_cons_succ, i64_w, i32_w]
              rfl
            refine pure_ (i := 13) (N := some 71) (v := ?_) (a' := ?_) #[true, true, true, true, true, true, true, true, true, true, true, true, true, true] rfl rfl (by kernel_rfl) (fun _ _ _ h => h) (Or.inl ⟨by rfl, ?_⟩) ?_ ?_
            rotate_left
            · intro w'
              go_simp
              with_reducible rfl
            rotate_left
            · simp only [Act.put, List.setIfInBounds_toArray, List.set_cons_zero, List.set_cons_succ, i64_w, i32_w]
              rfl
            refine done_ (by kernel_rfl) ?_
            have hrd9 : ∀ q, Rd B (wx.drewN q) g1 (restB xs p2 b2) b2 := fun q => HRD.out.drewN q
            have hrr9 : ∀ q, RRd w (wx.drewN q) g2 xs p2 b2 := fun q => HRR.out.move (pw_below_drewN HRR.out.below q) rfl
            have H9 := Lib.hid hrd9
            have H8 := Lib.hid hrr9
            clear hrd9 hrr9
            cases b2
            all_goals
              go_wp2
              go_roundw
              case rel => exact ⟨k + 1, p2, _, by omega, by go_num, H9.out _, H8.out _⟩
              case measure => simp [intOf]; omega
          · have s0 : (x % 3 == 0) = false := by rw [hx3]; rfl
            have s1 : (x % 3 == 1) = false := by rw [hx3]; rfl
            have s2 : (x % 3 == 2) = true := by rw [hx3]; rfl
            clear hx3
            go_wp2_with fail
            refine (rt_step B g1 p xs bad _ HRD.out HB.out).mono ?_
            rintro e w3 ⟨rfl, hr3, ho3⟩
            have HRD3 := Lib.hid hr3
            have HRR3 := Lib.hid (both_one HRR.out ho3 hne hB0 hr3)
            clear hr3 ho3 HRD HRR
            go_wp2_with fail
            refine (rrt_step w _ g2 p xs bad HRR3.out HB.out hm1).mono ?_
            rintro e wy ⟨rfl, ⟨p2, hr4, he4⟩, ho4⟩
            have hrd4 := both_two HRR3.out ho4 hne HRD3.out
            rw [he4] at hrd4
            obtain ⟨b2, hb2⟩ : ∃ b2, badT xs p bad = b2 := ⟨_, rfl⟩
            rw [hb2] at hr4 hrd4
            have HRD := Lib.hid hrd4
            have HRR := Lib.hid hr4
            clear hr4 ho4 hrd4 hb2 he4 HRD3 HRR3
            obtain ⟨wx, hwx⟩ : ∃ wx, wx = wy := ⟨_, rfl⟩
            subst hwx
            obtain ⟨_, hc2, _⟩ := HRR.out.cell
            have hcell2 : wx.drew.cell? ⟨g2, 2, none⟩ = some (.bool b2) := blk_cell hc2 2
            have HLS := Lib.hid (left_same xs p2 b2 HRR.out.le)
            clear hc2
            go_wp2
            refine start_ (n := 14) (S := fun w' => Below wx.heap.size wx w' ∧ w'.cell? ⟨g2, 2, none⟩ = some (.bool b2)) (ds := []) #[false, false, false, false, false, false, false, false, false, false, false, false, false, false] (by kernel_rfl) rfl rfl ⟨below_drew (Below.refl _ _), hcell2⟩ (fun hHeld => ?_)
            refine pure_ (i := 0) (N := some 58) (v := ?_) (a' := ?_) #[true, false, false, false, false, false, false, false, false, false, false, false, false, false] rfl rfl (by kernel_rfl) (fun _ _ _ h => h) (Or.inl ⟨by rfl, ?_⟩) ?_ ?_
            rotate_left
            · intro w'
              go_simp
              with_reducible rfl
            rotate_left
            · simp only [Act.put, List.setIfInBounds_toArray, List.set_cons_zero, List.set_cons_succ, i64_w, i32_w]
              rfl
            refine pure_ (i := 2) (N := some 60) (v := ?_) (a' := ?_) #[true, false, true, false, false, false, false, false, false, false, false, false, false, false] rfl rfl (by kernel_rfl) (fun _ _ _ h => h) (Or.inl ⟨by rfl, ?_⟩) ?_ ?_
            rotate_left
            · intro w'
              go_simp
              with_reducible rfl
            rotate_left
            · simp only [Act.put, List.setIfInBounds_toArray, List.set_cons_zero, List.set_cons_succ, i64_w, i32_w]
              rfl
            refine one_ (i := 1) (N := some 59) #[true, true, true, false, false, false, false, false, false, false, false, false, false, false] rfl rfl (by kernel_rfl) (by decide) (fun K hK => ?_)
            refine goes_ Try.func34 (by kernel_rfl) rfl #[.pointer (some ⟨g1, 0, none⟩)] (by rfl) rfl rfl (by first | (simp only [List.map_toArray, List.map_cons, List.map_nil]; done) | (simp only [List.map_toArray, List.map_cons, List.map_nil]; rfl) | rfl) ?_
            with_reducible refine (left_any B g1 _ _ _ (HRD.out.below hHeld.1)).mono ?_
            rintro e w3 ⟨rfl, rfl⟩
            refine ⟨_, rfl, ?_⟩
            rw [HLS.out]
            refine hK.out _ _ ⟨hHeld.1, hHeld.2⟩ (fun hHeld => ?_)
            clear hK K
            refine norm_ (a' := ?_) ?_ ?_
            rotate_left
            · show Act.put _ (some 59) _ = _
              simp only [Act.put, List.setIfInBounds_toArray, List.set_cons_zero, List.set_cons_succ, i64_w, i32_w]
              rfl
            refine one_ (i := 3) (N := some 61) #[true, true, true, true, false, false, false, false, false, false, false, false, false, false] rfl rfl (by kernel_rfl) (by decide) (fun K hK => ?_)
            refine goes_ Try.func35 (by kernel_rfl) rfl #[.pointer (some ⟨g2, 0, none⟩)] (by rfl) rfl rfl (by first | (simp only [List.map_toArray, List.map_cons, List.map_nil]; done) | (simp only [List.map_toArray, List.map_cons, List.map_nil]; rfl) | rfl) ?_
            with_reducible refine (rleft_any w _ g2 p2 xs b2 (HRR.out.move (HRR.out.below.trans (hHeld.1.mono HRR.out.below.size)) (hHeld.1.block g2 (rr_lt HRR.out))) hm1).mono ?_
            rintro e w3 ⟨rfl, ⟨⟨nd, rfl⟩⟩⟩
            refine ⟨_, rfl, ?_⟩
            refine hK.out _ _ ⟨pw_below_drewN hHeld.1 _, hHeld.2⟩ (fun hHeld => ?_)
            clear hK K
            refine norm_ (a' := ?_) ?_ ?_
            rotate_left
            · show Act.put _ (some 61) _ = _
              simp only [Act.put, List.setIfInBounds_toArray, List.set_cons_zero, List.set_cons_succ, i64_w, i32_w]
              rfl
            refine pure_ (i := 4) (N := some 62) (v := ?_) (a' := ?_) #[true, true, true, true, true, false, false, false, false, false, false, false, false, false] rfl rfl (by kernel_rfl) (fun _ _ _ h => h) (Or.inl ⟨by rfl, ?_⟩) ?_ ?_
            rotate_left
            · intro w'
              go_simp
              with_reducible rfl
            rotate_left
            · simp only [Act.put, List.setIfInBounds_toArray, List.set_cons_zero, List.set_cons_succ, i64_w, i32_w]
              rfl
            refine pure_ (i := 5) (N := some 63) (v := ?_) (a' := ?_) #[true, true, true, true, true, true, false, false, false, false, false, false, false, false] rfl rfl (by kernel_rfl) (fun _ _ _ h => h) (Or.inl ⟨by rfl, ?_⟩) ?_ ?_
            rotate_left
            · intro w'
              go_simp
              with_reducible rfl
            rotate_left
            · simp only [Act.put, List.setIfInBounds_toArray, List.set_cons_zero, List.set_cons_succ, i64_w, i32_w]
              rfl
            refine pure_ (i := 6) (N := some 64) (v := ?_) (a' := ?_) #[true, true, true, true, true, true, true, false, false, false, false, false, false, false] rfl rfl (by kernel_rfl) (fun _ _ _ h => h) (Or.inl ⟨by rfl, ?_⟩) ?_ ?_
            rotate_left
            · intro w'
              go_simp
              with_reducible rfl
            rotate_left
            · simp only [Act.put, List.setIfInBounds_toArray, List.set_cons_zero, List.set_cons_succ, i64_w, i32_w]
              rfl
            refine pure_ (i := 8) (N := some 66) (v := ?_) (a' := ?_) #[true, true, true, true, true, true, true, false, true, false, false, false, false, false] rfl rfl (by kernel_rfl) (fun _ _ _ h => h) (Or.inl ⟨by rfl, ?_⟩) ?_ ?_
            rotate_left
            · intro w'
              go_simp
              with_reducible rfl
            rotate_left
            · simp only [Act.put, List.setIfInBounds_toArray, List.set_cons_zero, List.set_cons_succ, i64_w, i32_w]
              rfl
            refine pure_ (i := 9) (N := some 67) (v := ?_) (a' := ?_) #[true, true, true, true, true, true, true, false, true, true, false, false, false, false] rfl rfl (by kernel_rfl) (fun _ _ _ h => h) (Or.inl ⟨by rfl, ?_⟩) ?_ ?_
            rotate_left
            · intro w'
              go_simp
              with_reducible rfl
            rotate_left
            · simp only [Act.put, List.setIfInBounds_toArray, List.set_cons_zero, List.set_cons_succ, i64_w, i32_w]
              rfl
            refine pure_ (i := 10) (N := some 68) (v := ?_) (a' := ?_) #[true, true, true, true, true, true, true, false, true, true, true, false, false, false] rfl rfl (by kernel_rfl) (fun _ _ _ h => h) (Or.inl ⟨by rfl, ?_⟩) ?_ ?_
            rotate_left
            · intro w'
              go_simp
              with_reducible rfl
            rotate_left
            · simp only [Act.put, List.setIfInBounds_toArray, List.set_cons_zero, List.set_cons_succ, i64_w, i32_w]
              rfl
            refine take_ (i := 11) (N := some 69) (v := ?_) (a' := ?_) #[true, true, true, true, true, true, true, false, true, true, true, true, false, false] rfl rfl (by kernel_rfl) (fun _ _ _ h => h) (Or.inl ⟨by rfl, ?_⟩) hHeld ?_ ?_
            rotate_left
            · rintro w' ⟨s0, s1⟩
              go_simp
              with_reducible rfl
            rotate_left
            · simp only [Act.put, List.setIfInBounds_toArray, List.set_cons_zero, List.set_cons_succ, i64_w, i32_w]
              rfl
            refine one_ (i := 7) (N := some 65) #[true, true, true, true, true, true, true, true, true, true, true, true, false, false] rfl rfl (by kernel_rfl) (by decide) (fun K hK => ?_)
            refine goes_ Try.func36 (by kernel_rfl) rfl #[.pointer (some ⟨g1, 0, none⟩)] (by rfl) rfl rfl (by first | (simp only [List.map_toArray, List.map_cons, List.map_nil]; done) | (simp only [List.map_toArray, List.map_cons, List.map_nil]; rfl) | rfl) ?_
            with_reducible refine (right_any B g1 _ _ _ (HRD.out.below hHeld.1)).mono ?_
            rintro e w3 ⟨rfl, rfl⟩
            refine ⟨_, rfl, ?_⟩
            refine hK.out _ _ ⟨hHeld.1, hHeld.2⟩ (fun hHeld => ?_)
            clear hK K
            refine norm_ (a' := ?_) ?_ ?_
            rotate_left
            · show Act.put _ (some 65) _ = _
              simp only [Act.put, List.setIfInBounds_toArray, List.set_cons_zero, List.set_cons_succ, i64_w, i32_w]
              rfl
            refine pure_ (i := 12) (N := some 70) (v := ?_) (a' := ?_) #[true, true, true, true, true, true, true, true, true, true, true, true, true, false] rfl rfl (by kernel_rfl) (fun _ _ _ h => h) (Or.inl ⟨by rfl, ?_⟩) ?_ ?_
            rotate_left
            · intro w'
              go_simp
              with_reducible rfl
            rotate_left
            · simp only [Act.put, List.setIfInBounds_toArray, List.set_cons_zero, List.set_cons_succ, i64_w, i32_w]
              rfl
            refine pure_ (i := 13) (N := some 71) (v := ?_) (a' := ?_) #[true, true, true, true, true, true, true, true, true, true, true, true, true, true] rfl rfl (by kernel_rfl) (fun _ _ _ h => h) (Or.inl ⟨by rfl, ?_⟩) ?_ ?_
            rotate_left
            · intro w'
              go_simp
              with_reducible rfl
            rotate_left
            · simp only [Act.put, List.setIfInBounds_toArray, List.set_cons_zero, List.set_cons_succ, i64_w, i32_w]
              rfl
            refine done_ (by kernel_rfl) ?_
            have hrd9 : ∀ q, Rd B (wx.drewN q) g1 (restB xs p2 b2) b2 := fun q => HRD.out.drewN q
            have hrr9 : ∀ q, RRd w (wx.drewN q) g2 xs p2 b2 := fun q => HRR.out.move (pw_below_drewN HRR.out.below q) rfl
            have H9 := Lib.hid hrd9
            have H8 := Lib.hid hrr9
            clear hrd9 hrr9
            cases b2
            all_goals
              go_wp2
              go_roundw
              case rel => exact ⟨k + 1, p2, _, by omega, by go_num, H9.out _, H8.out _⟩
              case measure => simp [intOf]; omega
        · have hes : ((strOfNums []).toList == []) = true := by decide +kernel
          go_wp2_with fail
          refine (r32_nil _).mono ?_
          rintro e wa ⟨rfl, rfl⟩
          go_wp2_with fail
          refine (r64_nil _).mono ?_
          rintro e wa ⟨rfl, rfl⟩
          go_wp2_with fail
          refine (rtext_nil _).mono ?_
          rintro e wa ⟨rfl, rfl⟩
          go_wp2_with fail
          refine (left_nil _).mono ?_
          rintro e wa ⟨rfl, rfl⟩
          go_wp2_with fail
          refine (right_nil _).mono ?_
          rintro e wa ⟨rfl, rfl⟩
          go_wp2_with fail
          refine (awake_any _).mono ?_
          rintro e wa ⟨rfl, hba⟩
          go_wp2_with fail
          go_ret
          exact ⟨rfl, HRR.out.below.trans (hba.mono HRR.out.below.size)⟩
    · have d1 : decide ((1000 : Int) < (xs.length : Int)) = false := decide_eq_false (by omega)
      have d2 : decide ((100 : Int) < (qs.length : Int)) = true := decide_eq_true (by omega)
      go_enter Try.func12, Try.ntmps12
      go_wp2
      go_ret
      exact ⟨rfl, Below.refl _ _⟩
  · have d1 : decide ((1000 : Int) < (xs.length : Int)) = true := decide_eq_true (by omega)
    go_enter Try.func12, Try.ntmps12
    go_wp2
    go_ret
    exact ⟨rfl, Below.refl _ _⟩
theorem PackReads_int (A1 A2 : Option Addr) (c1 c2 : Nat) (xs qs : List Int) (w : World) (r1 : ReadsInt w .u8 A1 xs.length xs) (hc1 : xs.length ≤ c1) (hb : ∀ n ∈ xs, (Lit.int .u8 n).wf = true) (r2 : ReadsInt w .u8 A2 qs.length qs) (hq : ∀ n ∈ qs, (Lit.int .u8 n).wf = true) :
    Calls Try.prog 12 #[.slice A1 xs.length c1, .slice A2 qs.length c2] w fun e w' => e = .returned (.bool true) ∧ Below w.heap.size w w' :=
  PackReads_any A1 A2 c1 c2 xs qs w r1 hc1 (Bytes.of_wf hb) r2 (Bytes.of_wf hq)
--END WALK
end Go.Proofs.Ytokempdkfpbpmaa.Pack
