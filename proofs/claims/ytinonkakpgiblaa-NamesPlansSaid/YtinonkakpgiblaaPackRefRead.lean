/- The contracts of the reference's reader of chapter 2. -/
import Derived.Test.YtinonkakpgiblaaPackGet
namespace Go.Proofs.Ytinonkakpgiblaa.Pack
open Go.RowKit Go.Proofs.YtinonkakpgiblaaW.PrintWords Go.Proofs.Ytinonkakpgiblaa.Base
set_option linter.unusedVariables false
set_option linter.unusedSimpArgs false

/-- The reference's reader at block g; its bytes are an argument's. -/
structure RRd (w0 w : World) (g : Nat) (data : List Int) (at_ : Nat) (bad : Bool) : Prop where
  cell : ∃ v, w.heap[g]? = some (.cells #[v, .int .i64 at_, .bool bad] 96 (0, 0)) ∧ Bs w0 v data
  below : Below w0.heap.size w0 w
  base : w0.heap.size ≤ g
  le : at_ ≤ data.length
theorem RRd.move {w0 w w1 : World} {g : Nat} {data : List Int} {at_ : Nat} {bad : Bool} (h : RRd w0 w g data at_ bad) (hb : Below w0.heap.size w0 w1) (hm : w1.heap[g]? = w.heap[g]?) : RRd w0 w1 g data at_ bad := by
  obtain ⟨v, hc, hv⟩ := h.cell
  exact ⟨⟨v, hm.trans hc, hv⟩, hb, h.base, h.le⟩

theorem leVal_drop (xs : List Int) (k : Nat) (h : k < xs.length) : leVal (xs.drop k) = rd xs k + 256 * leVal (xs.drop (k + 1)) := by
  have e : xs.drop k = rd xs k :: xs.drop (k + 1) := by
    rw [List.drop_eq_getElem_cons h]
    unfold rd
    rw [Int.toNat_natCast, List.getD_eq_getElem?_getD, List.getElem?_eq_getElem h]; rfl
  rw [e, leVal]
theorem pow_8 (k : Nat) (h : k ≤ 7) : (256 : Int) ^ k ≤ 72057594037927936 := by
  rcases (by omega : k = 0 ∨ k = 1 ∨ k = 2 ∨ k = 3 ∨ k = 4 ∨ k = 5 ∨ k = 6 ∨ k = 7) with h | h | h | h | h | h | h | h <;> subst h <;> decide

set_option maxHeartbeats 800000 in
theorem value_any (v : Value) (xs : List Int) (w : World) (hv : Bs w v xs) (h8 : xs.length ≤ 8) (hb : Bytes xs) :
    Calls Try.prog 66 #[v] w fun e w' => e = .returned (.int .u64 (leVal xs)) ∧ w = w' := by
  obtain ⟨A, c, rfl, hc, hr⟩ := hv
  have HR := Lib.hid hr
  have HB := Lib.hid hb
  clear hr hb
  go_enter Try.func66, Try.ntmps66
  go_wp2
  go_loop [3, 4] (fun n i => ∃ (k : Nat) (x : Int), k ≤ xs.length ∧ i = .int .i64 ((k : Int) - 1) ∧ n = .int .u64 x ∧ Hid (x = leVal (xs.drop k))) (fun _ i => (intOf i + 1).toNat)
  case atStart => exact ⟨xs.length, _, Nat.le_refl _, rfl, rfl, by show _ = _; rw [List.drop_length]; rfl⟩
  case round =>
    obtain ⟨k, x, hk, rfl, rfl, hx⟩ := hrel
    rcases k with _ | k
    · have HX : Hid (x = leVal xs) := hx.out
      clear hx
      go_wp2
      go_ret
      exact ⟨ret_int HX.out, rfl⟩
    · have hlt : k < xs.length := by omega
      obtain ⟨ad, e1, hcell⟩ := at_nat HR.out k hlt
      cases e1
      have hby := rd_byte HB.out k hlt
      have hr2 := leVal_range (xs.drop (k + 1)) (HB.out.drop _)
      have hp := pow_8 (xs.drop (k + 1)).length (by rw [List.length_drop]; omega)
      rw [← hx.out] at hr2
      have x0 : 0 ≤ x := hr2.1
      have x1 : x < 72057594037927936 := by omega
      have HY : Hid (256 * x + rd xs k = leVal (xs.drop k)) := by show _ = _; rw [leVal_drop xs k hlt, hx.out]; omega
      have q1 : ((k + 1 : Nat) : Int) - 1 = (k : Int) := by omega
      rw [q1]
      clear hr2 hp q1 hx
      obtain ⟨y0, y1⟩ := hby
      go_wp2
      go_round
      case rel => exact ⟨k, _, by omega, rfl, rfl, HY⟩
      case measure => simp [intOf]

set_option maxHeartbeats 1600000 in
theorem rtake_ok (w0 w : World) (g m at_ : Nat) (data : List Int) (h : RRd w0 w g data at_ false) (hm : at_ + m ≤ data.length) (h9 : data.length ≤ 9223372036854775807) :
    Calls Try.prog 65 #[.pointer (some ⟨g, 0, none⟩), .int .i64 m] w fun e w' => ∃ u, e = .returned (.tuple #[u, .bool true]) ∧ Bs w' u ((data.drop at_).take m) ∧ RRd w0 w' g data (at_ + m) false ∧ Only g w w' := by
  obtain ⟨v, hc, hv⟩ := h.cell
  obtain ⟨A, c, rfl, hcc, hm1⟩ := hv.len
  have c0 := blk_cell hc 0
  have c1 := blk_cell hc 1
  have c2 := blk_cell hc 2
  have f1 := blk_frozen hc 1
  have HC := Lib.hid hc
  have HR := Lib.hid h
  have HV := Lib.hid hv
  have g1 : decide ((data.length : Int) - (at_ : Int) < (m : Int)) = false := decide_eq_false (by omega)
  have e1 : ((at_ : Int) + (m : Int)) - (m : Int) = (at_ : Int) := by omega
  have hu : Bs w0 (.slice (if c = at_ then A else A.map (·.add at_)) m (c - at_)) ((data.drop at_).take m) := by
    obtain ⟨_, _, e, _, hr⟩ := hv
    cases e
    have h1 := (hr.drop_ (c := c) at_ h.le hcc).take_ m (by omega)
    have hl : ((data.drop at_).take m).length = m := by rw [List.length_take, List.length_drop]; omega
    exact ⟨_, _, by rw [hl], by rw [hl]; omega, by rw [hl]; exact h1⟩
  have hl1 : at_ + m ≤ data.length := hm
  have HL := Lib.hid hm
  have HS := Lib.hid (blk_set hc 1 (.int .i64 ((at_ + m : Nat) : Int)))
  have HU := Lib.hid hu
  have f0 : Below w0.heap.size w0 (w.setCell ⟨g, 1, none⟩ (.int .i64 ((at_ + m : Nat) : Int))) := h.below.setCell h.base _
  have HF := Lib.hid f0
  have EC : Hid ((at_ : Int) + (m : Int) = ((at_ + m : Nat) : Int)) := by show _ = _; omega
  clear hc hv h hu f0
  by_cases hca : c = at_
  · have HCA := Lib.hid hca
    go_enter Try.func65, Try.ntmps65
    go_wp2
    go_quiet (fail)
    go_wp2
    rw [EC.out]
    have e2 : IntKind.i64.wrap (((at_ + m : Nat) : Int) - (m : Int)) = (at_ : Int) := by rw [IntWalk.i64_in _ (by omega)]; omega
    have a0 : 0 ≤ (at_ : Int) := by omega
    have a1 : (at_ : Int) ≤ ((at_ + m : Nat) : Int) := by omega
    have a2 : ((at_ + m : Nat) : Int) ≤ (c : Int) := by omega
    go_quiet (fail)
    go_wp2
    have HM : Hid (at_ + m - at_ = m) := by show _ = _; omega
    go_ret2
    refine ⟨_, rfl, ?_, ?_, ?_⟩
    · have h1 := HU.out
      rw [if_pos HCA.out, HCA.out, Nat.sub_self] at h1
      rw [HM.out]
      exact h1.below (HR.out.below.trans (((((Only.refl g w).drewN _).setCell 1 _).drewN _).below HR.out.base HR.out.below.size))
    · exact ⟨⟨_, HS.out, HV.out⟩, HR.out.below.trans (((((Only.refl g w).drewN _).setCell 1 _).drewN _).below HR.out.base HR.out.below.size), HR.out.base, HL.out⟩
    · exact (((Only.refl g w).drewN _).setCell 1 _).drewN _
  · have HCA := Lib.hid hca
    go_enter Try.func65, Try.ntmps65
    go_wp2
    go_quiet (fail)
    go_wp2
    rw [EC.out]
    have e2 : IntKind.i64.wrap (((at_ + m : Nat) : Int) - (m : Int)) = (at_ : Int) := by rw [IntWalk.i64_in _ (by omega)]; omega
    have a0 : 0 ≤ (at_ : Int) := by omega
    have a1 : (at_ : Int) ≤ ((at_ + m : Nat) : Int) := by omega
    have a2 : ((at_ + m : Nat) : Int) ≤ (c : Int) := by omega
    go_quiet (fail)
    go_wp2
    have HM : Hid (at_ + m - at_ = m) := by show _ = _; omega
    go_ret2
    refine ⟨_, rfl, ?_, ?_, ?_⟩
    · have h1 := HU.out
      rw [if_neg HCA.out] at h1
      rw [HM.out]
      exact h1.below (HR.out.below.trans (((((Only.refl g w).drewN _).setCell 1 _).drewN _).below HR.out.base HR.out.below.size))
    · exact ⟨⟨_, HS.out, HV.out⟩, HR.out.below.trans (((((Only.refl g w).drewN _).setCell 1 _).drewN _).below HR.out.base HR.out.below.size), HR.out.base, HL.out⟩
    · exact (((Only.refl g w).drewN _).setCell 1 _).drewN _

set_option maxHeartbeats 1600000 in
theorem rtake_short (w0 w : World) (g m at_ : Nat) (data : List Int) (bad : Bool) (h : RRd w0 w g data at_ bad) (hm : bad = true ∨ data.length < at_ + m) (h9 : data.length ≤ 9223372036854775807) :
    Calls Try.prog 65 #[.pointer (some ⟨g, 0, none⟩), .int .i64 m] w fun e w' => e = .returned (.tuple #[.slice none 0 0, .bool false]) ∧ RRd w0 w' g data at_ true ∧ Only g w w' := by
  obtain ⟨v, hc, hv⟩ := h.cell
  obtain ⟨A, c, rfl, hcc, hm1⟩ := hv.len
  have c0 := blk_cell hc 0
  have c1 := blk_cell hc 1
  have c2 := blk_cell hc 2
  have f2 := blk_frozen hc 2
  have hle := h.le
  have HC := Lib.hid hc
  have HR := Lib.hid h
  have HV := Lib.hid hv
  have HS := Lib.hid (blk_set hc 2 (.bool true))
  have HF := Lib.hid (h.below.setCell (p := ⟨g, 2, none⟩) h.base (.bool true))
  clear hc hv h
  cases bad with
  | true =>
    clear hm
    go_enter Try.func65, Try.ntmps65
    go_wp2
    go_quiet (fail)
    go_wp2
    go_ret2
    exact ⟨rfl, ⟨⟨_, HS.out, HV.out⟩, HR.out.below.trans ((((Only.refl g w).drewN _).setCell 2 _).below HR.out.base HR.out.below.size), HR.out.base, HR.out.le⟩, ((Only.refl g w).drewN _).setCell 2 _⟩
  | false =>
    have g1 : decide ((data.length : Int) - (at_ : Int) < (m : Int)) = true := decide_eq_true (by have := hm.resolve_left (by simp); omega)
    clear hm
    go_enter Try.func65, Try.ntmps65
    go_wp2
    go_quiet (fail)
    go_wp2
    go_ret2
    exact ⟨rfl, ⟨⟨_, HS.out, HV.out⟩, HR.out.below.trans ((((Only.refl g w).drewN _).setCell 2 _).below HR.out.base HR.out.below.size), HR.out.base, HR.out.le⟩, ((Only.refl g w).drewN _).setCell 2 _⟩

theorem rnumber_ok (w0 w : World) (g m at_ : Nat) (data : List Int) (h : RRd w0 w g data at_ false) (hm : at_ + m ≤ data.length) (h9 : data.length ≤ 9223372036854775807) (h8 : m ≤ 8) (hb : Bytes data) :
    Calls Try.prog 46 #[.pointer (some ⟨g, 0, none⟩), .int .i64 m] w fun e w' => e = .returned (.int .u64 (leVal ((data.drop at_).take m))) ∧ RRd w0 w' g data (at_ + m) false ∧ Only g w w' := by
  have H := Lib.hid h
  have HB := Lib.hid ((hb.drop at_).take m)
  have hl : ((data.drop at_).take m).length ≤ 8 := by rw [List.length_take]; omega
  clear h hb
  go_enter Try.func46, Try.ntmps46
  go_wp2_with fail
  refine (rtake_ok w0 _ g m at_ data H.out hm h9).mono ?_
  rintro e w1 ⟨u, rfl, hu, hr, ho⟩
  have HU := Lib.hid hu
  have HR := Lib.hid hr
  have HO := Lib.hid ho
  clear hu hr ho
  go_wp2_with fail
  refine (value_any _ _ _ HU.out hl HB.out).mono ?_
  rintro e w2 ⟨rfl, rfl⟩
  go_wp2
  go_ret
  exact ⟨rfl, HR.out, HO.out⟩
theorem rnumber_short (w0 w : World) (g m at_ : Nat) (data : List Int) (bad : Bool) (h : RRd w0 w g data at_ bad) (hm : bad = true ∨ data.length < at_ + m) (h9 : data.length ≤ 9223372036854775807) :
    Calls Try.prog 46 #[.pointer (some ⟨g, 0, none⟩), .int .i64 m] w fun e w' => e = .returned (.int .u64 0) ∧ RRd w0 w' g data at_ true ∧ Only g w w' := by
  have H := Lib.hid h
  have HM := Lib.hid hm
  clear h hm
  go_enter Try.func46, Try.ntmps46
  go_wp2_with fail
  refine (rtake_short w0 _ g m at_ data bad H.out HM.out h9).mono ?_
  rintro e w1 ⟨rfl, hr, ho⟩
  have HR := Lib.hid hr
  have HO := Lib.hid ho
  clear hr ho
  go_wp2
  go_ret
  exact ⟨rfl, HR.out, HO.out⟩
theorem rreft_ok (w0 w : World) (g at_ : Nat) (data : List Int) (h : RRd w0 w g data at_ false) (hm : at_ + 2 ≤ data.length) (h9 : data.length ≤ 9223372036854775807) (hb : Bytes data)
    (hl : at_ + 2 + (leVal ((data.drop at_).take 2)).toNat ≤ data.length) :
    Calls Try.prog 43 #[.pointer (some ⟨g, 0, none⟩)] w fun e w' => e = .returned (.string (strOfNums ((data.drop (at_ + 2)).take (leVal ((data.drop at_).take 2)).toNat))) ∧ RRd w0 w' g data (at_ + 2 + (leVal ((data.drop at_).take 2)).toNat) false ∧ Only g w w' := by
  have hr2 := leVal_range ((data.drop at_).take 2) ((hb.drop at_).take 2)
  have hl2 : ((data.drop at_).take 2).length = 2 := by rw [List.length_take, List.length_drop]; omega
  rw [hl2] at hr2
  obtain ⟨n, hn⟩ := Int.eq_ofNat_of_zero_le hr2.1
  have hn2 : n < 65536 := by have := hr2.2; rw [hn] at this; omega
  rw [hn, Int.toNat_natCast] at hl ⊢
  have HN := Lib.hid hn
  have H := Lib.hid h
  have HB := Lib.hid hb
  clear h hb hn hr2 hl2
  go_enter Try.func43, Try.ntmps43
  go_wp2_with fail
  refine (rnumber_ok w0 _ g 2 at_ data H.out hm h9 (by omega) HB.out).mono ?_
  rintro e w1 ⟨rfl, hr, ho⟩
  rw [HN.out]
  have HR := Lib.hid hr
  have HO := Lib.hid ho
  clear hr ho
  go_wp2_with fail
  refine (rtake_ok w0 _ g n (at_ + 2) data HR.out hl h9).mono ?_
  rintro e w2 ⟨u, rfl, hu, hr, ho⟩
  have k1 := str_of hu
  have HR2 := Lib.hid hr
  have HO2 := Lib.hid ho
  clear hr ho hu
  go_wp2
  go_ret
  exact ⟨rfl, HR2.out, HO.out.trans HO2.out⟩
theorem rreft_short (w0 w : World) (g at_ : Nat) (data : List Int) (bad : Bool) (h : RRd w0 w g data at_ bad) (h9 : data.length ≤ 9223372036854775807) (hb : Bytes data)
    (hm : bad = true ∨ data.length < at_ + 2 ∨ data.length < at_ + 2 + (leVal ((data.drop at_).take 2)).toNat) :
    Calls Try.prog 43 #[.pointer (some ⟨g, 0, none⟩)] w fun e w' => e = .returned (.string (strOfNums [])) ∧ (∃ at2, RRd w0 w' g data at2 true) ∧ Only g w w' := by
  by_cases h1 : bad = true ∨ data.length < at_ + 2
  · have H := Lib.hid h
    have H1 := Lib.hid h1
    clear h hm h1
    go_enter Try.func43, Try.ntmps43
    go_wp2_with fail
    refine (rnumber_short w0 _ g 2 at_ data bad H.out H1.out h9).mono ?_
    rintro e w1 ⟨rfl, hr, ho⟩
    have HR := Lib.hid hr
    have HO := Lib.hid ho
    clear hr ho
    go_wp2_with fail
    refine (rtake_short w0 _ g 0 at_ data true HR.out (.inl rfl) h9).mono ?_
    rintro e w2 ⟨rfl, hr, ho⟩
    have k1 := str_of (Bs.nil w2)
    have HR2 := Lib.hid hr
    have HO2 := Lib.hid ho
    clear hr ho
    go_wp2
    go_ret
    exact ⟨rfl, ⟨_, HR2.out⟩, HO.out.trans HO2.out⟩
  · have hbad : bad = false := by cases bad with
      | false => rfl
      | true => exact absurd (.inl rfl) h1
    subst hbad
    have h2 : at_ + 2 ≤ data.length := by
      have := fun x => h1 (.inr x)
      omega
    have hlt : data.length < at_ + 2 + (leVal ((data.drop at_).take 2)).toNat := by
      rcases hm with hm | hm | hm
      · cases hm
      · omega
      · exact hm
    have hr2 := leVal_range ((data.drop at_).take 2) ((hb.drop at_).take 2)
    have hl2 : ((data.drop at_).take 2).length = 2 := by rw [List.length_take, List.length_drop]; omega
    rw [hl2] at hr2
    obtain ⟨n, hn⟩ := Int.eq_ofNat_of_zero_le hr2.1
    have hn2 : n < 65536 := by have := hr2.2; rw [hn] at this; omega
    rw [hn, Int.toNat_natCast] at hlt
    have HN := Lib.hid hn
    have H := Lib.hid h
    have HB := Lib.hid hb
    clear h hb hn hr2 hl2 hm h1
    go_enter Try.func43, Try.ntmps43
    go_wp2_with fail
    refine (rnumber_ok w0 _ g 2 at_ data H.out h2 h9 (by omega) HB.out).mono ?_
    rintro e w1 ⟨rfl, hr, ho⟩
    rw [HN.out]
    have HR := Lib.hid hr
    have HO := Lib.hid ho
    clear hr ho
    go_wp2_with fail
    refine (rtake_short w0 _ g n (at_ + 2) data false HR.out (.inr hlt) h9).mono ?_
    rintro e w2 ⟨rfl, hr, ho⟩
    have k1 := str_of (Bs.nil w2)
    have HR2 := Lib.hid hr
    have HO2 := Lib.hid ho
    clear hr ho
    go_wp2
    go_ret
    exact ⟨rfl, ⟨_, HR2.out⟩, HO.out.trans HO2.out⟩

theorem rleft_any (w0 w : World) (g at_ : Nat) (data : List Int) (bad : Bool) (h : RRd w0 w g data at_ bad) (h9 : data.length ≤ 9223372036854775807) :
    Calls Try.prog 44 #[.pointer (some ⟨g, 0, none⟩)] w fun e w' => e = .returned (.int .i64 (if bad then 0 else (data.length : Int) - at_)) ∧ Drawn0 w w' := by
  obtain ⟨v, hc, hv⟩ := h.cell
  obtain ⟨A, c, rfl, hcc, hm1⟩ := hv.len
  have c0 := blk_cell hc 0
  have c1 := blk_cell hc 1
  have c2 := blk_cell hc 2
  have hle := h.le
  clear hc hv h
  cases bad with
  | true =>
    go_enter Try.func44, Try.ntmps44
    go_wp2
    go_ret
    exact ⟨rfl, Drawn0.refl _⟩
  | false =>
    go_enter Try.func44, Try.ntmps44
    go_wp2
    go_quiet (fail)
    go_wp2
    go_ret
    exact ⟨rfl, (Drawn0.refl _).step _⟩
end Go.Proofs.Ytinonkakpgiblaa.Pack
