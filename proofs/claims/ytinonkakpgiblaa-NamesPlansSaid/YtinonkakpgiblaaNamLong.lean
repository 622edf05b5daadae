/- slices.ContainsFunc over names that are too long; the reading of names. -/
import Derived.Test.YtinonkakpgiblaaNamNum
namespace Go.Proofs.Ytinonkakpgiblaa.Nam
open Go.RowKit Go.Proofs.YtinonkakpgiblaaW.PrintWords Go.Proofs.YtinonkakpgiblaaW.PrintLast Go.Proofs.Ytinonkakpgiblaa.Base Go.Proofs.Ytinonkakpgiblaa.Pack Go.Maps
set_option linter.unusedVariables false
set_option linter.unusedSimpArgs false

theorem long_c (s : ByteArray) (w : World) (hs : s.size ≤ 9223372036854775807) :
    Calls Try.prog 30 #[.string s] w fun e w' => e = .returned (.bool (decide ((4000 : Int) < (s.size : Int)))) ∧ w = w' := by
  go_enter Try.func30, Try.ntmps30
  go_wp2
  go_ret
  exact ⟨rfl, rfl⟩
/-- The number of the first name that is too long. -/
def lidx : List ByteArray → Option Nat
  | [] => none
  | s :: l => if 4000 < s.size then some 0 else (lidx l).map (· + 1)
theorem lidx_none {l : List ByteArray} : lidx l = none ↔ ∀ s ∈ l, s.size ≤ 4000 := by
  induction l with
  | nil => simp [lidx]
  | cons x l ih =>
    unfold lidx
    by_cases h : 4000 < x.size
    · rw [if_pos h]
      simp only [reduceCtorEq, false_iff]
      intro h2
      have := h2 x (by simp)
      omega
    · rw [if_neg h, Option.map_eq_none_iff, ih]
      simp only [List.mem_cons, forall_eq_or_imp]
      exact ⟨fun h2 => ⟨by omega, h2⟩, fun h2 => h2.2⟩
set_option maxRecDepth 100000 in
set_option maxHeartbeats 2000000 in
theorem indexFunc_any (v : Value) (l : List ByteArray) (w : World) (hv : Ss w v l) (hm : ∀ s ∈ l, s.size ≤ 9223372036854775807) :
    Calls Try.prog 51 #[v, .func (Fn.func 30) #[] #[]] w fun e w' => (∃ k : Nat, e = .returned (.int .i64 (k : Int)) ∧ k < l.length ∧ (¬ ∀ s ∈ l, s.size ≤ 4000)) ∧ w = w' ∨ (e = .returned (.int .i64 (-1)) ∧ (∀ s ∈ l, s.size ≤ 4000) ∧ w = w') := by
  obtain ⟨A, c, rfl, hc, hl, hr⟩ := hv
  have HR := Lib.hid hr
  have HM := Lib.hid hm
  clear hr hm
  go_enter Try.func51, Try.ntmps51
  go_wp2
  go_loop [8] (fun i => ∃ k : Nat, k ≤ l.length ∧ i = .int .i64 k ∧ Hid (∀ s ∈ l.take k, s.size ≤ 4000)) (fun i => l.length - (intOf i).toNat)
  case atStart => exact ⟨0, by omega, rfl, fun s hs => by simp at hs⟩
  case round =>
    obtain ⟨k, hk, rfl, HK⟩ := hrel
    by_cases l1 : k < l.length
    · obtain ⟨ad, rfl, hcell⟩ := HR.out (by omega)
      have q0 := hcell k l1
      have hmem : l.getD k ByteArray.empty ∈ l := by rw [List.getD_eq_getElem?_getD, List.getElem?_eq_getElem l1]; exact List.getElem_mem l1
      have hTK : l.take (k + 1) = l.take k ++ [l.getD k ByteArray.empty] := by
        rw [List.take_add_one, List.getElem?_eq_getElem l1, List.getD_eq_getElem?_getD, List.getElem?_eq_getElem l1]; rfl
      have hsz := HM.out _ hmem
      have HMEM := Lib.hid hmem
      have HTK := Lib.hid hTK
      generalize l.getD k ByteArray.empty = s at q0 hsz HMEM HTK
      clear hcell hmem hTK
      go_wp2_with fail
      refine (long_c s _ hsz).mono ?_
      rintro e w' ⟨rfl, rfl⟩
      by_cases l2 : 4000 < s.size
      · have hd : decide ((4000 : Int) < (s.size : Int)) = true := decide_eq_true (by omega)
        rw [hd]
        clear hd
        go_wp2
        go_ret
        exact .inl ⟨⟨k, rfl, l1, fun h => by have := h s HMEM.out; omega⟩, rfl⟩
      · have hd : decide ((4000 : Int) < (s.size : Int)) = false := decide_eq_false (by omega)
        rw [hd]
        clear hd
        go_wp2
        go_round
        case rel =>
          refine ⟨k + 1, by omega, by go_num, ?_⟩
          intro t ht
          rw [HTK.out] at ht
          rcases List.mem_append.1 ht with h | h
          · exact HK.out t h
          · rw [List.mem_singleton.1 h]; omega
        case measure => simp [intOf]; omega
    · have hk2 : k = l.length := by omega
      have HA : Hid (∀ s ∈ l, s.size ≤ 4000) := by have h := HK.out; rw [hk2, List.take_length] at h; exact h
      clear hk2
      go_wp2
      go_ret
      exact .inr ⟨rfl, HA.out, rfl⟩
def longB (l : List ByteArray) : Bool := l.any fun s => decide (4000 < s.size)
theorem longB_false {l : List ByteArray} : longB l = false ↔ ∀ s ∈ l, s.size ≤ 4000 := by simp [longB]
set_option maxHeartbeats 2000000 in
theorem containsFunc_any (v : Value) (l : List ByteArray) (w : World) (hv : Ss w v l) (hm : ∀ s ∈ l, s.size ≤ 9223372036854775807) :
    Calls Try.prog 29 #[v, .func (Fn.func 30) #[] #[]] w fun e w' => e = .returned (.bool (longB l)) ∧ w = w' := by
  have HV := Lib.hid hv
  have HM := Lib.hid hm
  have HL : Hid (l.length ≤ 9223372036854775807) := let ⟨_, _, _, _, h, _⟩ := hv; h
  clear hv hm
  go_enter Try.func29, Try.ntmps29
  go_wp2_with fail
  refine (indexFunc_any v l _ HV.out HM.out).mono ?_
  rintro e w' (⟨⟨k, rfl, hk, hn⟩, rfl⟩ | ⟨rfl, hn, rfl⟩)
  · have HE : Hid (longB l = true) := by
      show _ = _
      cases e : longB l with
      | true => rfl
      | false => exact absurd (longB_false.1 e) hn
    clear hn
    go_wp2
    go_ret
    rw [HE.out]
    exact ⟨rfl, rfl⟩
  · have HE : Hid (longB l = false) := longB_false.2 hn
    clear hn
    go_wp2
    go_ret
    rw [HE.out]
    exact ⟨rfl, rfl⟩
end Go.Proofs.Ytinonkakpgiblaa.Nam
