/- names.Load (walk). -/
import Derived.Test.YtinonkakpgiblaaNamWith
namespace Go.Proofs.Ytinonkakpgiblaa.Nam
open Go.RowKit Go.Proofs.YtinonkakpgiblaaW.PrintWords Go.Proofs.YtinonkakpgiblaaW.PrintLast Go.Proofs.Ytinonkakpgiblaa.Base Go.Proofs.Ytinonkakpgiblaa.Pack Go.Maps
set_option linter.unusedVariables false
set_option linter.unusedSimpArgs false

theorem takes_none {b b1 : BookV} {l1 l2 : List (List Int)} {x : List Int} (h1 : takesV b l1 = some b1) (h2 : takeV b1 x = none) : takesV b (l1 ++ x :: l2) = none := by
  unfold takesV at h1 ⊢
  rw [List.foldlM_append, h1]
  show (takeV b1 x >>= _) = none
  rw [h2]
  rfl
/-- What Load hands back. -/
def Loaded (w w' : World) (n : Nat) (e : Ending) : Option BookV → Prop
  | none => e = .returned (.tuple #[.pointer none, .int .i64 4])
  | some b => ∃ g S, e = .returned (.tuple #[.pointer (some ⟨g, 0, none⟩), .int .i64 0]) ∧ Bk S n w' g b ∧ ∀ k, S k → w.heap.size ≤ k
set_option maxRecDepth 100000 in
set_option maxHeartbeats 2000000 in
theorem load_any (v : Value) (rs : List (List Int)) (w : World) (h : Rs w v rs) (hb : ∀ r ∈ rs, Bytes r ∧ r.length ≤ 90000) (hl : rs.length ≤ 1000000) :
    Calls Try.prog 26 #[v] w fun e w' => Loaded w w' rs.length e (takesV book0 rs) ∧ Below w.heap.size w w' := by
  have hlen : ∃ A c, v = .slice A rs.length c ∧ rs.length ≤ c := by
    obtain ⟨A, c, e, h1, _⟩ := h
    exact ⟨A, c, e, h1⟩
  obtain ⟨A, c, rfl, hc⟩ := hlen
  obtain ⟨n, hn⟩ : ∃ n, n = rs.length := ⟨_, rfl⟩
  rw [← hn] at hc h hl ⊢
  have HR := Lib.hid h
  have HN := Lib.hid hn
  have HBB := Lib.hid hb
  clear h hn hb
  go_enter Try.func26, Try.ntmps26
  go_wp2_with fail
  refine (bnew_any _).mono ?_
  rintro e w1 ⟨g, rfl, hk, hb⟩
  have HK1 : Hid (Bk (fun k => w.heap.size ≤ k ∧ k < w1.heap.size) 0 w1 g book0) := hk
  have HB1 := Lib.hid hb
  clear hk hb
  go_wp2
  go_loopw [11] (fun i wr => ∃ (k : Nat) (b : BookV) (S : Nat → Prop), k ≤ n ∧ i = .int .i64 k ∧ Hid (takesV book0 (rs.take k) = some b) ∧ Hid (Bk S k wr g b) ∧ Hid (∀ j, S j → w.heap.size ≤ j) ∧ Hid (Below w.heap.size w wr)) (fun i _ => n - (intOf i).toNat)
  case atStart => exact ⟨0, book0, _, by omega, rfl, by rw [List.take_zero]; rfl, HK1.out, fun j (hj : w.heap.size ≤ j ∧ j < w1.heap.size) => hj.1, HB1.out⟩
  case round =>
    obtain ⟨k, b, S, hk, rfl, HT, HK, HS, HB⟩ := hrel
    by_cases l1 : k < n
    · have hkl : k < rs.length := by rw [← HN.out]; exact l1
      have hrr : Rs wr (.slice A n c) rs := HR.out.below HB.out
      obtain ⟨ad, u, rfl, q, hbs⟩ := rs_get hrr k hkl
      obtain ⟨hTK, hmem⟩ := take_at rs [] k hkl
      have hsp := split_at rs [] k hkl
      have HTK := Lib.hid hTK
      have HSP := Lib.hid hsp
      have HM := Lib.hid (HBB.out _ hmem)
      have HBS := Lib.hid hbs
      clear hTK hmem hsp hbs hrr hkl
      generalize rs.getD k [] = r at HTK HSP HM HBS
      obtain ⟨Ar, cr, er, _, _⟩ := HBS.out.len
      subst er
      obtain ⟨nr, hnr⟩ : ∃ nr, nr = r.length := ⟨_, rfl⟩
      rw [← hnr] at q HBS
      clear hnr
      go_wp2_with fail
      refine (take_any S k g b _ r _ HK.out HBS.out HM.out.1 (by omega) HM.out.2).mono ?_
      rintro e w4 ⟨rfl, hk4, hf4⟩
      have HK4 := Lib.hid hk4
      have HB4 : Hid (Below w.heap.size w w4) := HB.out.trans (hf4.below HS.out HB.out.size)
      have HS4 : Hid (∀ j, Sn S wr.heap.size w4 j → w.heap.size ≤ j) := by
        rintro j (h1 | h1)
        · exact HS.out j h1
        · exact Nat.le_trans HB.out.size h1.1
      clear hk4 hf4 q
      cases hv : takeV b r with
      | none =>
        have HE : Hid (takesV book0 rs = none) := by show _ = _; rw [HSP.out]; exact takes_none HT.out hv
        have hE : takeE none = 4 := rfl
        rw [hE]
        clear hE hv HK4
        go_wp2
        go_ret2
        refine ⟨?_, HB4.out⟩
        rw [HE.out]
        exact rfl
      | some b2 =>
        have HT2 : Hid (takesV book0 (rs.take (k + 1)) = some b2) := by show _ = _; rw [HTK.out]; exact takes_snoc HT.out hv
        have HK5 : Hid (Bk (Sn S wr.heap.size w4) (k + 1) w4 g b2) := by have h := HK4.out; rw [hv] at h; exact h
        have hE : takeE (some b2) = 0 := rfl
        rw [hE]
        clear hE hv HK4
        go_wp2
        go_roundw
        case rel => exact ⟨k + 1, b2, _, by omega, by go_num, HT2.out, HK5.out, HS4.out, HB4.out⟩
        case measure => simp [intOf]; omega
    · have hk2 : k = n := by omega
      have HT2 : Hid (takesV book0 rs = some b) := by
        have h := HT.out
        rw [hk2, HN.out, List.take_length] at h
        exact h
      have HKE : Hid (Bk S n wr g b) := by have h := HK.out; rwa [hk2] at h
      clear hk2
      go_wp2
      go_ret2
      refine ⟨?_, HB.out⟩
      rw [HT2.out]
      exact ⟨g, S, rfl, HKE.out, HS.out⟩
end Go.Proofs.Ytinonkakpgiblaa.Nam
