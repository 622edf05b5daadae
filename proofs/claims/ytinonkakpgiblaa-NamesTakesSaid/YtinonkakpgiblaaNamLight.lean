/- light: are records few and short? (walk) -/
import Derived.Test.YtinonkakpgiblaaNamTold
namespace Go.Proofs.Ytinonkakpgiblaa.Nam
open Go.RowKit Go.Proofs.YtinonkakpgiblaaW.PrintWords Go.Proofs.YtinonkakpgiblaaW.PrintLast Go.Proofs.Ytinonkakpgiblaa.Base Go.Proofs.Ytinonkakpgiblaa.Pack Go.Maps
set_option linter.unusedVariables false
set_option linter.unusedSimpArgs false

set_option maxRecDepth 100000 in
set_option maxHeartbeats 1000000 in
theorem light_any (v : Value) (rs : List (List Int)) (w : World) (h : Rs w v rs) :
    Calls Try.prog 23 #[v] w fun e w' => ((e = .returned (.bool true) ∧ rs.length ≤ 60 ∧ ∀ r ∈ rs, r.length ≤ 1000) ∨ e = .returned (.bool false)) ∧ w' = w := by
  have hlen : ∃ A c, v = .slice A rs.length c ∧ rs.length ≤ c ∧ rs.length ≤ 9223372036854775807 := by
    obtain ⟨A, c, e, h1, h2, _⟩ := h
    exact ⟨A, c, e, h1, h2⟩
  obtain ⟨A, c, rfl, hc, hm⟩ := hlen
  obtain ⟨n, hn⟩ : ∃ n, n = rs.length := ⟨_, rfl⟩
  rw [← hn] at hc h hm ⊢
  have HR := Lib.hid h
  have HN := Lib.hid hn
  clear h hn
  by_cases hl : n ≤ 60
  case neg =>
    have hgt : 60 < n := by omega
    clear hl
    go_enter Try.func23, Try.ntmps23
    go_wp2
    go_ret
    exact ⟨.inr rfl, rfl⟩
  go_enter Try.func23, Try.ntmps23
  go_wp2
  go_loopw [3] (fun i wr => ∃ k : Nat, k ≤ n ∧ i = .int .i64 k ∧ wr = w ∧ Hid (∀ r ∈ rs.take k, r.length ≤ 1000)) (fun i _ => n - (intOf i).toNat)
  case atStart => exact ⟨0, by omega, rfl, rfl, fun r hr => by rw [List.take_zero] at hr; cases hr⟩
  case round =>
    obtain ⟨k, hk, rfl, rfl, HS⟩ := hrel
    by_cases l1 : k < n
    · have hkl : k < rs.length := by rw [← HN.out]; exact l1
      obtain ⟨ad, u, rfl, q, hbs⟩ := rs_get HR.out k hkl
      obtain ⟨hTK, _⟩ := take_at rs [] k hkl
      have HTK := Lib.hid hTK
      obtain ⟨Ar, cr, er, _, hm2⟩ := hbs.len
      subst er
      clear hTK hbs hkl
      generalize rs.getD k [] = r at HTK q hm2
      obtain ⟨nr, hnr⟩ : ∃ nr, nr = r.length := ⟨_, rfl⟩
      rw [← hnr] at q hm2
      have HNR := Lib.hid hnr
      clear hnr
      by_cases l2 : nr ≤ 1000
      · have HS2 : Hid (∀ r ∈ rs.take (k + 1), r.length ≤ 1000) := fun z hz => by
          rw [HTK.out] at hz
          rcases List.mem_append.1 hz with h | h
          · exact HS.out z h
          · rw [List.mem_singleton.1 h, ← HNR.out]; exact l2
        go_wp2
        go_roundw
        case rel => exact ⟨k + 1, by omega, by go_num, trivial, HS2.out⟩
        case measure => simp [intOf]; omega
      · have hgt : 1000 < nr := by omega
        clear l2
        go_wp2
        go_ret
        exact ⟨.inr rfl, rfl⟩
    · have hk2 : k = n := by omega
      have HSE : Hid (∀ r ∈ rs, r.length ≤ 1000) := by
        have h := HS.out
        rw [hk2, HN.out, List.take_length] at h
        exact h
      clear hk2
      go_wp2
      go_ret
      exact ⟨.inl ⟨rfl, by omega, HSE.out⟩, rfl⟩
end Go.Proofs.Ytinonkakpgiblaa.Nam
