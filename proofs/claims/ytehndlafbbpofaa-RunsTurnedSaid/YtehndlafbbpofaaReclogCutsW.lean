/- The walk of the law ReclogCuts. -/
import Derived.Test.YtehndlafbbpofaaRecScan
import Derived.Test.YtehndlafbbpofaaRecFile
import Derived.Test.YtehndlafbbpofaaRecAwake
namespace Go.Proofs.Ytehndlafbbpofaa.Rec
open Go.RowKit Go.Proofs.YtehndlafbbpofaaW.PrintWords Go.Proofs.Ytehndlafbbpofaa.Base Go.Proofs.Ytehndlafbbpofaa.Pack
set_option linter.unusedVariables false
set_option linter.unusedSimpArgs false

theorem info_bs' : ∃ i, Try.prog.info? 27 = some i ∧ i.size = 1 := by
  obtain ⟨i0, hi, hzz⟩ := Option.map_eq_some_iff.1 info_bs
  simp only [Prod.mk.injEq] at hzz
  exact ⟨i0, hi, hzz.2.1⟩
theorem cut_cap_rows (A : Option Addr) (n c m : Nat) (hm : m ≤ c) (W : World) : (Instr.slice 65 (.slice A n c) none (some (.int .i64 (m : Int))) none).run Try.prog W = .ok (.slice A m c) W := by
  obtain ⟨i0, hi, hz⟩ := info_bs'
  have hel : Try.prog.elem 65 = 27 := by simp [Program.elem, Try.underlying65]
  have hu : Try.prog.underlying 65 = some (.slice (Try.prog.elem 65)) := by rw [hel]; exact Try.underlying65
  have ha : (A.map fun x => x.add 0) = A := by cases A <;> simp [Addr.add]
  rw [run_slice_h W 65 A n c hu .i64 (m : Int) (by omega) (by omega), hel]
  simp [sizeOf, typeInfo, hi, hz, sliced, Result.andThen, ha]
theorem rs_take {w : World} {A : Option Addr} {c : Nat} {rs : List (List Int)} (h : Rs w (.slice A rs.length c) rs) (n : Nat) (hn : n ≤ rs.length) : Rs w (.slice A n c) (rs.take n) := by
  obtain ⟨A', c', e, h2, h3, h4⟩ := h
  cases e
  have hl : (rs.take n).length = n := by rw [List.length_take]; omega
  refine ⟨A, c, by rw [hl], by rw [hl]; omega, by rw [hl]; omega, fun hp => ?_⟩
  rw [hl] at hp ⊢
  obtain ⟨ad, e, hc⟩ := h4 (by omega)
  refine ⟨ad, e, fun i hi => ?_⟩
  obtain ⟨u, hu, hbs⟩ := hc i (by omega)
  refine ⟨u, hu, ?_⟩
  rw [List.getD_eq_getElem?_getD, List.getElem?_take_of_lt hi, ← List.getD_eq_getElem?_getD]
  exact hbs
theorem rs_len {w : World} {v : Value} {rs : List (List Int)} (h : Rs w v rs) : ∃ A c, v = .slice A rs.length c ∧ rs.length ≤ c ∧ rs.length ≤ 9223372036854775807 := by
  obtain ⟨A', c', e, h2, h3, h4⟩ := h
  exact ⟨A', c', e, h2, h3⟩
theorem cuts_told (k : Int) (ps : List (List Int)) (n cut : Nat) (hL : Light ps) (hb : AllBytes ps) (hn : n ≤ ps.length) (h1 : n = 0 ∨ posOf ps n ≤ cut) (h2 : n < ps.length → cut < posOf ps (n + 1)) (hc : cut ≤ (fileBytes k ps).length) :
    scanRes k ((fileBytes k ps).take cut) = (ps.take n, if cut < 8 then 0 else posOf ps n, 0) := by
  by_cases h8 : cut < 8
  · rw [scan_cut_short k ps cut h8, if_pos h8]
    rcases h1 with rfl | h1
    · rfl
    · unfold posOf at h1; omega
  · rw [if_neg h8]
    refine scan_cut k ps n cut hL hb hn ?_ h2 hc
    rcases h1 with rfl | h1
    · unfold posOf; simp [frames]; omega
    · exact h1

set_option maxRecDepth 100000 in
set_option maxHeartbeats 4000000 in
theorem ReclogCuts_any (v : Value) (ps : List (List Int)) (k : Int) (c : Nat) (w : World) (h : Rs w v ps) (hb : AllBytes ps) (k0 : 0 ≤ k) (k1 : k < 256) (hc : c < 65536) :
    Calls Try.prog 11 #[v, .int .u8 k, .int .u16 c] w fun e w' => e = .returned (.bool true) ∧ Below w.heap.size w w' := by
  obtain ⟨A, cp, rfl, hcp, hm⟩ := rs_len h
  have HR := Lib.hid h
  have HB := Lib.hid hb
  clear h hb
  go_enter Try.func11, Try.ntmps11
  go_wp2_with fail
  refine (light_any _ _ _ HR.out).mono ?_
  rintro e w' ⟨he, rfl⟩
  rcases he with ⟨rfl, hL⟩ | rfl
  · have HL := Lib.hid hL
    have hfew := hL.few
    obtain ⟨L, hLL⟩ : ∃ L, L = (fileBytes k ps).length := ⟨_, rfl⟩
    have HLL := Lib.hid hLL
    have hLm : L ≤ 16000 := by rw [hLL]; exact file_length hL
    clear hLL hL
    obtain ⟨cut, hcut, hcl⟩ : ∃ cut : Nat, (c : Int) % ((L : Int) + 1) = (cut : Int) ∧ cut ≤ L := ⟨c % (L + 1), by rw [Int.natCast_emod, Int.natCast_add]; rfl, Nat.le_of_lt_succ (Nat.mod_lt c (Nat.succ_pos L))⟩
    go_wp2_with fail
    refine (file_any k _ ps _ HR.out HL.out HB.out).mono ?_
    rintro e w1 ⟨v1, rfl, o1⟩
    obtain ⟨A1, n1, c1, rfl, hn1⟩ := o1.slice
    rw [← HLL.out] at hn1
    subst hn1
    obtain ⟨u, ku, hu⟩ := cut_to o1.bs cut (by rw [← HLL.out]; exact hcl)
    have O1 := Lib.hid o1
    have HU := Lib.hid hu
    clear o1 hu
    go_wp2_with fail
    refine (scan_any k _ _ _ HU.out ((file_bytes k0 k1 HB.out).take cut) (by rw [List.length_take]; omega) k0 k1).mono ?_
    rintro e w2 ⟨vr, rfl, s1⟩
    have HW := Lib.hid (O1.out.below.trans (s1.below.mono O1.out.below.size))
    have S1 := Lib.hid s1.rs
    obtain ⟨en, hen⟩ : ∃ en, (scanRes k ((fileBytes k ps).take cut)).2.1 = en := ⟨_, rfl⟩
    obtain ⟨er, her⟩ : ∃ er, (scanRes k ((fileBytes k ps).take cut)).2.2 = er := ⟨_, rfl⟩
    rw [hen, her]
    have HEN := Lib.hid hen
    have HER := Lib.hid her
    clear hen her s1
    go_wp2_with fail
    go_loop [12, 13] (fun s12 s13 => ∃ (n pos : Nat), n ≤ ps.length ∧ pos ≤ 20000 ∧ s12 = .int .i64 n ∧ s13 = .int .i64 pos ∧ Hid (pos = posOf ps n ∧ (n = 0 ∨ pos ≤ cut))) (fun s12 _ => ps.length - (intOf s12).toNat)
    case atStart => exact ⟨0, 8, by omega, by omega, rfl, rfl, by simp [posOf, frames], Or.inl rfl⟩
    case round =>
      obtain ⟨n, pos, hn, hpos, rfl, rfl, HP⟩ := hrel
      by_cases l1 : n < ps.length
      · obtain ⟨ad, e1, f1⟩ := (show ∃ ad, A = some ad ∧ ∀ i, i < ps.length → ∃ u, w.cell? (ad.add i) = some u ∧ Bs w u (ps.getD i []) by
          obtain ⟨_, _, e, _, _, h4⟩ := HR.out
          cases e
          exact h4 (by omega))
        subst e1
        obtain ⟨u', q1, b1⟩ := f1 n l1
        have hnext := posOf_next ps n l1
        have q2 := pw_cell_below HW.out q1
        have hq : (ps.getD n []).length ≤ 500 := by
          rw [List.getD_eq_getElem?_getD, List.getElem?_eq_getElem l1]
          exact HL.out.short _ (List.getElem_mem l1)
        have HNX := Lib.hid hnext
        clear hnext f1 q1
        generalize ps.getD n [] = pk at b1 HNX hq
        obtain ⟨B1, n1, rfl, _, _⟩ := b1.len
        clear b1
        by_cases l2 : pos + 8 + pk.length ≤ cut
        · go_wp2
          go_round
          case rel => exact ⟨n + 1, pos + (8 + pk.length), by omega, by omega, by go_num, by go_num, by rw [HNX.out, HP.out.1], Or.inr (by omega)⟩
          case measure => simp [intOf]; omega
        · have HT := Lib.hid (cuts_told k ps n cut HL.out HB.out hn (by rw [← HP.out.1]; exact HP.out.2) (fun _ => by rw [HNX.out, ← HP.out.1]; omega) (by rw [← HLL.out]; exact hcl))
          have e1 : er = 0 := by rw [← HER.out, HT.out]
          subst e1
          have e2 : en = if cut < 8 then 0 else pos := by rw [← HEN.out, HT.out, HP.out.1]
          have HS1 : Hid (Rs w2 vr (ps.take n)) := by have := S1.out; rw [HT.out] at this; exact this
          have HS2 := Lib.hid (rs_take (HR.out.below HW.out) n hn)
          have ks := cut_cap_rows (some ad) ps.length cp n (by omega)
          by_cases l8 : cut < 8
          all_goals
            first | rw [if_pos l8] at e2 | rw [if_neg l8] at e2
            subst e2
            go_wp2_with fail
            refine (same_true _ _ _ _ HS1.out HS2.out).mono ?_
            rintro e w3 ⟨rfl, hb3⟩
            have HB3 := Lib.hid (HW.out.trans (hb3.mono HW.out.size))
            clear hb3
            go_wp2_with fail
            refine (awake_any _).mono ?_
            rintro e w4 ⟨rfl, hb4⟩
            have HB4 := Lib.hid (HB3.out.trans (hb4.mono HB3.out.size))
            clear hb4
            go_wp2
            go_ret
            exact ⟨rfl, HB4.out⟩
      · have HT := Lib.hid (cuts_told k ps n cut HL.out HB.out hn (by rw [← HP.out.1]; exact HP.out.2) (fun h => absurd h l1) (by rw [← HLL.out]; exact hcl))
        have e1 : er = 0 := by rw [← HER.out, HT.out]
        subst e1
        have e2 : en = if cut < 8 then 0 else pos := by rw [← HEN.out, HT.out, HP.out.1]
        have HS1 : Hid (Rs w2 vr (ps.take n)) := by have := S1.out; rw [HT.out] at this; exact this
        have HS2 := Lib.hid (rs_take (HR.out.below HW.out) n hn)
        have ks := cut_cap_rows (A) ps.length cp n (by omega)
        by_cases l8 : cut < 8
        all_goals
          first | rw [if_pos l8] at e2 | rw [if_neg l8] at e2
          subst e2
          go_wp2_with fail
          refine (same_true _ _ _ _ HS1.out HS2.out).mono ?_
          rintro e w3 ⟨rfl, hb3⟩
          have HB3 := Lib.hid (HW.out.trans (hb3.mono HW.out.size))
          clear hb3
          go_wp2_with fail
          refine (awake_any _).mono ?_
          rintro e w4 ⟨rfl, hb4⟩
          have HB4 := Lib.hid (HB3.out.trans (hb4.mono HB3.out.size))
          clear hb4
          go_wp2
          go_ret
          exact ⟨rfl, HB4.out⟩
  · go_wp2
    go_ret
    exact ⟨rfl, Below.refl _ _⟩
theorem ReclogCuts_int (v : Value) (ps : List (List Int)) (k c : Int) (w : World) (h : Rs w v ps) (hb : AllBytes ps) (hk : (Lit.int .u8 k).wf = true) (hc : (Lit.int .u16 c).wf = true) :
    Calls Try.prog 11 #[v, .int .u8 k, .int .u16 c] w fun e w' => e = .returned (.bool true) ∧ Below w.heap.size w w' := by
  simp [Lit.wf, IntKind.min, IntKind.max, IntKind.bits, IntKind.signed] at hk hc
  obtain ⟨n, rfl⟩ := Int.eq_ofNat_of_zero_le hc.1
  exact ReclogCuts_any v ps k n w h hb hk.1 (by omega) (by omega)
end Go.Proofs.Ytehndlafbbpofaa.Rec
