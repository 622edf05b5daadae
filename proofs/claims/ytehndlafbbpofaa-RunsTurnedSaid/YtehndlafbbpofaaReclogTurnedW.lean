/- The walk of the law ReclogTurned. -/
import Derived.Test.YtehndlafbbpofaaRecScan
import Derived.Test.YtehndlafbbpofaaRecFile
import Derived.Test.YtehndlafbbpofaaRecAwake
import Derived.Test.YtehndlafbbpofaaRecTurnPure
import Derived.Test.YtehndlafbbpofaaReclogCutsW
import Derived.Test.YtehndlafbbpofaaWLast
namespace Go.Proofs.Ytehndlafbbpofaa.Rec
open Go.RowKit Go.Proofs.YtehndlafbbpofaaW.PrintWords Go.Proofs.Ytehndlafbbpofaa.Base Go.Proofs.Ytehndlafbbpofaa.Pack Go.Proofs.YtehndlafbbpofaaW.PrintLast
set_option linter.unusedVariables false
set_option linter.unusedSimpArgs false

theorem ow_form {w0 w : World} {v : Value} {xs : List Int} (h : Ow w0 w v xs) (hp : 0 < xs.length) : ∃ g cap, v = .slice (some ⟨g, 0, none⟩) xs.length cap ∧ w0.heap.size ≤ g ∧ g < w.heap.size := by
  rcases h.own.2 with ⟨_, hn⟩ | ⟨g, cap, cur, rfl, hg, hh, r⟩
  · omega
  · exact ⟨g, cap, rfl, hg, (Array.getElem?_eq_some_iff.1 hh).1⟩
theorem ow_set {w0 w : World} {g n cap : Nat} {cs : List Int} (h : Ow w0 w (.slice (some ⟨g, 0, none⟩) n cap) cs) (hn : n = cs.length) (hg : w0.heap.size ≤ g) (i : Nat) (x : Int) :
    Ow w0 (w.setCell ⟨g, i, none⟩ (.int .u8 x)) (.slice (some ⟨g, 0, none⟩) n cap) (cs.set i x) := by
  subst hn
  obtain ⟨h1, _⟩ := own_store (W := w) h.own (i : Int) x
  rw [Int.toNat_natCast] at h1
  exact ⟨by rw [List.length_set]; exact h1, h.below.setCell hg _⟩
theorem xor_other (a b : Int) (a0 : 0 ≤ a) (a1 : a < 256) (b0 : 0 ≤ b) (b1 : b < 256) (hb : b ≠ 0) : 0 ≤ Go.bits .xor .u8 a b ∧ Go.bits .xor .u8 a b < 256 ∧ a ≠ Go.bits .xor .u8 a b := by
  obtain ⟨e, h0, h1⟩ := Crc.xor_byte a b a0 a1 b0 b1
  refine ⟨h0, h1, fun h => hb ?_⟩
  rw [← h] at e
  have e2 : BitVec.ofInt 32 a ^^^ BitVec.ofInt 32 a = BitVec.ofInt 32 a ^^^ (BitVec.ofInt 32 a ^^^ BitVec.ofInt 32 b) := congrArg (BitVec.ofInt 32 a ^^^ ·) e
  rw [← BitVec.xor_assoc, BitVec.xor_self, BitVec.zero_xor] at e2
  have e3 := congrArg Crc.U e2.symm
  rw [Crc.U_ofInt b b0 (by omega)] at e3
  exact e3

set_option maxRecDepth 100000 in
set_option maxHeartbeats 4000000 in
theorem ReclogTurned_any (v : Value) (ps : List (List Int)) (k : Int) (a : Nat) (m : Int) (w : World) (h : Rs w v ps) (hb : AllBytes ps) (k0 : 0 ≤ k) (k1 : k < 256) (ha : a < 65536) (m0 : 0 ≤ m) (m1 : m < 256) :
    Calls Try.prog 12 #[.agg #[v, .int .u8 k, .int .u16 a, .int .u8 m]] w fun e w' => e = .returned (.bool true) ∧ Below w.heap.size w w' := by
  obtain ⟨A, cp, rfl, hcp, hm⟩ := rs_len h
  have HR0 := Lib.hid h
  have HB := Lib.hid hb
  clear h hb
  go_enter Try.func12, Try.ntmps12
  go_wp2
  go_quiet (fail)
  have hbox : Below w.heap.size w ((w.alloc (.cells #[.slice A ps.length cp, .int .u8 k, .int .u16 a, .int .u8 m] 78)).drewN nq) := pw_below_drewN (below_alloc (Below.refl _ _) _) _
  obtain ⟨W0, hW0⟩ : ∃ W0, ((w.alloc (.cells #[.slice A ps.length cp, .int .u8 k, .int .u16 a, .int .u8 m] 78)).drewN nq) = W0 := ⟨_, rfl⟩
  rw [hW0] at hbox ⊢
  have HBOX := Lib.hid hbox
  have HR := Lib.hid (HR0.out.below hbox)
  clear hbox hW0 HR0
  go_wp2_with fail
  refine (light_any _ _ _ HR.out).mono ?_
  rintro e w' ⟨he, rfl⟩
  rcases he with ⟨rfl, hL⟩ | rfl
  · have hfew := hL.few
    by_cases g1 : ps.length = 0
    · go_wp2
      go_ret
      exact ⟨rfl, HBOX.out⟩
    · by_cases g2 : m = 0
      · have d2 : (m == 0) = true := beq_iff_eq.2 g2
        clear g2
        go_wp2
        go_ret
        exact ⟨rfl, HBOX.out⟩
      · have d2 : (m == 0) = false := beq_eq_false_iff_ne.2 g2
        have HM := Lib.hid g2
        have HL := Lib.hid hL
        obtain ⟨file, hfile⟩ : ∃ file, file = fileBytes k ps := ⟨_, rfl⟩
        have HF := Lib.hid hfile
        have hLm : file.length ≤ 16000 := by rw [hfile]; exact file_length hL
        have hLb := posOf_all k ps
        have hL8 : 16 ≤ file.length := by
          have h1 := posOf_next ps 0 (by omega)
          rw [hfile]
          unfold fileBytes
          rw [List.length_append, frames_split ps 1, List.length_append]
          unfold posOf at h1
          show 16 ≤ 8 + _
          have h2 : frames (ps.take 0) = [] := by simp [frames]
          rw [h2] at h1
          simp only [Nat.zero_add] at h1
          have h3 : ([] : List Int).length = 0 := rfl
          omega
        rw [← hfile] at hLb
        have HLB := Lib.hid hLb
        clear hfile hL g2 hLb
        obtain ⟨j, hj, hjl⟩ : ∃ j : Nat, (a : Int) % ((file.length : Int) - 8) = (j : Int) ∧ j < file.length - 8 := ⟨a % (file.length - 8), by rw [Int.natCast_emod, Int.natCast_sub (by omega)]; rfl, Nat.mod_lt _ (by omega)⟩
        go_wp2_with fail
        refine (file_any k _ ps _ HR.out HL.out HB.out).mono ?_
        rintro e w1 ⟨v1, rfl, o1⟩
        rw [← HF.out] at o1
        obtain ⟨g, cap, rfl, hg0, hg1⟩ := ow_form o1 (by omega)
        obtain ⟨p, hp⟩ : ∃ p : Nat, (8 : Int) + (j : Int) = (p : Int) := ⟨8 + j, by omega⟩
        have hp8 : 8 ≤ p := by omega
        have hpl : p < file.length := by omega
        obtain ⟨hcell, hfroz⟩ := own_at (W := w1) (g := g) (cap := cap) o1.own (i := (p : Int)) (by omega) (by omega)
        rw [Int.toNat_natCast] at hcell hfroz
        have hxb : 0 ≤ rd file (p : Int) ∧ rd file (p : Int) < 256 := by
          have := file_bytes k0 k1 HB.out
          rw [← HF.out] at this
          exact rd_byte this p hpl
        have HY := Lib.hid (xor_other (rd file (p : Int)) m hxb.1 hxb.2 m0 m1 HM.out)
        have O2 := Lib.hid (ow_set o1 rfl hg0 p (Go.bits .xor .u8 (rd file (p : Int)) m))
        have HPJ := Lib.hid (And.intro hp hjl)
        clear o1 hjl
        go_wp2_with fail
        obtain ⟨y, hy⟩ : ∃ y, Go.bits .xor .u8 (rd file (p : Int)) m = y := ⟨_, rfl⟩
        rw [hy] at HY O2 ⊢
        obtain ⟨w2, hw2⟩ : ∃ w2, w1.setCell ⟨g, p, none⟩ (.int .u8 y) = w2 := ⟨_, rfl⟩
        rw [hw2] at O2 ⊢
        clear hy hw2 hcell hfroz
        go_loop [9, 10] (fun s9 s10 => ∃ (n pos : Nat), n ≤ ps.length ∧ pos ≤ p ∧ s9 = .int .i64 n ∧ s10 = .int .i64 pos ∧ Hid (pos = posOf ps n)) (fun s9 _ => ps.length - (intOf s9).toNat)
        case atStart => exact ⟨0, 8, by omega, hp8, rfl, rfl, by show 8 = _; simp [posOf, frames]⟩
        case round =>
          obtain ⟨n, pos, hn, hpos, rfl, rfl, HP⟩ := hrel
          by_cases l1 : n < ps.length
          · obtain ⟨ad, e1, f1⟩ := (show ∃ ad, A = some ad ∧ ∀ i, i < ps.length → ∃ u, W0.cell? (ad.add i) = some u ∧ Bs W0 u (ps.getD i []) by
              obtain ⟨_, _, e, _, _, h4⟩ := HR.out
              cases e
              exact h4 (by omega))
            subst e1
            obtain ⟨u', q1, b1⟩ := f1 n l1
            have hnext := posOf_next ps n l1
            have q2 := pw_cell_below O2.out.below q1
            have hq : (ps.getD n []).length ≤ 500 := by
              rw [List.getD_eq_getElem?_getD, List.getElem?_eq_getElem l1]
              exact HL.out.short _ (List.getElem_mem l1)
            have HNX := Lib.hid hnext
            clear hnext f1 q1
            generalize ps.getD n [] = pk at b1 HNX hq
            obtain ⟨B1, n1, rfl, _, _⟩ := b1.len
            clear b1
            by_cases l2 : pos + 8 + pk.length ≤ p
            · go_wp2
              go_round
              case rel => exact ⟨n + 1, pos + (8 + pk.length), by omega, by omega, by go_num, by go_num, by show _ = _; rw [HNX.out, HP.out]⟩
              case measure => simp [intOf]; omega
            · have hT := turned_told k ps n p y HL.out HB.out l1 (by rw [← HP.out]; exact hpos) (by rw [HNX.out, ← HP.out]; omega) HY.out.1 HY.out.2.1 (by
                have h := HY.out.2.2
                rw [HF.out] at h
                exact h)
              rw [← HF.out] at hT
              have hsb : Bytes (file.set p y) := set_bytes (by rw [HF.out]; exact file_bytes k0 k1 HB.out) p y HY.out.1 HY.out.2.1
              have HT := Lib.hid hT
              have HSB := Lib.hid hsb
              clear hT hsb
              go_wp2_with fail
              refine (scan_any k _ _ _ O2.out.bs HSB.out (by rw [List.length_set]; omega) k0 k1).mono ?_
              rintro e wz ⟨vr, rfl, s1⟩
              have HWZ := Lib.hid (HBOX.out.trans ((O2.out.below.trans (s1.below.mono O2.out.below.size)).mono HBOX.out.size))
              have HWY := Lib.hid (O2.out.below.trans (s1.below.mono O2.out.below.size))
              obtain ⟨rs, hrs⟩ : ∃ rs, (scanRes k (file.set p y)).1 = rs := ⟨_, rfl⟩
              obtain ⟨en, hen⟩ : ∃ en, (scanRes k (file.set p y)).2.1 = en := ⟨_, rfl⟩
              have S1 := s1.rs
              rw [hrs] at HT S1
              rw [HT.out.1, hen]
              clear hen hrs s1
              obtain ⟨A3, c3, rfl, hc3, hm3⟩ := rs_len S1
              have hnr := HT.out.2.1
              have RS1 := rs_take S1 n hnr
              rw [HT.out.2.2.1] at RS1
              have RS2 := rs_take (HR.out.below HWY.out) n hn
              have RS1 := Lib.hid RS1
              have RS2 := Lib.hid RS2
              have ks1 := cut_cap_rows A3 rs.length c3 n (by omega)
              have ks2 := cut_cap_rows (some ad) ps.length cp n (by omega)
              have d3 : decide ((rs.length : Int) < (n : Int)) = false := decide_eq_false (by omega)
              have d5 : decide (rs.length < n) = false := decide_eq_false (by omega)
              clear S1
              go_wp2
              --BEGIN REGION
              refine start_ (n := 18) (S := fun w' => Below wz.heap.size wz w') (ds := []) #[false, false, false, false, false, false, false, false, false, false, false, false, false, false, false, false, false, false] (by kernel_rfl) rfl rfl (Below.drew (Below.refl _ _)) (fun hHeld => ?_)
              refine pure_ (i := 0) (N := some 86) (v := ?_) (a' := ?_) #[true, false, false, false, false, false, false, false, false, false, false, false, false, false, false, false, false, false] rfl rfl (by kernel_rfl) (fun _ _ _ h => h) (Or.inl ⟨by rfl, ?_⟩) ?_ ?_
              rotate_left
              · intro w'
                go_simp
                with_reducible rfl
              rotate_left
              · simp only [Act.put, List.setIfInBounds_toArray, List.set_cons_zero, List.set_cons_succ, i64_w, i32_w]
                rfl
              refine pure_ (i := 1) (N := some 87) (v := ?_) (a' := ?_) #[true, true, false, false, false, false, false, false, false, false, false, false, false, false, false, false, false, false] rfl rfl (by kernel_rfl) (fun _ _ _ h => h) (Or.inl ⟨by rfl, ?_⟩) ?_ ?_
              rotate_left
              · intro w'
                go_simp
                with_reducible rfl
              rotate_left
              · simp only [Act.put, List.setIfInBounds_toArray, List.set_cons_zero, List.set_cons_succ, i64_w, i32_w]
                rfl
              refine pure_ (i := 2) (N := some 88) (v := ?_) (a' := ?_) #[true, true, true, false, false, false, false, false, false, false, false, false, false, false, false, false, false, false] rfl rfl (by kernel_rfl) (fun _ _ _ h => h) (Or.inl ⟨by rfl, ?_⟩) ?_ ?_
              rotate_left
              · intro w'
                go_simp
                with_reducible rfl
              rotate_left
              · simp only [Act.put, List.setIfInBounds_toArray, List.set_cons_zero, List.set_cons_succ, i64_w, i32_w]
                rfl
              refine pure_ (i := 3) (N := some 89) (v := ?_) (a' := ?_) #[true, true, true, true, false, false, false, false, false, false, false, false, false, false, false, false, false, false] rfl rfl (by kernel_rfl) (fun _ _ _ h => h) (Or.inl ⟨by rfl, ?_⟩) ?_ ?_
              rotate_left
              · intro w'
                go_simp
                with_reducible rfl
              rotate_left
              · simp only [Act.put, List.setIfInBounds_toArray, List.set_cons_zero, List.set_cons_succ, i64_w, i32_w]
                rfl
              refine pure_ (i := 4) (N := some 90) (v := ?_) (a' := ?_) #[true, true, true, true, true, false, false, false, false, false, false, false, false, false, false, false, false, false] rfl rfl (by kernel_rfl) (fun _ _ _ h => h) (Or.inl ⟨by rfl, ?_⟩) ?_ ?_
              rotate_left
              · intro w'
                go_simp
                with_reducible rfl
              rotate_left
              · simp only [Act.put, List.setIfInBounds_toArray, List.set_cons_zero, List.set_cons_succ, i64_w, i32_w]
                rfl
              refine pure_ (i := 5) (N := some 91) (v := ?_) (a' := ?_) #[true, true, true, true, true, true, false, false, false, false, false, false, false, false, false, false, false, false] rfl rfl (by kernel_rfl) (fun _ _ _ h => h) (Or.inl ⟨by rfl, ?_⟩) ?_ ?_
              rotate_left
              · intro w'
                go_simp
                with_reducible rfl
              rotate_left
              · simp only [Act.put, List.setIfInBounds_toArray, List.set_cons_zero, List.set_cons_succ, i64_w, i32_w]
                rfl
              refine pure_ (i := 6) (N := some 92) (v := ?_) (a' := ?_) #[true, true, true, true, true, true, true, false, false, false, false, false, false, false, false, false, false, false] rfl rfl (by kernel_rfl) (fun _ _ _ h => h) (Or.inl ⟨by rfl, ?_⟩) ?_ ?_
              rotate_left
              · intro w'
                go_simp
                with_reducible rfl
              rotate_left
              · simp only [Act.put, List.setIfInBounds_toArray, List.set_cons_zero, List.set_cons_succ, i64_w, i32_w]
                rfl
              refine pure_ (i := 7) (N := some 93) (v := ?_) (a' := ?_) #[true, true, true, true, true, true, true, true, false, false, false, false, false, false, false, false, false, false] rfl rfl (by kernel_rfl) (fun _ _ _ h => h) (Or.inl ⟨by rfl, ?_⟩) ?_ ?_
              rotate_left
              · intro w'
                go_simp
                with_reducible rfl
              rotate_left
              · simp only [Act.put, List.setIfInBounds_toArray, List.set_cons_zero, List.set_cons_succ, i64_w, i32_w]
                rfl
              refine pure_ (i := 8) (N := some 94) (v := ?_) (a' := ?_) #[true, true, true, true, true, true, true, true, true, false, false, false, false, false, false, false, false, false] rfl rfl (by kernel_rfl) (fun _ _ _ h => h) (Or.inl ⟨by rfl, ?_⟩) ?_ ?_
              rotate_left
              · intro w'
                go_simp
                with_reducible rfl
              rotate_left
              · simp only [Act.put, List.setIfInBounds_toArray, List.set_cons_zero, List.set_cons_succ, i64_w, i32_w]
                rfl
              refine pure_ (i := 9) (N := some 95) (v := ?_) (a' := ?_) #[true, true, true, true, true, true, true, true, true, true, false, false, false, false, false, false, false, false] rfl rfl (by kernel_rfl) (fun _ _ _ h => h) (Or.inl ⟨by rfl, ?_⟩) ?_ ?_
              rotate_left
              · intro w'
                go_simp
                with_reducible rfl
              rotate_left
              · simp only [Act.put, List.setIfInBounds_toArray, List.set_cons_zero, List.set_cons_succ, i64_w, i32_w]
                rfl
              refine pure_ (i := 10) (N := some 96) (v := ?_) (a' := ?_) #[true, true, true, true, true, true, true, true, true, true, true, false, false, false, false, false, false, false] rfl rfl (by kernel_rfl) (fun _ _ _ h => h) (Or.inl ⟨by rfl, ?_⟩) ?_ ?_
              rotate_left
              · intro w'
                go_simp
                with_reducible rfl
              rotate_left
              · simp only [Act.put, List.setIfInBounds_toArray, List.set_cons_zero, List.set_cons_succ, i64_w, i32_w]
                rfl
              refine pure_ (i := 11) (N := some 97) (v := ?_) (a' := ?_) #[true, true, true, true, true, true, true, true, true, true, true, true, false, false, false, false, false, false] rfl rfl (by kernel_rfl) (fun _ _ _ h => h) (Or.inl ⟨by rfl, ?_⟩) ?_ ?_
              rotate_left
              · intro w'
                go_simp
                with_reducible rfl
              rotate_left
              · simp only [Act.put, List.setIfInBounds_toArray, List.set_cons_zero, List.set_cons_succ, i64_w, i32_w]
                rfl
              refine pure_ (i := 12) (N := some 98) (v := ?_) (a' := ?_) #[true, true, true, true, true, true, true, true, true, true, true, true, true, false, false, false, false, false] rfl rfl (by kernel_rfl) (fun _ _ _ h => h) (Or.inl ⟨by rfl, ?_⟩) ?_ ?_
              rotate_left
              · intro w'
                go_simp
                with_reducible rfl
              rotate_left
              · simp only [Act.put, List.setIfInBounds_toArray, List.set_cons_zero, List.set_cons_succ, i64_w, i32_w]
                rfl
              refine pure_ (i := 13) (N := some 99) (v := ?_) (a' := ?_) #[true, true, true, true, true, true, true, true, true, true, true, true, true, true, false, false, false, false] rfl rfl (by kernel_rfl) (fun _ _ _ h => h) (Or.inl ⟨by rfl, ?_⟩) ?_ ?_
              rotate_left
              · intro w'
                go_simp
                with_reducible rfl
              rotate_left
              · simp only [Act.put, List.setIfInBounds_toArray, List.set_cons_zero, List.set_cons_succ, i64_w, i32_w]
                rfl
              refine pure_ (i := 14) (N := some 100) (v := ?_) (a' := ?_) #[true, true, true, true, true, true, true, true, true, true, true, true, true, true, true, false, false, false] rfl rfl (by kernel_rfl) (fun _ _ _ h => h) (Or.inl ⟨by rfl, ?_⟩) ?_ ?_
              rotate_left
              · intro w'
                go_simp
                with_reducible rfl
              rotate_left
              · simp only [Act.put, List.setIfInBounds_toArray, List.set_cons_zero, List.set_cons_succ, i64_w, i32_w]
                rfl
              refine one_ (i := 15) (N := some 101) #[true, true, true, true, true, true, true, true, true, true, true, true, true, true, true, true, false, false] rfl rfl (by kernel_rfl) (by decide) (fun K hK => ?_)
              refine goes_ Try.func31 (by kernel_rfl) rfl #[.slice A3 n c3, .slice (some ad) n cp] (by rfl) rfl rfl (by first | (simp only [List.map_toArray, List.map_cons, List.map_nil]; done) | (simp only [List.map_toArray, List.map_cons, List.map_nil]; rfl) | rfl) ?_
              with_reducible refine (same_true _ _ _ _ (RS1.out.below hHeld) (RS2.out.below hHeld)).mono ?_
              rintro e w5 ⟨rfl, hb5⟩
              refine ⟨_, rfl, ?_⟩
              refine hK.out _ _ (hHeld.trans (hb5.mono hHeld.size)) (fun hHeld => ?_)
              clear hK K
              refine norm_ (a' := ?_) ?_ ?_
              rotate_left
              · show Act.put _ (some 101) _ = _
                simp only [Act.put, List.setIfInBounds_toArray, List.set_cons_zero, List.set_cons_succ, i64_w, i32_w]
                rfl
              refine pure_ (i := 16) (N := some 102) (v := ?_) (a' := ?_) #[true, true, true, true, true, true, true, true, true, true, true, true, true, true, true, true, true, false] rfl rfl (by kernel_rfl) (fun _ _ _ h => h) (Or.inl ⟨by rfl, ?_⟩) ?_ ?_
              rotate_left
              · intro w'
                go_simp
                with_reducible rfl
              rotate_left
              · simp only [Act.put, List.setIfInBounds_toArray, List.set_cons_zero, List.set_cons_succ, i64_w, i32_w]
                rfl
              refine pure_ (i := 17) (N := some 103) (v := ?_) (a' := ?_) #[true, true, true, true, true, true, true, true, true, true, true, true, true, true, true, true, true, true] rfl rfl (by kernel_rfl) (fun _ _ _ h => h) (Or.inl ⟨by rfl, ?_⟩) ?_ ?_
              rotate_left
              · intro w'
                go_simp
                with_reducible rfl
              rotate_left
              · simp only [Act.put, List.setIfInBounds_toArray, List.set_cons_zero, List.set_cons_succ, i64_w, i32_w]
                rfl
              refine done_ (by kernel_rfl) ?_
              --END REGION
              by_cases l4 : pos + 4 ≤ p
              · have hrn := HT.out.2.2.2 (by rw [← HP.out]; exact l4)
                have d4 : ((rs.length : Int) == (n : Int)) = true := by rw [hrn]; exact beq_self_eq_true _
                clear hrn
                go_wp2_with fail
                refine (awake_any _).mono ?_
                rintro e w4 ⟨rfl, hb4⟩
                have HB4 := Lib.hid (HWZ.out.trans ((hHeld.trans (hb4.mono hHeld.size)).mono HWZ.out.size))
                clear hb4 hHeld
                go_wp2
                go_ret
                exact ⟨rfl, HB4.out⟩
              · go_wp2_with fail
                refine (awake_any _).mono ?_
                rintro e w4 ⟨rfl, hb4⟩
                have HB4 := Lib.hid (HWZ.out.trans ((hHeld.trans (hb4.mono hHeld.size)).mono HWZ.out.size))
                clear hb4 hHeld
                go_wp2
                go_ret
                exact ⟨rfl, HB4.out⟩
          · exfalso
            have h1 := HLB.out
            rw [← show n = ps.length from by omega, ← HP.out] at h1
            omega
  · go_wp2
    go_ret
    exact ⟨rfl, HBOX.out⟩
end Go.Proofs.Ytehndlafbbpofaa.Rec
