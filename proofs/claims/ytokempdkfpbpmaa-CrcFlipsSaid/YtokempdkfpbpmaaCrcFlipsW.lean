/- The walk of the law CrcFlips. -/
import Derived.Test.YtokempdkfpbpmaaCrcLaws
import Derived.Test.YtokempdkfpbpmaaWLast
import Derived.Test.YtokempdkfpbpmaaCrcFlipsPure
namespace Go.Proofs.Ytokempdkfpbpmaa.Crc
open Go.RowKit Go.Proofs.YtokempdkfpbpmaaW.PrintWords Go.Proofs.YtokempdkfpbpmaaW.PrintLast Go.Proofs.Ytokempdkfpbpmaa.Base
set_option linter.unusedVariables false
set_option linter.unusedSimpArgs false

theorem shl_u8 (j : Nat) (hj : j < 8) (W : World) : (Op.shift .shl .u8 1 .i64 (j : Int)).run Try.prog W = .ok (.int .u8 (2 ^ j)) W := by
  have h : ¬ ((j : Int) < 0) := by omega
  have h2 : IntKind.u8.wrap (1 * 2 ^ min j 8) = 2 ^ j := by
    rw [Nat.min_eq_left (by omega)]
    rcases (by omega : j = 0 ∨ j = 1 ∨ j = 2 ∨ j = 3 ∨ j = 4 ∨ j = 5 ∨ j = 6 ∨ j = 7) with h | h | h | h | h | h | h | h <;> subst h <;> decide
  unfold Op.shift
  rw [if_neg h]
  simp only [Int.toNat_natCast]
  show Result.ok (Value.int .u8 (IntKind.u8.wrap (1 * 2 ^ min j 8))) W = _
  rw [h2]
theorem pow_mod (j : Nat) (hj : j < 8) : (2 : Int) ^ j % 256 = 2 ^ j := by
  have := pow_byte j hj
  exact Int.emod_eq_of_lt this.1 this.2.1
theorem ow_form {w0 w : World} {v : Value} {xs : List Int} (h : Ow w0 w v xs) (hp : 0 < xs.length) : ∃ g cap, v = .slice (some ⟨g, 0, none⟩) xs.length cap ∧ w0.heap.size ≤ g ∧ g < w.heap.size := by
  rcases h.own.2 with ⟨_, hn⟩ | ⟨g, cap, cur, rfl, hg, hh, r⟩
  · omega
  · exact ⟨g, cap, rfl, hg, (Array.getElem?_eq_some_iff.1 hh).1⟩

theorem ow_set {w0 w : World} {g n cap : Nat} {cs : List Int} (h : Ow w0 w (.slice (some ⟨g, 0, none⟩) n cap) cs) (hn : n = cs.length) (hg : w0.heap.size ≤ g) (i : Nat) (x : Int) :
    Ow w0 (w.setCell ⟨g, i, none⟩ (.int .u8 x)) (.slice (some ⟨g, 0, none⟩) n cap) (cs.set i x) := by
  subst hn
  obtain ⟨h1, _⟩ := own_store (W := w) h.own (i : Int) x
  rw [Int.toNat_natCast] at h1
  exact ⟨by rw [List.length_set]; exact h1, h.below.setCell hg _⟩
set_option maxHeartbeats 3200000 in
theorem CrcFlips_any (v1 : Value) (xs : List Int) (a : Nat) (D : Int) (w : World) (h1 : Bs w v1 xs) (b1 : Bytes xs) (ha : a < 65536) (D0 : 0 ≤ D) (D1 : D < 4294967296) :
    Calls Try.prog 5 #[v1, .int .u16 a, .int .u32 D] w fun e w' => e = .returned (.bool true) ∧ Below w.heap.size w w' := by
  obtain ⟨A1, c1, rfl, hc1, hm1⟩ := h1.len
  have R1 := Lib.hid h1
  clear h1
  by_cases g1 : xs.length ≤ 3000
  · by_cases g2 : xs.length = 0
    · have d2 : ((xs.length : Int) == 0) = true := beq_iff_eq.2 (by omega)
      have d1 : decide ((3000 : Int) < (xs.length : Int)) = false := decide_eq_false (by omega)
      clear g2
      go_enter Try.func5, Try.ntmps5
      go_wp2
      go_ret
      exact ⟨rfl, Below.refl _ _⟩
    · by_cases g3 : D = 0
      · have d1 : decide ((3000 : Int) < (xs.length : Int)) = false := decide_eq_false (by omega)
        have d2 : ((xs.length : Int) == 0) = false := beq_eq_false_iff_ne.2 (by omega)
        have d3 : (D == 0) = true := beq_iff_eq.2 g3
        clear g2 g3
        go_enter Try.func5, Try.ntmps5
        go_wp2
        go_ret
        exact ⟨rfl, Below.refl _ _⟩
      · have d1 : decide ((3000 : Int) < (xs.length : Int)) = false := decide_eq_false (by omega)
        have d2 : ((xs.length : Int) == 0) = false := beq_eq_false_iff_ne.2 (by omega)
        have d3 : (D == 0) = false := beq_eq_false_iff_ne.2 g3
        have HE := Lib.hid (Ow.lit (Below.refl w.heap.size w) [] (by simp))
        have hp : 0 < xs.length := by omega
        clear g2 g3
        go_enter Try.func5, Try.ntmps5
        go_wp2_with (at_builtin; refine Held.of ?_)
        refine app_bytes rfl (.tmp 24) (.tmp 25) 22 rfl Try.underlying22 _ _ [] xs rfl rfl HE.out (R1.out.alloc _) (by (try simp only [List.length_append, List.length_nil, List.length_cons]); omega) ?_
        clear HE
        intro va w1 o1 _
        rw [List.nil_append] at o1
        obtain ⟨g, cap, rfl, hg0, hg1⟩ := ow_form o1 hp
        have O1 := Lib.hid o1
        clear o1
        go_wp2
        obtain ⟨f, hf, hf8⟩ : ∃ f : Nat, (a : Int) % (8 * (xs.length : Int)) = (f : Int) ∧ f < 8 * xs.length := ⟨a % (8 * xs.length), by rw [show (8 * (xs.length : Int)) = ((8 * xs.length : Nat) : Int) by omega]; exact (Int.natCast_emod _ _).symm, Nat.mod_lt _ (by omega)⟩
        rw [hf]
        have HF := Lib.hid hf
        clear hf
        go_loopw [9, 10] (fun t i wr => ∃ (k : Nat), k ≤ 32 ∧ f + k ≤ 8 * xs.length ∧ i = .int .i64 k ∧ t = .bool (tAt D k) ∧ Ow w wr (.slice (some ⟨g, 0, none⟩) xs.length cap) (csAt xs f D k)) (fun _ i _ => 32 - (intOf i).toNat)
        case atStart => exact ⟨0, by omega, by omega, rfl, rfl, O1.out⟩
        case round =>
          obtain ⟨k, hk, hfk, rfl, rfl, ho⟩ := hrel
          have O2 := Lib.hid ho
          clear ho O1
          by_cases hlt : k < 32
          · by_cases hfl : f + k < 8 * xs.length
            · by_cases hb : Go.bits .and .u32 (D / 2 ^ k) 1 = 1
              · have hb1 : (Go.bits .and .u32 (D / 2 ^ k) 1 == 1) = true := beq_iff_eq.2 hb
                go_wp2
                have hb8 : (f + k) / 8 < xs.length := by omega
                obtain ⟨p, hp2⟩ : ∃ p, f + k = p := ⟨_, rfl⟩
                obtain ⟨cs, hcs⟩ : ∃ cs, csAt xs f D k = cs := ⟨_, rfl⟩
                have hcl : cs.length = xs.length := by rw [← hcs]; exact csAt_length xs f D k
                rw [hcs] at O2
                rw [show (f : Int) + (k : Int) = ((f + k : Nat) : Int) by omega]
                rw [hp2] at hb8 ⊢
                have HC := Lib.hid hcs
                have HP := Lib.hid hp2
                have HL := Lib.hid hcl
                clear hcs hp2 hcl
                obtain ⟨q, hq⟩ : ∃ q, p / 8 = q := ⟨_, rfl⟩
                obtain ⟨j, hj⟩ : ∃ j, p % 8 = j := ⟨_, rfl⟩
                have hj8 : j < 8 := by omega
                rw [hq] at hb8
                obtain ⟨hcell, hfroz⟩ := own_at (W := wr.drew) (g := g) (cap := cap) (by have := O2.out.drew.own; rw [HL.out] at this; exact this) (i := (q : Int)) (by omega) (by omega)
                rw [Int.toNat_natCast] at hcell hfroz
                have q2 : 0 ≤ (q : Int) := by omega
                have q3 : (q : Int) < (xs.length : Int) := by omega
                have q5 : (p : Int).tmod 8 = (j : Int) := by rw [Int.tmod_eq_emod_of_nonneg (by omega)]; omega
                have q6 : ∀ W, (Op.shift .shl .u8 1 .i64 (j : Int)).run Try.prog W = .ok (.int .u8 (2 ^ j)) W := fun W => shl_u8 j hj8 W
                have HT : Hid (tAt D (k + 1) = true) := if_pos hb
                have HS : Hid (csAt xs f D (k + 1) = cs.set q (Go.bits .xor .u8 (rd cs (q : Int)) (2 ^ j))) := by
                  have e : csAt xs f D (k + 1) = flipOf (csAt xs f D k) (f + k) := if_pos hb
                  show _ = _
                  rw [e, HC.out, HP.out, flipOf, hq, hj, rd, Int.toNat_natCast]
                have O3 := Lib.hid (ow_set O2.out.drew HL.out.symm hg0 q (Go.bits .xor .u8 (rd cs (q : Int)) (2 ^ j)))
                clear hb
                have HQ := Lib.hid hq
                have HJ := Lib.hid hj
                have q1 : wrap64 ((p : Int) / 8) = (q : Int) := by rw [IntWalk.wrap64_in _ (by omega)]; omega
                clear hq hj
                --BEGIN REGION
                refine start_ (n := 14) (S := fun w' => w'.cell? ⟨g, q, none⟩ = some (.int .u8 (rd cs (q : Int))) ∧ w'.frozen? ⟨g, q, none⟩ = false) (ds := [13]) #[false, false, false, false, false, false, false, false, false, false, false, false, false, false] (by kernel_rfl) rfl rfl ⟨hcell, hfroz⟩ (fun hHeld => ?_)
                refine pure_ (i := 0) (N := some 54) (v := ?_) (a' := ?_) #[true, false, false, false, false, false, false, false, false, false, false, false, false, false] rfl rfl (by kernel_rfl) (fun _ _ _ h => h) (Or.inl ⟨by rfl, ?_⟩) ?_ ?_
                rotate_left
                · intro w'
                  go_simp
                  with_reducible rfl
                rotate_left
                · simp only [Act.put, List.setIfInBounds_toArray, List.set_cons_zero, List.set_cons_succ, i64_w, i32_w]
                  rfl
                refine pure_ (i := 1) (N := some 55) (v := ?_) (a' := ?_) #[true, true, false, false, false, false, false, false, false, false, false, false, false, false] rfl rfl (by kernel_rfl) (fun _ _ _ h => h) (Or.inl ⟨by rfl, ?_⟩) ?_ ?_
                rotate_left
                · intro w'
                  go_simp
                  with_reducible rfl
                rotate_left
                · simp only [Act.put, List.setIfInBounds_toArray, List.set_cons_zero, List.set_cons_succ, i64_w, i32_w]
                  rfl
                refine pure_ (i := 2) (N := some 56) (v := ?_) (a' := ?_) #[true, true, true, false, false, false, false, false, false, false, false, false, false, false] rfl rfl (by kernel_rfl) (fun _ _ _ h => h) (Or.inl ⟨by rfl, ?_⟩) ?_ ?_
                rotate_left
                · intro w'
                  go_simp
                  with_reducible rfl
                rotate_left
                · simp only [Act.put, List.setIfInBounds_toArray, List.set_cons_zero, List.set_cons_succ, i64_w, i32_w]
                  rfl
                refine pure_ (i := 3) (N := some 57) (v := ?_) (a' := ?_) #[true, true, true, true, false, false, false, false, false, false, false, false, false, false] rfl rfl (by kernel_rfl) (fun _ _ _ h => h) (Or.inl ⟨by rfl, ?_⟩) ?_ ?_
                rotate_left
                · intro w'
                  go_simp
                  with_reducible rfl
                rotate_left
                · simp only [Act.put, List.setIfInBounds_toArray, List.set_cons_zero, List.set_cons_succ, i64_w, i32_w]
                  rfl
                refine pure_ (i := 4) (N := some 58) (v := ?_) (a' := ?_) #[true, true, true, true, true, false, false, false, false, false, false, false, false, false] rfl rfl (by kernel_rfl) (fun _ _ _ h => h) (Or.inl ⟨by rfl, ?_⟩) ?_ ?_
                rotate_left
                · intro w'
                  go_simp
                  with_reducible rfl
                rotate_left
                · simp only [Act.put, List.setIfInBounds_toArray, List.set_cons_zero, List.set_cons_succ, i64_w, i32_w]
                  rfl
                refine pure_ (i := 5) (N := some 59) (v := ?_) (a' := ?_) #[true, true, true, true, true, true, false, false, false, false, false, false, false, false] rfl rfl (by kernel_rfl) (fun _ _ _ h => h) (Or.inl ⟨by rfl, ?_⟩) ?_ ?_
                rotate_left
                · intro w'
                  go_simp
                  with_reducible rfl
                rotate_left
                · simp only [Act.put, List.setIfInBounds_toArray, List.set_cons_zero, List.set_cons_succ, i64_w, i32_w]
                  rfl
                refine pure_ (i := 6) (N := some 60) (v := ?_) (a' := ?_) #[true, true, true, true, true, true, true, false, false, false, false, false, false, false] rfl rfl (by kernel_rfl) (fun _ _ _ h => h) (Or.inl ⟨by rfl, ?_⟩) ?_ ?_
                rotate_left
                · intro w'
                  go_simp
                  with_reducible rfl
                rotate_left
                · simp only [Act.put, List.setIfInBounds_toArray, List.set_cons_zero, List.set_cons_succ, i64_w, i32_w]
                  rfl
                refine pure_ (i := 8) (N := some 62) (v := ?_) (a' := ?_) #[true, true, true, true, true, true, true, false, true, false, false, false, false, false] rfl rfl (by kernel_rfl) (fun _ _ _ h => h) (Or.inl ⟨by rfl, ?_⟩) ?_ ?_
                rotate_left
                · intro w'
                  go_simp
                  with_reducible rfl
                rotate_left
                · simp only [Act.put, List.setIfInBounds_toArray, List.set_cons_zero, List.set_cons_succ, i64_w, i32_w]
                  rfl
                refine pure_ (i := 9) (N := some 63) (v := ?_) (a' := ?_) #[true, true, true, true, true, true, true, false, true, true, false, false, false, false] rfl rfl (by kernel_rfl) (fun _ _ _ h => h) (Or.inl ⟨by rfl, ?_⟩) ?_ ?_
                rotate_left
                · intro w'
                  go_simp
                  with_reducible rfl
                rotate_left
                · simp only [Act.put, List.setIfInBounds_toArray, List.set_cons_zero, List.set_cons_succ, i64_w, i32_w]
                  rfl
                refine pure_ (i := 10) (N := some 64) (v := ?_) (a' := ?_) #[true, true, true, true, true, true, true, false, true, true, true, false, false, false] rfl rfl (by kernel_rfl) (fun _ _ _ h => h) (Or.inl ⟨by rfl, ?_⟩) ?_ ?_
                rotate_left
                · intro w'
                  go_simp
                  with_reducible rfl
                rotate_left
                · simp only [Act.put, List.setIfInBounds_toArray, List.set_cons_zero, List.set_cons_succ, i64_w, i32_w]
                  rfl
                refine take_ (i := 7) (N := some 61) (v := ?_) (a' := ?_) #[true, true, true, true, true, true, true, true, true, true, true, false, false, false] rfl rfl (by kernel_rfl) (fun _ _ _ h => h) (Or.inl ⟨by rfl, ?_⟩) hHeld ?_ ?_
                rotate_left
                · rintro w' ⟨s0, s1⟩
                  go_simp
                  with_reducible rfl
                rotate_left
                · simp only [Act.put, List.setIfInBounds_toArray, List.set_cons_zero, List.set_cons_succ, i64_w, i32_w]
                  rfl
                refine pure_ (i := 11) (N := some 65) (v := ?_) (a' := ?_) #[true, true, true, true, true, true, true, true, true, true, true, true, false, false] rfl rfl (by kernel_rfl) (fun _ _ _ h => h) (Or.inl ⟨by rfl, ?_⟩) ?_ ?_
                rotate_left
                · intro w'
                  go_simp
                  with_reducible rfl
                rotate_left
                · simp only [Act.put, List.setIfInBounds_toArray, List.set_cons_zero, List.set_cons_succ, i64_w, i32_w]
                  rfl
                refine pure_ (i := 12) (N := some 66) (v := ?_) (a' := ?_) #[true, true, true, true, true, true, true, true, true, true, true, true, true, false] rfl rfl (by kernel_rfl) (fun _ _ _ h => h) (Or.inl ⟨by rfl, ?_⟩) ?_ ?_
                rotate_left
                · intro w'
                  go_simp
                  with_reducible rfl
                rotate_left
                · simp only [Act.put, List.setIfInBounds_toArray, List.set_cons_zero, List.set_cons_succ, i64_w, i32_w]
                  rfl
                refine last_ (i := 13) (N := none) #[true, true, true, true, true, true, true, true, true, true, true, true, true, true] rfl rfl (by kernel_rfl) (by decide) (fun K hK => ?_)
                refine skip_ (w1 := ?_) (by rfl) rfl ?_ ?_
                rotate_left
                · go_simp
                  rfl
                refine hK.out _ _ ?_
                clear hK K
                refine done_ (by kernel_rfl) ?_
                --END REGION
                clear q1 q2 q3 q5 q6
                go_wp2
                go_roundw
                case rel => exact ⟨k + 1, by omega, by have := HP.out; omega, by go_num, by rw [HT.out], by rw [HS.out, pow_mod j hj8]; exact O3.out⟩
                case measure => simp [intOf]; omega
              · have hb1 : (Go.bits .and .u32 (D / 2 ^ k) 1 == 1) = false := beq_eq_false_iff_ne.2 hb
                have HT : Hid (tAt D (k + 1) = tAt D k) := if_neg hb
                have HS : Hid (csAt xs f D (k + 1) = csAt xs f D k) := if_neg hb
                clear hb
                go_wp2
                go_roundw
                case rel => exact ⟨k + 1, by omega, by omega, by go_num, by rw [HT.out], by rw [HS.out]; exact O2⟩
                case measure => simp [intOf]; omega
            · have hp1 := flips_pure xs f D k b1 D0 D1 hk hfk
              have P1 := Lib.hid hp1
              clear hp1
              go_wp2_with fail
              refine (sum_any _ _ _ O2.out.bs).mono ?_
              rintro e w' ⟨rfl, rfl⟩
              go_wp2_with fail
              refine (sum_any _ _ _ (R1.out.below O2.out.below)).mono ?_
              rintro e w' ⟨rfl, rfl⟩
              have hp2 := P1.out
              go_wp2_with fail
              refine (awake_any _).mono ?_
              rintro e w' ⟨rfl, hb⟩
              go_wp2_with fail
              go_ret
              exact ⟨rfl, O2.out.below.trans (hb.mono O2.out.below.size)⟩
          · have hp1 := flips_pure xs f D k b1 D0 D1 hk hfk
            have P1 := Lib.hid hp1
            clear hp1
            go_wp2_with fail
            refine (sum_any _ _ _ O2.out.bs).mono ?_
            rintro e w' ⟨rfl, rfl⟩
            go_wp2_with fail
            refine (sum_any _ _ _ (R1.out.below O2.out.below)).mono ?_
            rintro e w' ⟨rfl, rfl⟩
            have hp2 := P1.out
            go_wp2_with fail
            refine (awake_any _).mono ?_
            rintro e w' ⟨rfl, hb⟩
            go_wp2_with fail
            go_ret
            exact ⟨rfl, O2.out.below.trans (hb.mono O2.out.below.size)⟩
  · go_enter Try.func5, Try.ntmps5
    go_wp2
    go_ret
    exact ⟨rfl, Below.refl _ _⟩
theorem CrcFlips_int (v1 : Value) (xs : List Int) (a D : Int) (w : World) (h1 : Bs w v1 xs) (b1 : Bytes xs) (ha : (Lit.int .u16 a).wf = true) (hD : (Lit.int .u32 D).wf = true) :
    Calls Try.prog 5 #[v1, .int .u16 a, .int .u32 D] w fun e w' => e = .returned (.bool true) ∧ Below w.heap.size w w' := by
  simp [Lit.wf, IntKind.min, IntKind.max, IntKind.bits, IntKind.signed] at ha hD
  obtain ⟨n, rfl⟩ := Int.eq_ofNat_of_zero_le ha.1
  exact CrcFlips_any v1 xs n D w h1 b1 (by omega) hD.1 (by omega)
end Go.Proofs.Ytokempdkfpbpmaa.Crc
