/- The walk of the law CrcNoughts. -/
import Derived.Test.YtokempdkfpbpmaaCrcLaws
import Derived.Test.YtokempdkfpbpmaaWLast
namespace Go.Proofs.Ytokempdkfpbpmaa.Crc
open Go.RowKit Go.Proofs.YtokempdkfpbpmaaW.PrintWords Go.Proofs.YtokempdkfpbpmaaW.PrintLast Go.Proofs.Ytokempdkfpbpmaa.Base
set_option linter.unusedVariables false
set_option linter.unusedSimpArgs false

theorem bytes_noughts (n : Nat) : Bytes (List.replicate n 0) := fun x hx => by rw [(List.mem_replicate.1 hx).2]; decide
theorem lows_zero (k : Nat) : lows 0#32 k = List.replicate k false := by
  unfold lows
  apply List.ext_getElem
  · simp
  · intro i h1 h2; simp
theorem feed_false (r : BitVec 32) : feed r false = stepB r := by unfold feed stepB; rw [Bool.xor_false]
theorem feeds_false (k : Nat) : ∀ r, (List.replicate k false).foldl feed r = stepsB k r := by
  induction k with
  | zero => intro r; rfl
  | succ k ih => intro r; rw [List.replicate_succ, List.foldl_cons, feed_false, ih]; rfl
theorem stepsB_add (k j : Nat) : ∀ r, stepsB (k + j) r = stepsB j (stepsB k r) := by
  induction k with
  | zero => intro r; rw [Nat.zero_add]; rfl
  | succ k ih => intro r; rw [Nat.succ_add]; exact ih _
theorem bits_noughts (n : Nat) : ∀ r, (bitsOf (List.replicate n 0)).foldl feed r = stepsB (8 * n) r := by
  induction n with
  | zero => intro r; rfl
  | succ n ih =>
    intro r
    unfold bitsOf at ih ⊢
    rw [List.replicate_succ, List.flatMap_cons, List.foldl_append, ih]
    have e : BitVec.ofInt 32 0 = 0#32 := by decide
    rw [e, lows_zero, feeds_false, Nat.mul_succ, Nat.add_comm, stepsB_add]
theorem stepB_inj0 (x : BitVec 32) (h : stepB x = 0#32) : x = 0#32 := by
  unfold stepB at h
  have t : (x >>> 1 ^^^ msk (x.getLsbD 0)).getLsbD 31 = false := by rw [h]; rfl
  rw [BitVec.getLsbD_xor] at t
  have t1 : (x >>> 1).getLsbD 31 = false := by simp
  rw [t1, Bool.false_xor] at t
  have t0 : x.getLsbD 0 = false := by
    cases e : x.getLsbD 0 with
    | false => rfl
    | true => rw [e] at t; exact absurd t (by decide)
  rw [t0] at h
  have h2 : x >>> 1 = 0#32 := by simpa [msk] using h
  apply BitVec.eq_of_getLsbD_eq
  intro i hi
  rw [BitVec.getLsbD_zero]
  rcases Nat.eq_zero_or_pos i with rfl | hp
  · exact t0
  · have : (x >>> 1).getLsbD (i - 1) = false := by rw [h2]; simp
    rw [BitVec.getLsbD_ushiftRight] at this
    have e : 1 + (i - 1) = i := by omega
    rwa [e] at this
theorem stepB_inj (x y : BitVec 32) (h : stepB x = stepB y) : x = y := by
  have := stepB_inj0 (x ^^^ y) (by rw [stepB_xor, h, BitVec.xor_self])
  have e : x ^^^ y ^^^ y = 0#32 ^^^ y := by rw [this]
  rwa [BitVec.xor_assoc, BitVec.xor_self, BitVec.xor_zero, BitVec.zero_xor] at e
theorem stepsB_inj (k : Nat) : ∀ x y, stepsB k x = stepsB k y → x = y := by
  induction k with
  | zero => intro x y h; exact h
  | succ k ih => intro x y h; exact stepB_inj x y (ih _ _ h)
def never : Nat → BitVec 32 → Bool
  | 0, _ => true
  | k + 1, r => (stepsB 8 r != F) && never k (stepsB 8 r)
theorem never_told (k : Nat) : ∀ r, never k r = true → ∀ d, 0 < d → d ≤ k → stepsB (8 * d) r ≠ F := by
  induction k with
  | zero => intro r _ d h1 h2; omega
  | succ k ih =>
    intro r h d h1 h2
    unfold never at h
    rw [Bool.and_eq_true] at h
    obtain ⟨d, rfl⟩ : ∃ e, d = e + 1 := ⟨d - 1, by omega⟩
    rw [Nat.mul_succ, Nat.add_comm, stepsB_add]
    rcases Nat.eq_zero_or_pos d with rfl | hp
    · exact bne_iff_ne.1 h.1
    · exact ih _ h.2 d hp (by omega)
set_option maxRecDepth 100000 in
theorem never_all : never 999 F = true := by decide +kernel
theorem noughts_lt (n m : Nat) (hn : n < m) (hm : m < 1000) : stepsB (8 * n) F ≠ stepsB (8 * m) F := by
  intro h
  obtain ⟨d, rfl⟩ : ∃ d, m = n + d := ⟨m - n, by omega⟩
  rw [Nat.mul_add, Nat.add_comm, stepsB_add] at h
  exact never_told 999 F never_all d (by omega) (by omega) (stepsB_inj _ _ _ h).symm
theorem sum_noughts (n : Nat) : sumOf (List.replicate n 0) = U (F ^^^ stepsB (8 * n) F) := by rw [sum_U _ (bytes_noughts n), bits_noughts]
theorem noughts_pure (n m : Nat) (hn : n < 1000) (hm : m < 1000) : (sumOf (List.replicate n 0) == sumOf (List.replicate m 0)) = ((n : Int) == (m : Int)) := by
  by_cases e : n = m
  · subst e; simp
  · have e' : ¬ (n : Int) = (m : Int) := by omega
    rw [beq_eq_false_iff_ne.2 e']
    apply beq_eq_false_iff_ne.2
    rw [sum_noughts, sum_noughts]
    intro h
    have h2 := U_inj h
    have h3 : F ^^^ (F ^^^ stepsB (8 * n) F) = F ^^^ (F ^^^ stepsB (8 * m) F) := by rw [h2]
    rw [← BitVec.xor_assoc, ← BitVec.xor_assoc, BitVec.xor_self, BitVec.zero_xor, BitVec.zero_xor] at h3
    rcases Nat.lt_or_ge n m with hl | hl
    · exact noughts_lt n m hl hm h3
    · exact noughts_lt m n (by omega) hn h3.symm

theorem made_a (W : World) (n : Nat) (hn : n < 1000) : Bs (W.alloc (.cells (madeCells #[.int .u8 0] n) 5)) (.slice (some ⟨W.heap.size, 0, none⟩) n n) (List.replicate n 0) :=
  (Ow.made (Below.refl _ _) n (by omega)).bs
theorem made_b (W : World) (o : Obj) (n : Nat) (hn : n < 1000) : Bs ((W.alloc o).alloc (.cells (madeCells #[.int .u8 0] n) 5)) (.slice (some ⟨W.heap.size + 1, 0, none⟩) n n) (List.replicate n 0) := by
  simpa using made_a (W.alloc o) n hn
theorem made_c (W : World) (o : Obj) (n : Nat) (hn : n < 1000) : Bs ((W.alloc (.cells (madeCells #[.int .u8 0] n) 5)).alloc o) (.slice (some ⟨W.heap.size, 0, none⟩) n n) (List.replicate n 0) :=
  (made_a W n hn).alloc o

set_option maxHeartbeats 1600000 in
theorem CrcNoughts_any (a b : Nat) (w : World) (ha : a < 65536) (hb : b < 65536) :
    Calls Try.prog 7 #[.int .u16 a, .int .u16 b] w fun e w' => e = .returned (.bool true) ∧ Below w.heap.size w w' := by
  have en : (a : Int) % 1000 = ((a % 1000 : Nat) : Int) := by omega
  have em : (b : Int) % 1000 = ((b % 1000 : Nat) : Int) := by omega
  have hn : a % 1000 < 1000 := Nat.mod_lt _ (by decide)
  have hm : b % 1000 < 1000 := Nat.mod_lt _ (by decide)
  have EN := Lib.hid en
  have EM := Lib.hid em
  clear en em
  go_enter Try.func7, Try.ntmps7
  go_wp2
  rw [EN.out, EM.out]
  clear EN EM
  generalize a % 1000 = n at *
  generalize b % 1000 = m at *
  have P1 := noughts_pure n m hn hm
  have k1 := print_make (P := Try.prog) 22 5 .u8 1 Try.underlying22 info_u8 (by decide) n (by omega)
  have k2 := print_make (P := Try.prog) 22 5 .u8 1 Try.underlying22 info_u8 (by decide) m (by omega)
  have A1 := Lib.hid (show Bs (w.alloc (.cells (madeCells #[.int .u8 0] n) 5)).drew (.slice (some ⟨w.heap.size, 0, none⟩) n n) (List.replicate n 0) from made_a w.drew n hn)
  have B1 := Lib.hid (show Bs ((w.alloc (.cells (madeCells #[.int .u8 0] n) 5)).alloc (.cells (madeCells #[.int .u8 0] m) 5)).drew (.slice (some ⟨w.heap.size + 1, 0, none⟩) m m) (List.replicate m 0) from made_b w.drew _ m hm)
  have C1 := Lib.hid (show Bs ((w.alloc (.cells (madeCells #[.int .u8 0] n) 5)).alloc (.cells (madeCells #[.int .u8 0] m) 5)).drew (.slice (some ⟨w.heap.size, 0, none⟩) n n) (List.replicate n 0) from made_c w.drew _ n hn)
  have B2 := Lib.hid (show Bs ((w.alloc (.cells (madeCells #[.int .u8 0] m) 5)).alloc (.cells (madeCells #[.int .u8 0] n) 5)).drew (.slice (some ⟨w.heap.size + 1, 0, none⟩) n n) (List.replicate n 0) from made_b w.drew _ n hn)
  have C2 := Lib.hid (show Bs ((w.alloc (.cells (madeCells #[.int .u8 0] m) 5)).alloc (.cells (madeCells #[.int .u8 0] n) 5)).drew (.slice (some ⟨w.heap.size, 0, none⟩) m m) (List.replicate m 0) from made_c w.drew _ m hm)
  have P2 : (((n : Int) == (m : Int)) == ((n : Int) == (m : Int))) = true := by simp
  --BEGIN REGION
  refine start_ (n := 15) (S := fun w' => Below w.heap.size w w') (ds := []) #[false, false, false, false, false, false, false, false, false, false, false, false, false, false, false] (by kernel_rfl) rfl rfl (Below.drew (Below.refl _ _)) (fun hHeld => ?_)
  refine pure_ (i := 0) (N := some 13) (v := ?_) (a' := ?_) #[true, false, false, false, false, false, false, false, false, false, false, false, false, false, false] rfl rfl (by kernel_rfl) (fun _ _ _ h => h) (Or.inl ⟨by rfl, ?_⟩) ?_ ?_
  rotate_left
  · intro w'
    go_simp
    with_reducible rfl
  rotate_left
  · simp only [Act.put, List.setIfInBounds_toArray, List.set_cons_zero, List.set_cons_succ, i64_w, i32_w]
    rfl
  refine pure_ (i := 3) (N := some 16) (v := ?_) (a' := ?_) #[true, false, false, true, false, false, false, false, false, false, false, false, false, false, false] rfl rfl (by kernel_rfl) (fun _ _ _ h => h) (Or.inl ⟨by rfl, ?_⟩) ?_ ?_
  rotate_left
  · intro w'
    go_simp
    with_reducible rfl
  rotate_left
  · simp only [Act.put, List.setIfInBounds_toArray, List.set_cons_zero, List.set_cons_succ, i64_w, i32_w]
    rfl
  refine pure_ (i := 7) (N := some 20) (v := ?_) (a' := ?_) #[true, false, false, true, false, false, false, true, false, false, false, false, false, false, false] rfl rfl (by kernel_rfl) (fun _ _ _ h => h) (Or.inl ⟨by rfl, ?_⟩) ?_ ?_
  rotate_left
  · intro w'
    go_simp
    with_reducible rfl
  rotate_left
  · simp only [Act.put, List.setIfInBounds_toArray, List.set_cons_zero, List.set_cons_succ, i64_w, i32_w]
    rfl
  refine pure_ (i := 8) (N := some 21) (v := ?_) (a' := ?_) #[true, false, false, true, false, false, false, true, true, false, false, false, false, false, false] rfl rfl (by kernel_rfl) (fun _ _ _ h => h) (Or.inl ⟨by rfl, ?_⟩) ?_ ?_
  rotate_left
  · intro w'
    go_simp
    with_reducible rfl
  rotate_left
  · simp only [Act.put, List.setIfInBounds_toArray, List.set_cons_zero, List.set_cons_succ, i64_w, i32_w]
    rfl
  refine pure_ (i := 9) (N := some 22) (v := ?_) (a' := ?_) #[true, false, false, true, false, false, false, true, true, true, false, false, false, false, false] rfl rfl (by kernel_rfl) (fun _ _ _ h => h) (Or.inl ⟨by rfl, ?_⟩) ?_ ?_
  rotate_left
  · intro w'
    go_simp
    with_reducible rfl
  rotate_left
  · simp only [Act.put, List.setIfInBounds_toArray, List.set_cons_zero, List.set_cons_succ, i64_w, i32_w]
    rfl
  refine join_ (σ := Value × Value) 7 #[true, true, true, true, true, false, false, true, true, true, false, false, false, false, false] (fun s => [(14, s.1), (15, .int .u32 (sumOf (List.replicate n 0))), (17, s.2)]) (fun s w' => Below w.heap.size w w' ∧ Bs w' s.2 (List.replicate m 0)) ?_ ?_
  rotate_left
  · intro hCont
    refine two_ (i := 1) (j := 4) (Ni := some 14) (Nj := some 17) #[true, true, false, true, false, false, false, true, true, true, false, false, false, false, false] #[true, false, false, true, true, false, false, true, true, true, false, false, false, false, false] rfl rfl rfl rfl (by kernel_rfl) (by decide) (by decide) (fun K hK => ?_) (fun K hK => ?_)
    · skip
      refine value_ (w1 := ?_) (v := ?_) (by rfl) rfl ?_ ?_
      rotate_left 2
      · go_simp
        constructor
        · rfl
        · rfl
      refine hK.out _ _ (hHeld.alloc (by simp) _) (fun hHeld => ?_)
      clear hK K
      refine norm_ (a' := ?_) ?_ ?_
      rotate_left
      · show Act.put _ (some 14) _ = _
        simp only [Act.put, List.setIfInBounds_toArray, List.set_cons_zero, List.set_cons_succ, i64_w, i32_w]
        rfl
      refine two_ (i := 2) (j := 4) (Ni := some 15) (Nj := some 17) #[true, true, true, true, false, false, false, true, true, true, false, false, false, false, false] #[true, true, false, true, true, false, false, true, true, true, false, false, false, false, false] rfl rfl rfl rfl (by kernel_rfl) (by decide) (by decide) (fun K hK => ?_) (fun K hK => ?_)
      · skip
        refine goes_ Try.func15 (by kernel_rfl) rfl #[.slice (some ⟨w.heap.size, 0, none⟩) n n] (by rfl) rfl rfl (by first | (simp only [List.map_toArray, List.map_cons, List.map_nil]; done) | (simp only [List.map_toArray, List.map_cons, List.map_nil]; rfl) | rfl) ?_
        with_reducible refine (sum_any _ _ _ A1.out).mono ?_
        rintro e w3 ⟨rfl, rfl⟩
        refine ⟨_, rfl, ?_⟩
        refine hK.out _ _ (hHeld) (fun hHeld => ?_)
        clear hK K
        refine norm_ (a' := ?_) ?_ ?_
        rotate_left
        · show Act.put _ (some 15) _ = _
          simp only [Act.put, List.setIfInBounds_toArray, List.set_cons_zero, List.set_cons_succ, i64_w, i32_w]
          rfl
        refine one_ (i := 4) (N := some 17) #[true, true, true, true, true, false, false, true, true, true, false, false, false, false, false] rfl rfl (by kernel_rfl) (by decide) (fun K hK => ?_)
        refine value_ (w1 := ?_) (v := ?_) (by rfl) rfl ?_ ?_
        rotate_left 2
        · go_simp
          constructor
          · rfl
          · rfl
        refine hK.out _ _ (hHeld.alloc (by simp) _) (fun hHeld => ?_)
        clear hK K
        refine norm_ (a' := ?_) ?_ ?_
        rotate_left
        · show Act.put _ (some 17) _ = _
          simp only [Act.put, List.setIfInBounds_toArray, List.set_cons_zero, List.set_cons_succ, i64_w, i32_w]
          rfl
        exact norm_ (by simp only [putAll, Act.put, List.setIfInBounds_toArray, List.set_cons_zero, List.set_cons_succ]) (hCont (.slice (some ⟨w.heap.size, 0, none⟩) n n, .slice (some ⟨w.heap.size + 1, 0, none⟩) m m) _ ⟨hHeld, B1.out⟩)
      · skip
        refine value_ (w1 := ?_) (v := ?_) (by rfl) rfl ?_ ?_
        rotate_left 2
        · go_simp
          constructor
          · rfl
          · rfl
        refine hK.out _ _ (hHeld.alloc (by simp) _) (fun hHeld => ?_)
        clear hK K
        refine norm_ (a' := ?_) ?_ ?_
        rotate_left
        · show Act.put _ (some 17) _ = _
          simp only [Act.put, List.setIfInBounds_toArray, List.set_cons_zero, List.set_cons_succ, i64_w, i32_w]
          rfl
        refine one_ (i := 2) (N := some 15) #[true, true, true, true, true, false, false, true, true, true, false, false, false, false, false] rfl rfl (by kernel_rfl) (by decide) (fun K hK => ?_)
        refine goes_ Try.func15 (by kernel_rfl) rfl #[.slice (some ⟨w.heap.size, 0, none⟩) n n] (by rfl) rfl rfl (by first | (simp only [List.map_toArray, List.map_cons, List.map_nil]; done) | (simp only [List.map_toArray, List.map_cons, List.map_nil]; rfl) | rfl) ?_
        with_reducible refine (sum_any _ _ _ C1.out).mono ?_
        rintro e w3 ⟨rfl, rfl⟩
        refine ⟨_, rfl, ?_⟩
        refine hK.out _ _ (hHeld) (fun hHeld => ?_)
        clear hK K
        refine norm_ (a' := ?_) ?_ ?_
        rotate_left
        · show Act.put _ (some 15) _ = _
          simp only [Act.put, List.setIfInBounds_toArray, List.set_cons_zero, List.set_cons_succ, i64_w, i32_w]
          rfl
        exact norm_ (by simp only [putAll, Act.put, List.setIfInBounds_toArray, List.set_cons_zero, List.set_cons_succ]) (hCont (.slice (some ⟨w.heap.size, 0, none⟩) n n, .slice (some ⟨w.heap.size + 1, 0, none⟩) m m) _ ⟨hHeld, B1.out⟩)
    · skip
      refine value_ (w1 := ?_) (v := ?_) (by rfl) rfl ?_ ?_
      rotate_left 2
      · go_simp
        constructor
        · rfl
        · rfl
      refine hK.out _ _ (hHeld.alloc (by simp) _) (fun hHeld => ?_)
      clear hK K
      refine norm_ (a' := ?_) ?_ ?_
      rotate_left
      · show Act.put _ (some 17) _ = _
        simp only [Act.put, List.setIfInBounds_toArray, List.set_cons_zero, List.set_cons_succ, i64_w, i32_w]
        rfl
      refine one_ (i := 1) (N := some 14) #[true, true, false, true, true, false, false, true, true, true, false, false, false, false, false] rfl rfl (by kernel_rfl) (by decide) (fun K hK => ?_)
      refine value_ (w1 := ?_) (v := ?_) (by rfl) rfl ?_ ?_
      rotate_left 2
      · go_simp
        constructor
        · rfl
        · rfl
      refine hK.out _ _ (hHeld.alloc (by simp) _) (fun hHeld => ?_)
      clear hK K
      refine norm_ (a' := ?_) ?_ ?_
      rotate_left
      · show Act.put _ (some 14) _ = _
        simp only [Act.put, List.setIfInBounds_toArray, List.set_cons_zero, List.set_cons_succ, i64_w, i32_w]
        rfl
      refine one_ (i := 2) (N := some 15) #[true, true, true, true, true, false, false, true, true, true, false, false, false, false, false] rfl rfl (by kernel_rfl) (by decide) (fun K hK => ?_)
      refine goes_ Try.func15 (by kernel_rfl) rfl #[.slice (some ⟨w.heap.size + 1, 0, none⟩) n n] (by rfl) rfl rfl (by first | (simp only [List.map_toArray, List.map_cons, List.map_nil]; done) | (simp only [List.map_toArray, List.map_cons, List.map_nil]; rfl) | rfl) ?_
      with_reducible refine (sum_any _ _ _ B2.out).mono ?_
      rintro e w3 ⟨rfl, rfl⟩
      refine ⟨_, rfl, ?_⟩
      refine hK.out _ _ (hHeld) (fun hHeld => ?_)
      clear hK K
      refine norm_ (a' := ?_) ?_ ?_
      rotate_left
      · show Act.put _ (some 15) _ = _
        simp only [Act.put, List.setIfInBounds_toArray, List.set_cons_zero, List.set_cons_succ, i64_w, i32_w]
        rfl
      exact norm_ (by simp only [putAll, Act.put, List.setIfInBounds_toArray, List.set_cons_zero, List.set_cons_succ]) (hCont (.slice (some ⟨w.heap.size + 1, 0, none⟩) n n, .slice (some ⟨w.heap.size, 0, none⟩) m m) _ ⟨hHeld, C2.out⟩)
  rintro ⟨sv1, sv2⟩ w' ⟨hF, hF2⟩
  have hHeld : Below w.heap.size w w' := hF
  have HF2 : Hid (Bs w' sv2 (List.replicate m 0)) := hF2
  clear hF hF2
  refine norm_ (a' := ?_) ?_ ?_
  rotate_left
  · simp only [putAll, Act.put, List.setIfInBounds_toArray, List.set_cons_zero, List.set_cons_succ]
    rfl
  refine one_ (i := 5) (N := some 18) #[true, true, true, true, true, true, false, true, true, true, false, false, false, false, false] rfl rfl (by kernel_rfl) (by decide) (fun K hK => ?_)
  refine goes_ Try.func15 (by kernel_rfl) rfl #[sv2] (by rfl) rfl rfl (by first | (simp only [List.map_toArray, List.map_cons, List.map_nil]; done) | (simp only [List.map_toArray, List.map_cons, List.map_nil]; rfl) | rfl) ?_
  with_reducible refine (sum_any _ _ _ HF2.out).mono ?_
  rintro e w3 ⟨rfl, rfl⟩
  refine ⟨_, rfl, ?_⟩
  refine hK.out _ _ (hHeld) (fun hHeld => ?_)
  clear hK K
  refine norm_ (a' := ?_) ?_ ?_
  rotate_left
  · show Act.put _ (some 18) _ = _
    simp only [Act.put, List.setIfInBounds_toArray, List.set_cons_zero, List.set_cons_succ, i64_w, i32_w]
    rfl
  refine pure_ (i := 6) (N := some 19) (v := ?_) (a' := ?_) #[true, true, true, true, true, true, true, true, true, true, false, false, false, false, false] rfl rfl (by kernel_rfl) (fun _ _ _ h => h) (Or.inl ⟨by rfl, ?_⟩) ?_ ?_
  rotate_left
  · intro w'
    go_simp
    with_reducible rfl
  rotate_left
  · simp only [Act.put, List.setIfInBounds_toArray, List.set_cons_zero, List.set_cons_succ, i64_w, i32_w]
    rfl
  refine pure_ (i := 10) (N := some 23) (v := ?_) (a' := ?_) #[true, true, true, true, true, true, true, true, true, true, true, false, false, false, false] rfl rfl (by kernel_rfl) (fun _ _ _ h => h) (Or.inl ⟨by rfl, ?_⟩) ?_ ?_
  rotate_left
  · intro w'
    go_simp
    with_reducible rfl
  rotate_left
  · simp only [Act.put, List.setIfInBounds_toArray, List.set_cons_zero, List.set_cons_succ, i64_w, i32_w]
    rfl
  refine pure_ (i := 11) (N := some 24) (v := ?_) (a' := ?_) #[true, true, true, true, true, true, true, true, true, true, true, true, false, false, false] rfl rfl (by kernel_rfl) (fun _ _ _ h => h) (Or.inl ⟨by rfl, ?_⟩) ?_ ?_
  rotate_left
  · intro w'
    go_simp
    with_reducible rfl
  rotate_left
  · simp only [Act.put, List.setIfInBounds_toArray, List.set_cons_zero, List.set_cons_succ, i64_w, i32_w]
    rfl
  refine one_ (i := 12) (N := some 25) #[true, true, true, true, true, true, true, true, true, true, true, true, true, false, false] rfl rfl (by kernel_rfl) (by decide) (fun K hK => ?_)
  refine goes_ Try.func19 (by kernel_rfl) rfl #[] (by rfl) rfl rfl (by first | (simp only [List.map_toArray, List.map_cons, List.map_nil]; done) | (simp only [List.map_toArray, List.map_cons, List.map_nil]; rfl) | rfl) ?_
  with_reducible refine (awake_any _).mono ?_
  rintro e w3 ⟨rfl, hb3⟩
  refine ⟨_, rfl, ?_⟩
  refine hK.out _ _ (hHeld.trans (hb3.mono hHeld.size)) (fun hHeld => ?_)
  clear hK K
  refine norm_ (a' := ?_) ?_ ?_
  rotate_left
  · show Act.put _ (some 25) _ = _
    simp only [Act.put, List.setIfInBounds_toArray, List.set_cons_zero, List.set_cons_succ, i64_w, i32_w]
    rfl
  refine pure_ (i := 13) (N := some 26) (v := ?_) (a' := ?_) #[true, true, true, true, true, true, true, true, true, true, true, true, true, true, false] rfl rfl (by kernel_rfl) (fun _ _ _ h => h) (Or.inl ⟨by rfl, ?_⟩) ?_ ?_
  rotate_left
  · intro w'
    go_simp
    with_reducible rfl
  rotate_left
  · simp only [Act.put, List.setIfInBounds_toArray, List.set_cons_zero, List.set_cons_succ, i64_w, i32_w]
    rfl
  refine pure_ (i := 14) (N := some 4) (v := ?_) (a' := ?_) #[true, true, true, true, true, true, true, true, true, true, true, true, true, true, true] rfl rfl (by kernel_rfl) (fun _ _ _ h => h) (Or.inl ⟨by rfl, ?_⟩) ?_ ?_
  rotate_left
  · intro w'
    go_simp
    with_reducible rfl
  rotate_left
  · simp only [Act.put, List.setIfInBounds_toArray, List.set_cons_zero, List.set_cons_succ, i64_w, i32_w]
    rfl
  refine done_ (by kernel_rfl) ?_
  --END REGION
  go_wp2
  go_ret
  exact ⟨rfl, hHeld⟩
theorem CrcNoughts_int (a b : Int) (w : World) (ha : (Lit.int .u16 a).wf = true) (hb : (Lit.int .u16 b).wf = true) :
    Calls Try.prog 7 #[.int .u16 a, .int .u16 b] w fun e w' => e = .returned (.bool true) ∧ Below w.heap.size w w' := by
  simp [Lit.wf, IntKind.min, IntKind.max, IntKind.bits, IntKind.signed] at ha hb
  obtain ⟨n, rfl⟩ := Int.eq_ofNat_of_zero_le ha.1
  obtain ⟨m, rfl⟩ := Int.eq_ofNat_of_zero_le hb.1
  exact CrcNoughts_any n m w (by omega) (by omega)
end Go.Proofs.Ytokempdkfpbpmaa.Crc
