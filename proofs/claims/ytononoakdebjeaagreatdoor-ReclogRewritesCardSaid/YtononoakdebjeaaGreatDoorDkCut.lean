/- disk.Cut (walks). -/
import Derived.Test.YtononoakdebjeaaGreatDoorDkDeedsAll
namespace Go.Proofs.YtononoakdebjeaaGreatDoor.Dk
open Go.RowKit Go.Proofs.YtononoakdebjeaaGreatDoorW.PrintWords Go.Proofs.YtononoakdebjeaaGreatDoorW.PrintLast Go.Proofs.YtononoakdebjeaaGreatDoor.Base Go.Proofs.YtononoakdebjeaaGreatDoor.Path Go.Maps
set_option linter.unusedVariables false
set_option linter.unusedSimpArgs false
/-- v[:n:n] -/
theorem slice_cut (A : Option Addr) (m c n : Nat) (hn : n ≤ c) (W : World) : (Instr.slice 23 (.slice A m c) none (some (.int .i64 (n : Int))) (some (.int .i64 (n : Int)))).run Tryz.prog W = .ok (.slice A n n) W := by
  obtain ⟨i0, hi, hz⟩ := Option.map_eq_some_iff.1 info_u8
  simp only [Prod.mk.injEq] at hz
  have hel : Tryz.prog.elem 23 = 5 := by simp [Program.elem, Tryz.underlying23]
  have hu : Tryz.prog.underlying 23 = some (.slice (Tryz.prog.elem 23)) := by rw [hel]; exact Tryz.underlying23
  rw [run_slice_hm W 23 A m c hu .i64 .i64 (n : Int) (n : Int) (by omega) (by omega) (by omega), hel]
  simp [sizeOf, typeInfo, hi, hz.2.1, sliced, Result.andThen]
  intro _
  cases A with
  | none => rfl
  | some a => rfl
theorem dat_cut {S : Nat → Prop} {w : World} {A : Option Addr} {m c n : Nat} {xs : List Int} (h : Dat S w (.slice A m c) xs) (hm : m = xs.length) (hn : n ≤ m) : Dat S w (.slice A n n) (xs.take n) := by
  have hl : (xs.take n).length = n := by rw [List.length_take]; omega
  have key : ∀ k cs, A = some ⟨k, 0, none⟩ → S k → w.heap[k]? = some (.cells cs 5 (0, 0)) → cs.toList.take m = nums .u8 xs → xs.length ≤ 9223372036854775807 → Dat S w (.slice A n n) (xs.take n) := fun k cs hA hk hc ht hx => by
    subst hA
    refine .inr ⟨k, cs, by rw [hl], hk, hc, ?_, by rw [hl]; omega⟩
    rw [hl]
    have h1 := congrArg (List.take n) ht
    rw [List.take_take, Nat.min_eq_left hn] at h1
    rw [h1]
    simp [nums, List.map_take]
  rcases h with h | ⟨k, cs, e, hs, hk, ht, hx⟩
  · have ho := Kd.own_of_R h
    rcases ho.2 with ⟨e, h0⟩ | ⟨g, cap, cur, e, _, hg, hc, hmx, _, ht⟩
    · have hn0 : n = 0 := by omega
      subst hn0
      injection e with e1 e2 e3
      subst e1
      rw [List.take_zero]
      exact .inl (Kd.R_nil _ _ _ _ _)
    · injection e with e1 e2 e3
      refine key g cur e1 (h.1 g (by rw [e1]; rfl)) hg ?_ (by have : xs.length ≤ cap := hc; simp only [maxLen] at hmx; omega)
      rw [Nat.mul_one] at ht
      rw [hm]
      exact ht
  · injection e with e1 e2 e3
    exact key k cs e1 hs hk (by rw [hm]; exact ht) hx
theorem tick_keep {g k : Nat} {w w' : World} {o : Obj} (hk : ∀ k, k ≠ g → w'.heap[k]? = w.heap[k]?) (h : w.heap[k]? = some o) (hn : k ≠ g) : w'.heap[k]? = some o := (hk k hn).trans h
theorem cell_far {w : World} {q : Addr} {u : Value} (h : w.cell? q = some u) {p : Addr} (hp : q.block ≠ p.block) (v : Value) : (w.setCell p v).cell? q = some u := by
  have e := Below.heap_setCell w p v q.block hp
  unfold World.cell? at h ⊢
  rw [e]
  exact h
--BEGIN CUT1
set_option maxRecDepth 100000 in
set_option maxHeartbeats 4000000 in
theorem cut1_any (S : Nat → Prop) (c g i x : Nat) (D : DiskV) (n : Int) (w : World) (h : Dk S (c + 1) w g D) (hi : Has D i) (hn : -9223372036854775808 ≤ n ∧ n ≤ 9223372036854775807) (hc : c ≤ 40000000)
    (h0 : w.heap[x]? = some (.cells #[.pointer (some ⟨g, 0, none⟩)] 28 (0, 0))) (h1 : w.heap[x + 1]? = some (.cells #[.int .i64 n] 3 (0, 0))) :
    FileC S c g D 71 #[fptr i, .pointer (some ⟨x + 1, 0, none⟩), .pointer (some ⟨x, 0, none⟩)] (CutR n i) w := by
  obtain ⟨dv, hf⟩ := h.fl
  obtain ⟨i1, i2, i3⟩ := hf.1 i hi
  obtain ⟨A, cp, hd, hcp, hm⟩ := i3.bs.len
  obtain ⟨m, hme⟩ : ∃ m, m = (D.fs i).b.length := ⟨_, rfl⟩
  rw [← hme] at hd hcp hm
  obtain ⟨sr, hsr⟩ : ∃ sr, sr = (D.fs i).sure := ⟨_, rfl⟩
  obtain ⟨tm, htm⟩ : ∃ tm, tm = (D.fs i).time := ⟨_, rfl⟩
  have HD := Lib.hid hd
  rw [hd, ← hsr, ← htm] at i2
  have I2 := Lib.hid i2
  have c0 := Lib.hid (blk_cell i2 0)
  have c1 := Lib.hid (blk_cell i2 1)
  have hig : i ≠ g := fun e => by
    obtain ⟨mf, ms, vp, q1, _⟩ := h.ex
    rw [e, q1] at i2
    injection i2 with i2
    injection i2 with _ i2 _
    revert i2
    decide
  have hxg : x ≠ g ∧ x + 1 ≠ g := by
    obtain ⟨mf, ms, vp, q1, _⟩ := h.ex
    refine ⟨fun e => ?_, fun e => ?_⟩
    · rw [e, q1] at h0
      injection h0 with h0
      injection h0 with _ h0 _
      revert h0
      decide
    · rw [e, q1] at h1
      injection h1 with h1
      injection h1 with _ h1 _
      revert h1
      decide
  have HIG := Lib.hid hig
  have HXG := Lib.hid hxg
  have HXI : Hid (x ≠ i ∧ x + 1 ≠ i) := by
    refine ⟨fun e => ?_, fun e => ?_⟩
    · rw [e, i2] at h0
      injection h0 with h0
      injection h0 with _ h0 _
      revert h0
      decide
    · rw [e, i2] at h1
      injection h1 with h1
      injection h1 with _ h1 _
      revert h1
      decide
  have H := Lib.hid h
  have HF := Lib.hid hf
  have HI := Lib.hid hi
  have HM := Lib.hid hme
  have HSR := Lib.hid hsr
  have HSL : Hid (sr ≤ m) := by show _ ≤ _; rw [hsr, hme]; exact (h.ok.file i hi).2.1
  have q0 := blk_cell h0 0
  have q1 := blk_cell h1 0
  have H0 := Lib.hid h0
  have H1 := Lib.hid h1
  clear h hf hi i1 i3 hd hme hsr htm h0 h1 i2 hig hxg
  unfold FileC
  by_cases d1 : n < 0
  · have b1 : decide (n < 0) = true := decide_eq_true d1
    have HN : Hid (n < 0) := d1
    clear d1
    go_enter Tryz.func71, Tryz.ntmps71
    go_wp2
    go_quiet (fail)
    go_wp2
    go_ret
    exact ⟨D, 1, rfl, ((H.out.drewN _).mono (fun k hk => .inl hk) (fun k hk => hk.elim (H.out.lt k) (·.2))).more (by omega), .inl ⟨.inl HN.out, rfl, rfl⟩, Foot.drewN (Foot.refl _ _) _⟩
  have b1 : decide (n < 0) = false := decide_eq_false d1
  obtain ⟨k, rfl⟩ : ∃ k : Nat, n = (k : Int) := ⟨n.toNat, by omega⟩
  have C0 := c0.out
  by_cases d2 : m < k
  · have b2 : decide ((m : Int) < (k : Int)) = true := decide_eq_true (by omega)
    have b2' : decide (m < k) = true := decide_eq_true d2
    have HN : Hid (((D.fs i).b.length : Int) < (k : Int)) := by show _ < _; rw [← HM.out]; omega
    clear d1 d2
    go_enter Tryz.func71, Tryz.ntmps71
    go_wp2
    go_quiet (fail)
    go_wp2
    go_ret
    exact ⟨D, 1, rfl, ((H.out.drewN _).mono (fun k hk => .inl hk) (fun k hk => hk.elim (H.out.lt k) (·.2))).more (by omega), .inl ⟨.inr HN.out, rfl, rfl⟩, Foot.drewN (Foot.refl _ _) _⟩
  have b2 : decide ((m : Int) < (k : Int)) = false := decide_eq_false (by omega)
  have b2' : decide (m < k) = false := decide_eq_false d2
  have hkm : k ≤ m := by omega
  have HKM := Lib.hid hkm
  have hsl := slice_cut A m cp k (by omega)
  clear d1 d2
  go_enter Tryz.func71, Tryz.ntmps71
  go_wp2
  go_quiet (fail)
  clear b1 b2 b2' C0 q0 q1
  obtain ⟨W, hW⟩ : ∃ W, W = w.drewN nq := ⟨_, rfl⟩
  rw [← hW]
  have HWD : Hid (Dk S (c + 1) W g D) := by rw [hW]; exact H.out.drewN _
  have HWF : Hid (FilesAt S W D dv) := by rw [hW]; exact HF.out.move (fun _ _ => rfl)
  have W0 := Lib.hid ((show W.heap[i]? = w.heap[i]? from by rw [hW]; rfl).trans I2.out)
  have X0 := Lib.hid ((show W.heap[x]? = w.heap[x]? from by rw [hW]; rfl).trans H0.out)
  have X1 := Lib.hid ((show W.heap[x + 1]? = w.heap[x + 1]? from by rw [hW]; rfl).trans H1.out)
  have HFW : Hid (Foot S w W) := by rw [hW]; exact Foot.drewN (Foot.refl _ _) _
  have HSZ : Hid (W.heap.size = w.heap.size) := by rw [hW]; rfl
  have Z0 := Lib.hid (blk_cell W0.out 0)
  have Z1 := Lib.hid (blk_cell W0.out 1)
  have Z2 := Lib.hid (blk_cell X0.out 0)
  have Z3 := Lib.hid (blk_cell X1.out 0)
  have HWD2 : Hid (Dk S (c + 1) W.drew g D) := HWD.out.move (fun _ _ => rfl)
  clear hW
  go_upto_region 3 with (fail)
  --S1
  refine start_ (n := 27) (S := fun w' => w'.cell? ⟨i, 1, none⟩ = some (.int .i64 (sr : Int)) ∧ w'.cell? ⟨x, 0, none⟩ = some (.pointer (some ⟨g, 0, none⟩)) ∧ w'.cell? ⟨x + 1, 0, none⟩ = some (.int .i64 (k : Int))) (ds := [23, 26]) #[false, false, false, false, false, false, false, false, false, false, false, false, false, false, false, false, false, false, false, false, false, false, false, false, false, false, false] (by kernel_rfl) rfl rfl ⟨Z1.out, Z2.out, Z3.out⟩ (fun hHeld => ?_)
  refine pure_ (i := 0) (N := some 16) (v := ?_) (a' := ?_) #[true, false, false, false, false, false, false, false, false, false, false, false, false, false, false, false, false, false, false, false, false, false, false, false, false, false, false] rfl rfl (by kernel_rfl) (fun _ _ _ h => h) (Or.inl ⟨by rfl, ?_⟩) ?_ ?_
  rotate_left
  · intro w'
    go_simp
    with_reducible rfl
  rotate_left
  · simp only [Act.put, List.setIfInBounds_toArray, List.set_cons_zero, List.set_cons_succ, i64_w, i32_w]
    rfl
  refine pure_ (i := 1) (N := some 17) (v := ?_) (a' := ?_) #[true, true, false, false, false, false, false, false, false, false, false, false, false, false, false, false, false, false, false, false, false, false, false, false, false, false, false] rfl rfl (by kernel_rfl) (fun _ _ _ h => h) (Or.inl ⟨by rfl, ?_⟩) ?_ ?_
  rotate_left
  · intro w'
    go_simp
    with_reducible rfl
  rotate_left
  · simp only [Act.put, List.setIfInBounds_toArray, List.set_cons_zero, List.set_cons_succ, i64_w, i32_w]
    rfl
  refine pure_ (i := 2) (N := some 18) (v := ?_) (a' := ?_) #[true, true, true, false, false, false, false, false, false, false, false, false, false, false, false, false, false, false, false, false, false, false, false, false, false, false, false] rfl rfl (by kernel_rfl) (fun _ _ _ h => h) (Or.inl ⟨by rfl, ?_⟩) ?_ ?_
  rotate_left
  · intro w'
    go_simp
    with_reducible rfl
  rotate_left
  · simp only [Act.put, List.setIfInBounds_toArray, List.set_cons_zero, List.set_cons_succ, i64_w, i32_w]
    rfl
  refine pure_ (i := 3) (N := some 19) (v := ?_) (a' := ?_) #[true, true, true, true, false, false, false, false, false, false, false, false, false, false, false, false, false, false, false, false, false, false, false, false, false, false, false] rfl rfl (by kernel_rfl) (fun _ _ _ h => h) (Or.inl ⟨by rfl, ?_⟩) ?_ ?_
  rotate_left
  · intro w'
    go_simp
    with_reducible rfl
  rotate_left
  · simp only [Act.put, List.setIfInBounds_toArray, List.set_cons_zero, List.set_cons_succ, i64_w, i32_w]
    rfl
  refine pure_ (i := 4) (N := some 20) (v := ?_) (a' := ?_) #[true, true, true, true, true, false, false, false, false, false, false, false, false, false, false, false, false, false, false, false, false, false, false, false, false, false, false] rfl rfl (by kernel_rfl) (fun _ _ _ h => h) (Or.inl ⟨by rfl, ?_⟩) ?_ ?_
  rotate_left
  · intro w'
    go_simp
    with_reducible rfl
  rotate_left
  · simp only [Act.put, List.setIfInBounds_toArray, List.set_cons_zero, List.set_cons_succ, i64_w, i32_w]
    rfl
  refine pure_ (i := 5) (N := some 21) (v := ?_) (a' := ?_) #[true, true, true, true, true, true, false, false, false, false, false, false, false, false, false, false, false, false, false, false, false, false, false, false, false, false, false] rfl rfl (by kernel_rfl) (fun _ _ _ h => h) (Or.inl ⟨by rfl, ?_⟩) ?_ ?_
  rotate_left
  · intro w'
    go_simp
    with_reducible rfl
  rotate_left
  · simp only [Act.put, List.setIfInBounds_toArray, List.set_cons_zero, List.set_cons_succ, i64_w, i32_w]
    rfl
  refine pure_ (i := 10) (N := some 26) (v := ?_) (a' := ?_) #[true, true, true, true, true, true, false, false, false, false, true, false, false, false, false, false, false, false, false, false, false, false, false, false, false, false, false] rfl rfl (by kernel_rfl) (fun _ _ _ h => h) (Or.inl ⟨by rfl, ?_⟩) ?_ ?_
  rotate_left
  · intro w'
    go_simp
    with_reducible rfl
  rotate_left
  · simp only [Act.put, List.setIfInBounds_toArray, List.set_cons_zero, List.set_cons_succ, i64_w, i32_w]
    rfl
  refine pure_ (i := 11) (N := some 27) (v := ?_) (a' := ?_) #[true, true, true, true, true, true, false, false, false, false, true, true, false, false, false, false, false, false, false, false, false, false, false, false, false, false, false] rfl rfl (by kernel_rfl) (fun _ _ _ h => h) (Or.inl ⟨by rfl, ?_⟩) ?_ ?_
  rotate_left
  · intro w'
    go_simp
    with_reducible rfl
  rotate_left
  · simp only [Act.put, List.setIfInBounds_toArray, List.set_cons_zero, List.set_cons_succ, i64_w, i32_w]
    rfl
  refine pure_ (i := 12) (N := some 28) (v := ?_) (a' := ?_) #[true, true, true, true, true, true, false, false, false, false, true, true, true, false, false, false, false, false, false, false, false, false, false, false, false, false, false] rfl rfl (by kernel_rfl) (fun _ _ _ h => h) (Or.inl ⟨by rfl, ?_⟩) ?_ ?_
  rotate_left
  · intro w'
    go_simp
    with_reducible rfl
  rotate_left
  · simp only [Act.put, List.setIfInBounds_toArray, List.set_cons_zero, List.set_cons_succ, i64_w, i32_w]
    rfl
  refine take_ (i := 7) (N := some 23) (v := ?_) (a' := ?_) #[true, true, true, true, true, true, false, true, false, false, true, true, true, false, false, false, false, false, false, false, false, false, false, false, false, false, false] rfl rfl (by kernel_rfl) (fun _ _ _ h => h) (Or.inl ⟨by rfl, ?_⟩) hHeld ?_ ?_
  rotate_left
  · rintro w' ⟨s0, s1, s2⟩
    go_simp
    with_reducible rfl
  rotate_left
  · simp only [Act.put, List.setIfInBounds_toArray, List.set_cons_zero, List.set_cons_succ, i64_w, i32_w]
    rfl
  refine take_ (i := 8) (N := some 24) (v := ?_) (a' := ?_) #[true, true, true, true, true, true, false, true, true, false, true, true, true, false, false, false, false, false, false, false, false, false, false, false, false, false, false] rfl rfl (by kernel_rfl) (fun _ _ _ h => h) (Or.inl ⟨by rfl, ?_⟩) hHeld ?_ ?_
  rotate_left
  · rintro w' ⟨s0, s1, s2⟩
    go_simp
    with_reducible rfl
  rotate_left
  · simp only [Act.put, List.setIfInBounds_toArray, List.set_cons_zero, List.set_cons_succ, i64_w, i32_w]
    rfl
  refine take_ (i := 13) (N := some 29) (v := ?_) (a' := ?_) #[true, true, true, true, true, true, false, true, true, false, true, true, true, true, false, false, false, false, false, false, false, false, false, false, false, false, false] rfl rfl (by kernel_rfl) (fun _ _ _ h => h) (Or.inl ⟨by rfl, ?_⟩) hHeld ?_ ?_
  rotate_left
  · rintro w' ⟨s0, s1, s2⟩
    go_simp
    with_reducible rfl
  rotate_left
  · simp only [Act.put, List.setIfInBounds_toArray, List.set_cons_zero, List.set_cons_succ, i64_w, i32_w]
    rfl
  refine take_ (i := 14) (N := some 30) (v := ?_) (a' := ?_) #[true, true, true, true, true, true, false, true, true, false, true, true, true, true, true, false, false, false, false, false, false, false, false, false, false, false, false] rfl rfl (by kernel_rfl) (fun _ _ _ h => h) (Or.inl ⟨by rfl, ?_⟩) hHeld ?_ ?_
  rotate_left
  · rintro w' ⟨s0, s1, s2⟩
    go_simp
    with_reducible rfl
  rotate_left
  · simp only [Act.put, List.setIfInBounds_toArray, List.set_cons_zero, List.set_cons_succ, i64_w, i32_w]
    rfl
  refine pure_ (i := 15) (N := some 31) (v := ?_) (a' := ?_) #[true, true, true, true, true, true, false, true, true, false, true, true, true, true, true, true, false, false, false, false, false, false, false, false, false, false, false] rfl rfl (by kernel_rfl) (fun _ _ _ h => h) (Or.inl ⟨by rfl, ?_⟩) ?_ ?_
  rotate_left
  · intro w'
    go_simp
    with_reducible rfl
  rotate_left
  · simp only [Act.put, List.setIfInBounds_toArray, List.set_cons_zero, List.set_cons_succ, i64_w, i32_w]
    rfl
  refine take_ (i := 16) (N := some 32) (v := ?_) (a' := ?_) #[true, true, true, true, true, true, false, true, true, false, true, true, true, true, true, true, true, false, false, false, false, false, false, false, false, false, false] rfl rfl (by kernel_rfl) (fun _ _ _ h => h) (Or.inl ⟨by rfl, ?_⟩) hHeld ?_ ?_
  rotate_left
  · rintro w' ⟨s0, s1, s2⟩
    go_simp
    with_reducible rfl
  rotate_left
  · simp only [Act.put, List.setIfInBounds_toArray, List.set_cons_zero, List.set_cons_succ, i64_w, i32_w]
    rfl
  refine join_ (σ := Unit) 9 #[true, true, true, true, true, true, true, true, true, true, true, true, true, true, true, true, true, true, false, false, false, false, false, false, false, false, false] (fun z => [(22, .slice A m cp), (25, .slice A k k), (33, .int .i64 (D.clock : Int))]) (fun z w' => Dk S (c + 1 + 1) w' g (tickV D) ∧ Foot S W.drew w' ∧ w'.heap.size = W.drew.heap.size ∧ ∀ q, q ≠ g → w'.heap[q]? = W.drew.heap[q]?) ?_ ?_
  rotate_left
  · intro hCont
    refine two_ (i := 6) (j := 17) (Ni := some 22) (Nj := some 33) #[true, true, true, true, true, true, true, true, true, false, true, true, true, true, true, true, true, false, false, false, false, false, false, false, false, false, false] #[true, true, true, true, true, true, false, true, true, false, true, true, true, true, true, true, true, true, false, false, false, false, false, false, false, false, false] rfl rfl rfl rfl (by kernel_rfl) (by decide) (by decide) (fun K hK => ?_) (fun K hK => ?_)
    · skip
      have y0 := Z0.out
      refine value_ (w1 := ?_) (v := ?_) (by rfl) rfl ?_ ?_
      rotate_left 2
      · go_simp
        constructor
        · rfl
        · rfl
      refine hK.out _ _ ⟨hHeld.1, hHeld.2.1, hHeld.2.2⟩ (fun hHeld => ?_)
      clear hK K
      refine norm_ (a' := ?_) ?_ ?_
      rotate_left
      · show Act.put _ (some 22) _ = _
        simp only [Act.put, List.setIfInBounds_toArray, List.set_cons_zero, List.set_cons_succ, i64_w, i32_w]
        rfl
      refine pure_ (i := 9) (N := some 25) (v := ?_) (a' := ?_) #[true, true, true, true, true, true, true, true, true, true, true, true, true, true, true, true, true, false, false, false, false, false, false, false, false, false, false] rfl rfl (by kernel_rfl) (fun _ _ _ h => h) (Or.inl ⟨by rfl, ?_⟩) ?_ ?_
      rotate_left
      · intro w'
        go_simp
        with_reducible rfl
      rotate_left
      · simp only [Act.put, List.setIfInBounds_toArray, List.set_cons_zero, List.set_cons_succ, i64_w, i32_w]
        rfl
      refine one_ (i := 17) (N := some 33) #[true, true, true, true, true, true, true, true, true, true, true, true, true, true, true, true, true, true, false, false, false, false, false, false, false, false, false] rfl rfl (by kernel_rfl) (by decide) (fun K hK => ?_)
      refine goes_ Tryz.func64 (by kernel_rfl) rfl #[.pointer (some ⟨g, 0, none⟩)] (by rfl) rfl rfl (by first | (simp only [List.map_toArray, List.map_cons, List.map_nil]; done) | (simp only [List.map_toArray, List.map_cons, List.map_nil]; rfl) | rfl) ?_
      with_reducible refine (tick_any S (c + 1) g D _ HWD2.out (by omega)).mono ?_
      rintro e w2 ⟨rfl, d2, f2, z2, k2⟩
      refine ⟨_, rfl, ?_⟩
      have HD2 := Lib.hid d2
      have HF2 := Lib.hid f2
      have HZ2 := Lib.hid z2
      have HK2 := Lib.hid k2
      have e0 := (k2 i HIG.out).trans W0.out
      have e2 := (k2 x HXG.out.1).trans X0.out
      have e3 := (k2 (x + 1) HXG.out.2).trans X1.out
      have t0 := Lib.hid (blk_cell e0 0)
      have t1 := Lib.hid (blk_cell e0 1)
      have t2 := Lib.hid (blk_cell e2 0)
      have t3 := Lib.hid (blk_cell e3 0)
      clear d2 f2 z2 k2 e0 e2 e3
      refine hK.out _ _ ⟨t1.out, t2.out, t3.out⟩ (fun hHeld => ?_)
      clear hK K
      refine norm_ (a' := ?_) ?_ ?_
      rotate_left
      · show Act.put _ (some 33) _ = _
        simp only [Act.put, List.setIfInBounds_toArray, List.set_cons_zero, List.set_cons_succ, i64_w, i32_w]
        rfl
      exact norm_ (by simp only [putAll, Act.put, List.setIfInBounds_toArray, List.set_cons_zero, List.set_cons_succ]) (hCont () _ ⟨HD2.out, HF2.out, HZ2.out, HK2.out⟩)
    · skip
      refine goes_ Tryz.func64 (by kernel_rfl) rfl #[.pointer (some ⟨g, 0, none⟩)] (by rfl) rfl rfl (by first | (simp only [List.map_toArray, List.map_cons, List.map_nil]; done) | (simp only [List.map_toArray, List.map_cons, List.map_nil]; rfl) | rfl) ?_
      with_reducible refine (tick_any S (c + 1) g D _ HWD2.out (by omega)).mono ?_
      rintro e w2 ⟨rfl, d2, f2, z2, k2⟩
      refine ⟨_, rfl, ?_⟩
      have HD2 := Lib.hid d2
      have HF2 := Lib.hid f2
      have HZ2 := Lib.hid z2
      have HK2 := Lib.hid k2
      have e0 := (k2 i HIG.out).trans W0.out
      have e2 := (k2 x HXG.out.1).trans X0.out
      have e3 := (k2 (x + 1) HXG.out.2).trans X1.out
      have t0 := Lib.hid (blk_cell e0 0)
      have t1 := Lib.hid (blk_cell e0 1)
      have t2 := Lib.hid (blk_cell e2 0)
      have t3 := Lib.hid (blk_cell e3 0)
      clear d2 f2 z2 k2 e0 e2 e3
      refine hK.out _ _ ⟨t1.out, t2.out, t3.out⟩ (fun hHeld => ?_)
      clear hK K
      refine norm_ (a' := ?_) ?_ ?_
      rotate_left
      · show Act.put _ (some 33) _ = _
        simp only [Act.put, List.setIfInBounds_toArray, List.set_cons_zero, List.set_cons_succ, i64_w, i32_w]
        rfl
      refine one_ (i := 6) (N := some 22) #[true, true, true, true, true, true, true, true, true, false, true, true, true, true, true, true, true, true, false, false, false, false, false, false, false, false, false] rfl rfl (by kernel_rfl) (by decide) (fun K hK => ?_)
      have y0 := t0.out
      refine value_ (w1 := ?_) (v := ?_) (by rfl) rfl ?_ ?_
      rotate_left 2
      · go_simp
        constructor
        · rfl
        · rfl
      refine hK.out _ _ ⟨hHeld.1, hHeld.2.1, hHeld.2.2⟩ (fun hHeld => ?_)
      clear hK K
      refine norm_ (a' := ?_) ?_ ?_
      rotate_left
      · show Act.put _ (some 22) _ = _
        simp only [Act.put, List.setIfInBounds_toArray, List.set_cons_zero, List.set_cons_succ, i64_w, i32_w]
        rfl
      refine pure_ (i := 9) (N := some 25) (v := ?_) (a' := ?_) #[true, true, true, true, true, true, true, true, true, true, true, true, true, true, true, true, true, true, false, false, false, false, false, false, false, false, false] rfl rfl (by kernel_rfl) (fun _ _ _ h => h) (Or.inl ⟨by rfl, ?_⟩) ?_ ?_
      rotate_left
      · intro w'
        go_simp
        with_reducible rfl
      rotate_left
      · simp only [Act.put, List.setIfInBounds_toArray, List.set_cons_zero, List.set_cons_succ, i64_w, i32_w]
        rfl
      exact norm_ (by simp only [putAll, Act.put, List.setIfInBounds_toArray, List.set_cons_zero, List.set_cons_succ]) (hCont () _ ⟨HD2.out, HF2.out, HZ2.out, HK2.out⟩)
  rintro ⟨⟩ w2 ⟨d2, f2, z2, k2⟩
  have HD2 := Lib.hid d2
  have HF2 := Lib.hid f2
  have HZ2 := Lib.hid z2
  have HK2 := Lib.hid k2
  have e0 := (k2 i HIG.out).trans W0.out
  have e2 := (k2 x HXG.out.1).trans X0.out
  have e3 := (k2 (x + 1) HXG.out.2).trans X1.out
  have E0 := Lib.hid e0
  have hHeld : w2.cell? ⟨i, 1, none⟩ = some (.int .i64 (sr : Int)) ∧ w2.cell? ⟨x, 0, none⟩ = some (.pointer (some ⟨g, 0, none⟩)) ∧ w2.cell? ⟨x + 1, 0, none⟩ = some (.int .i64 (k : Int)) := ⟨blk_cell e0 1, blk_cell e2 0, blk_cell e3 0⟩
  clear d2 f2 z2 k2 e2 e3
  refine norm_ (a' := ?_) ?_ ?_
  rotate_left
  · simp only [putAll, Act.put, List.setIfInBounds_toArray, List.set_cons_zero, List.set_cons_succ]
    rfl
  refine pure_ (i := 18) (N := some 34) (v := ?_) (a' := ?_) #[true, true, true, true, true, true, true, true, true, true, true, true, true, true, true, true, true, true, true, false, false, false, false, false, false, false, false] rfl rfl (by kernel_rfl) (fun _ _ _ h => h) (Or.inl ⟨by rfl, ?_⟩) ?_ ?_
  rotate_left
  · intro w'
    go_simp
    with_reducible rfl
  rotate_left
  · simp only [Act.put, List.setIfInBounds_toArray, List.set_cons_zero, List.set_cons_succ, i64_w, i32_w]
    rfl
  refine pure_ (i := 19) (N := some 35) (v := ?_) (a' := ?_) #[true, true, true, true, true, true, true, true, true, true, true, true, true, true, true, true, true, true, true, true, false, false, false, false, false, false, false] rfl rfl (by kernel_rfl) (fun _ _ _ h => h) (Or.inl ⟨by rfl, ?_⟩) ?_ ?_
  rotate_left
  · intro w'
    go_simp
    with_reducible rfl
  rotate_left
  · simp only [Act.put, List.setIfInBounds_toArray, List.set_cons_zero, List.set_cons_succ, i64_w, i32_w]
    rfl
  refine one_ (i := 20) (N := none) #[true, true, true, true, true, true, true, true, true, true, true, true, true, true, true, true, true, true, true, true, true, false, false, false, false, false, false] rfl rfl (by kernel_rfl) (by decide) (fun K hK => ?_)
  have f0 := blk_frozen e0 0
  have m0 := blk_cell e0 0
  refine skip_ (w1 := ?_) (by rfl) rfl ?_ ?_
  rotate_left
  · go_simp
    rfl
  clear f0 m0
  have e4 := blk_set e0 0 (.slice A k k)
  refine hK.out _ _ ⟨blk_cell e4 1, (show (w2.setCell ⟨i, 0, none⟩ (.slice A k k)).cell? ⟨x, 0, none⟩ = _ from (cell_far (p := ⟨i, 0, none⟩) hHeld.2.1 (by show x ≠ i; exact HXI.out.1) _)), (show (w2.setCell ⟨i, 0, none⟩ (.slice A k k)).cell? ⟨x + 1, 0, none⟩ = _ from (cell_far (p := ⟨i, 0, none⟩) hHeld.2.2 (by show x + 1 ≠ i; exact HXI.out.2) _))⟩ (fun hHeld => ?_)
  clear hK K
  refine pure_ (i := 21) (N := some 36) (v := ?_) (a' := ?_) #[true, true, true, true, true, true, true, true, true, true, true, true, true, true, true, true, true, true, true, true, true, true, false, false, false, false, false] rfl rfl (by kernel_rfl) (fun _ _ _ h => h) (Or.inl ⟨by rfl, ?_⟩) ?_ ?_
  rotate_left
  · intro w'
    go_simp
    with_reducible rfl
  rotate_left
  · simp only [Act.put, List.setIfInBounds_toArray, List.set_cons_zero, List.set_cons_succ, i64_w, i32_w]
    rfl
  refine pure_ (i := 22) (N := some 37) (v := ?_) (a' := ?_) #[true, true, true, true, true, true, true, true, true, true, true, true, true, true, true, true, true, true, true, true, true, true, true, false, false, false, false] rfl rfl (by kernel_rfl) (fun _ _ _ h => h) (Or.inl ⟨by rfl, ?_⟩) ?_ ?_
  rotate_left
  · intro w'
    go_simp
    with_reducible rfl
  rotate_left
  · simp only [Act.put, List.setIfInBounds_toArray, List.set_cons_zero, List.set_cons_succ, i64_w, i32_w]
    rfl
  refine last_ (i := 23) (N := none) #[true, true, true, true, true, true, true, true, true, true, true, true, true, true, true, true, true, true, true, true, true, true, true, true, false, false, false] rfl rfl (by kernel_rfl) (by decide) (fun K hK => ?_)
  have f1 := blk_frozen e4 1
  have m1 := blk_cell e4 1
  refine skip_ (w1 := ?_) (by rfl) rfl ?_ ?_
  rotate_left
  · go_simp
    rfl
  clear f1 m1
  refine hK.out _ _ ?_
  clear hK K
  refine pure_ (i := 24) (N := some 38) (v := ?_) (a' := ?_) #[true, true, true, true, true, true, true, true, true, true, true, true, true, true, true, true, true, true, true, true, true, true, true, true, true, false, false] rfl rfl (by kernel_rfl) (fun _ _ _ h => h) (Or.inl ⟨by rfl, ?_⟩) ?_ ?_
  rotate_left
  · intro w'
    go_simp
    with_reducible rfl
  rotate_left
  · simp only [Act.put, List.setIfInBounds_toArray, List.set_cons_zero, List.set_cons_succ, i64_w, i32_w]
    rfl
  refine pure_ (i := 25) (N := some 39) (v := ?_) (a' := ?_) #[true, true, true, true, true, true, true, true, true, true, true, true, true, true, true, true, true, true, true, true, true, true, true, true, true, true, false] rfl rfl (by kernel_rfl) (fun _ _ _ h => h) (Or.inl ⟨by rfl, ?_⟩) ?_ ?_
  rotate_left
  · intro w'
    go_simp
    with_reducible rfl
  rotate_left
  · simp only [Act.put, List.setIfInBounds_toArray, List.set_cons_zero, List.set_cons_succ, i64_w, i32_w]
    rfl
  refine last_ (i := 26) (N := none) #[true, true, true, true, true, true, true, true, true, true, true, true, true, true, true, true, true, true, true, true, true, true, true, true, true, true, true] rfl rfl (by kernel_rfl) (by decide) (fun K hK => ?_)
  have e5 := blk_set e4 1 (.int .i64 (min (sr : Int) (k : Int)))
  have f2 := blk_frozen e5 2
  have m2 := blk_cell e5 2
  refine skip_ (w1 := ?_) (by rfl) rfl ?_ ?_
  rotate_left
  · go_simp
    rfl
  clear f2 m2
  refine hK.out _ _ ?_
  clear hK K
  refine done_ (by kernel_rfl) ?_
  --S2
  go_wp2
  go_ret
  --S3
  have hgk : ∀ q cells t, (t = 5 ∨ t = 74) → W.heap[q]? = some (.cells cells t (0, 0)) → q ≠ g := fun q cells t ht hq e => by
    obtain ⟨mf, ms, vp, q1, _⟩ := HWD.out.ex
    rw [e, q1] at hq
    injection hq with hq
    injection hq with _ hq _
    rcases ht with rfl | rfl <;> revert hq <;> decide
  have hf2 : FilesAt S w2 (tickV D) dv := FilesAt.keep (w := W) HWF.out (fun q cells t _ ht hq => HK2.out q (hgk q cells t ht hq))
  obtain ⟨i1, _, i3⟩ := hf2.1 i HI.out
  rw [HD.out] at i3
  obtain ⟨w9, hw9⟩ : ∃ w9, w9 = ((w2.setCell ⟨i, 0, none⟩ (.slice A k k)).setCell ⟨i, 1, none⟩ (.int .i64 (min (sr : Int) (k : Int)))).setCell ⟨i, 2, none⟩ (.int .i64 (D.clock : Int)) := ⟨_, rfl⟩
  rw [← hw9]
  have hz9 : w9.heap.size = w2.heap.size := by rw [hw9]; simp
  have hk9 : ∀ q, q ≠ i → w9.heap[q]? = w2.heap[q]? := fun q hq => by
    rw [hw9]
    exact (Below.heap_setCell _ _ _ _ hq).trans ((Below.heap_setCell _ _ _ _ hq).trans (Below.heap_setCell _ _ _ _ hq))
  have hb9 : w9.heap[i]? = some (.cells #[.slice A k k, .int .i64 ((min sr k : Nat) : Int), .int .i64 (D.clock : Int)] 74 (0, 0)) := by
    rw [hw9, show ((min sr k : Nat) : Int) = min (sr : Int) (k : Int) by omega]
    exact (blk_set (blk_set (blk_set E0.out 0 _) 1 _) 2 _).trans rfl
  obtain ⟨fd, hfd⟩ : ∃ fd : FileV, fd = ⟨(D.fs i).b.take k, min (D.fs i).sure k, D.clock⟩ := ⟨_, rfl⟩
  have hln : ((D.fs i).b.take k).length = k := by rw [List.length_take, ← HM.out]; have := HKM.out; omega
  have hok : OkD (c + 1 + 1) { tickV D with fs := upd D.fs i fd } := HD2.out.ok.setFile (by
    have h1 := H.out.ok.file i HI.out
    rw [hfd]
    refine ⟨?_, ?_, H.out.ok.clock1, Nat.lt_succ_self _⟩
    · show ((D.fs i).b.take k).length ≤ _
      rw [hln]; have := HKM.out; have := HM.out; omega
    · show min (D.fs i).sure k ≤ ((D.fs i).b.take k).length
      rw [hln]; omega)
  have hzw : w2.heap.size = w.heap.size := HZ2.out.trans HSZ.out
  have hfin := HD2.out.fileTurn (w' := w9) (v' := .slice A k k) (f := fd) hf2 HI.out (Nat.le_of_eq hz9.symm) (fun q _ hq _ => hk9 q hq) (by rw [hb9, hfd, HSR.out]) (by
    rw [hfd]
    refine (dat_keep2 (dat_cut i3 HM.out HKM.out) (fun q hq => hk9 q (fun e => ?_))).mono (fun q hq => .inl hq)
    obtain ⟨cells, hcl⟩ := dat_typed (dat_cut i3 HM.out HKM.out) hq
    rw [e, E0.out] at hcl
    injection hcl with hcl
    injection hcl with _ hcl _
    revert hcl
    decide) (fun q hq => .inl (by rw [HD.out]; cases A <;> exact hq)) hok
  have hft : Foot S w w9 := by
    have h1 : Foot S W w2 := ⟨HF2.out.os, HF2.out.tape, HF2.out.output, HF2.out.size, HF2.out.block⟩
    refine (HFW.out.trans h1).trans ?_
    rw [hw9]
    exact (((Foot.refl S w2).setCell i1 0 _).setCell i1 1 _).setCell i1 2 _
  refine ⟨_, 0, rfl, (hfin.mono (fun q hq => ?_) (fun q hq => ?_)).more (by omega), .inr ⟨by omega, by rw [← HM.out]; have := HKM.out; omega, rfl, ?_⟩, hft⟩
  · rcases hq with hq | hq
    · exact .inl hq
    · exact .inr ⟨by omega, hq.2⟩
  · rcases hq with hq | hq
    · exact Nat.lt_of_lt_of_le (H.out.lt q hq) hft.size
    · exact hq.2
  · rw [hfd]
    rfl
--END CUT1
--BEGIN CUT
set_option maxRecDepth 100000 in
set_option maxHeartbeats 4000000 in
theorem cut_any (S : Nat → Prop) (c g : Nat) (D : DiskV) (s : ByteArray) (n : Int) (w : World) (h : Dk S c w g D) (hs : s.size ≤ maxLen) (h2 : -9223372036854775808 ≤ n ∧ n ≤ 9223372036854775807) (hc : c ≤ 40000000) :
    Calls Tryz.prog 46 #[.pointer (some ⟨g, 0, none⟩), .string s, .int .i64 n] w (DeedP S c g D (rightB s) (ThereR s (CutR n)) w) := by
  obtain ⟨x, hx⟩ : ∃ x, w.heap.size = x := ⟨_, rfl⟩
  have H := Lib.hid h
  have HS := Lib.hid hs
  have hgx : g < x := by rw [← hx]; exact h.lt g h.sg
  have HH := Lib.hid h2
  clear h hs h2
  obtain ⟨W, hW⟩ : ∃ W, W = ((w.alloc (.cells #[.pointer (some ⟨g, 0, none⟩)] 28)).alloc (.cells #[.int .i64 n] 3)) := ⟨_, rfl⟩
  obtain ⟨g0, g1, gz, hb⟩ := allocs2 w (.cells #[.pointer (some ⟨g, 0, none⟩)] 28) (.cells #[.int .i64 n] 3) hx
  rw [← hW] at g0 g1 gz hb
  have B0 := Lib.hid g0
  have Q0 := Lib.hid (blk_cell g0 0)
  have B1 := Lib.hid g1
  have Q1 := Lib.hid (blk_cell g1 0)
  have HBW := Lib.hid hb
  obtain ⟨X, hX⟩ : ∃ X, W.drew.heap.size = X := ⟨_, rfl⟩
  have HXX := Lib.hid hX
  have HXL : Hid (x + 2 = X) := by show _ = _; rw [← gz, ← hX]; rfl
  have HW := Lib.hid hW
  have HX := Lib.hid hx
  have HX1 : Hid ((W.alloc (.cells #[.string s] 9)).drew.heap.size = X + 1) := alloc_size W.drew _ hX
  have HBN0 : Hid ((W.alloc (.cells #[.string s] 9)).drew.heap[W.heap.size]? = _) := World.alloc_heap_new W _
  have HGX : Hid (g < x) := hgx
  have HDEED : Hid (∀ wx ya yb, Below W.heap.size W wx → wx.heap[ya]? = some (.cells #[.pointer (some ⟨g, 0, none⟩)] 28) → wx.heap[ya + 1]? = some (.cells #[.string s] 9) → wx.heap[ya + 2]? = some (.cells #[.func (.func 71) #[] #[.pointer (some ⟨x + 1, 0, none⟩), .pointer (some ⟨x, 0, none⟩)]] 75) → wx.heap[yb]? = some (.cells #[.string s] 9) → X ≤ ya → X ≤ yb →
      Calls Tryz.prog 33 #[.pointer (some ⟨g, 0, none⟩), .func (.func 65) #[] #[.pointer (some ⟨ya, 0, none⟩), .pointer (some ⟨ya + 1, 0, none⟩), .pointer (some ⟨ya + 2, 0, none⟩)], .slice (some ⟨yb, 0, none⟩) 1 1] wx (DeedP S c g D ([s].all rightB) (ThereR s (CutR n)) wx)) := fun wx ya yb k1 k2 k3 k4 k5 k6 k7 => by
    have hBX := HBW.out.trans (k1.mono HBW.out.size)
    refine deed_any S c g D 65 _ _ [s] (ThereR s (CutR n)) wx (H.out.below hBX) (fun W2 hf => ss_one (foot_blk hf k5 (by have := HXL.out; have := HGX.out; omega))) (by simp) (fun r hr => by rw [List.mem_singleton.1 hr]; exact HS.out) (by omega) (enters_of Tryz.func65 (by kernel_rfl) rfl)
      (thereB H.out HS.out hc hBX k2 k3 k4 (by have := HXL.out; have := HGX.out; omega) (enters_of Tryz.func71 (by kernel_rfl) rfl) (fun W2 m i hf2 hd hi => ?_))
    exact cut1_any S c g i x (countV D) n (W2.drewN m) hd (has_dir hi) HH.out hc (show W2.heap[x]? = _ from foot_blk hf2 (pw_blk_below k1 B0.out) (by have := HGX.out; omega)) (show W2.heap[x + 1]? = _ from foot_blk hf2 (pw_blk_below k1 B1.out) (by have := HGX.out; omega))
  clear hb hX g0 g1 gz hW hgx
  go_enter Tryz.func46, Tryz.ntmps46
  go_upto_region 1 with (fail)
  rw [← HW.out]
  clear hx
  --S1
  refine start_ (n := 9) (S := fun w' => Below W.heap.size W w' ∧ w'.cell? ⟨x, 0, none⟩ = some (.pointer (some ⟨g, 0, none⟩)) ∧ w'.cell? ⟨x + 1, 0, none⟩ = some (.int .i64 n)) (ds := [7]) #[false, false, false, false, false, false, false, false, false] (by kernel_rfl) rfl rfl ⟨Below.drew (Below.refl _ _), Q0.out, Q1.out⟩ (fun hHeld => ?_)
  refine pure_ (i := 2) (N := some 9) (v := ?_) (a' := ?_) #[false, false, true, false, false, false, false, false, false] rfl rfl (by kernel_rfl) (fun _ _ _ h => h) (Or.inl ⟨by rfl, ?_⟩) ?_ ?_
  rotate_left
  · intro w'
    go_simp
    with_reducible rfl
  rotate_left
  · simp only [Act.put, List.setIfInBounds_toArray, List.set_cons_zero, List.set_cons_succ, i64_w, i32_w]
    rfl
  refine pure_ (i := 3) (N := some 10) (v := ?_) (a' := ?_) #[false, false, true, true, false, false, false, false, false] rfl rfl (by kernel_rfl) (fun _ _ _ h => h) (Or.inl ⟨by rfl, ?_⟩) ?_ ?_
  rotate_left
  · intro w'
    go_simp
    with_reducible rfl
  rotate_left
  · simp only [Act.put, List.setIfInBounds_toArray, List.set_cons_zero, List.set_cons_succ, i64_w, i32_w]
    rfl
  refine pure_ (i := 5) (N := some 12) (v := ?_) (a' := ?_) #[false, false, true, true, false, true, false, false, false] rfl rfl (by kernel_rfl) (fun _ _ _ h => h) (Or.inl ⟨by rfl, ?_⟩) ?_ ?_
  rotate_left
  · intro w'
    go_simp
    with_reducible rfl
  rotate_left
  · simp only [Act.put, List.setIfInBounds_toArray, List.set_cons_zero, List.set_cons_succ, i64_w, i32_w]
    rfl
  refine take_ (i := 0) (N := some 7) (v := ?_) (a' := ?_) #[true, false, true, true, false, true, false, false, false] rfl rfl (by kernel_rfl) (fun _ _ _ h => h) (Or.inl ⟨by rfl, ?_⟩) hHeld ?_ ?_
  rotate_left
  · rintro w' ⟨s0, s1, s2⟩
    go_simp
    with_reducible rfl
  rotate_left
  · simp only [Act.put, List.setIfInBounds_toArray, List.set_cons_zero, List.set_cons_succ, i64_w, i32_w]
    rfl
  refine take_ (i := 1) (N := some 8) (v := ?_) (a' := ?_) #[true, true, true, true, false, true, false, false, false] rfl rfl (by kernel_rfl) (fun _ _ _ h => h) (Or.inl ⟨by rfl, ?_⟩) hHeld ?_ ?_
  rotate_left
  · rintro w' ⟨s0, s1, s2⟩
    go_simp
    with_reducible rfl
  rotate_left
  · simp only [Act.put, List.setIfInBounds_toArray, List.set_cons_zero, List.set_cons_succ, i64_w, i32_w]
    rfl
  refine join_ (σ := Nat × Nat) 2 #[true, true, true, true, true, true, true, false, false] (fun s => [(11, .func (.func 65) #[] #[.pointer (some ⟨s.1, 0, none⟩), .pointer (some ⟨s.1 + 1, 0, none⟩), .pointer (some ⟨s.1 + 2, 0, none⟩)]), (13, .slice (some ⟨s.2, 0, none⟩) 1 1)]) (fun z w' => Below W.heap.size W w' ∧ w'.heap[z.1]? = some (.cells #[.pointer (some ⟨g, 0, none⟩)] 28) ∧ w'.heap[z.1 + 1]? = some (.cells #[.string s] 9) ∧ w'.heap[z.1 + 2]? = some (.cells #[.func (.func 71) #[] #[.pointer (some ⟨x + 1, 0, none⟩), .pointer (some ⟨x, 0, none⟩)]] 75) ∧ w'.heap[z.2]? = some (.cells #[.string s] 9) ∧ X ≤ z.1 ∧ X ≤ z.2) ?_ ?_
  rotate_left
  · intro hCont
    refine two_ (i := 4) (j := 6) (Ni := some 11) (Nj := some 13) #[true, true, true, true, true, true, false, false, false] #[true, true, true, true, false, true, true, false, false] rfl rfl rfl rfl (by kernel_rfl) (by decide) (by decide) (fun K hK => ?_) (fun K hK => ?_)
    · skip
      refine goes_ Tryz.func36 (by kernel_rfl) rfl #[.pointer (some ⟨g, 0, none⟩), .string s, .func (.func 71) #[] #[.pointer (some ⟨x + 1, 0, none⟩), .pointer (some ⟨x, 0, none⟩)]] (by rfl) rfl rfl (by first | (simp only [List.map_toArray, List.map_cons, List.map_nil]; done) | (simp only [List.map_toArray, List.map_cons, List.map_nil]; rfl) | rfl) ?_
      with_reducible refine (there_any g s 71 #[.pointer (some ⟨x + 1, 0, none⟩), .pointer (some ⟨x, 0, none⟩)] _ X HXX.out).mono ?_
      rintro e w2 ⟨rfl, hw2⟩
      refine ⟨_, rfl, ?_⟩
      obtain ⟨a0, a1, a2, a3, ab⟩ := allocs3 W.drew (.cells #[.pointer (some ⟨g, 0, none⟩)] 28) (.cells #[.string s] 9) (.cells #[.func (.func 71) #[] #[.pointer (some ⟨x + 1, 0, none⟩), .pointer (some ⟨x, 0, none⟩)]] 75) HXX.out
      rw [← hw2] at a0 a1 a2 a3 ab
      have G0 := Lib.hid a0
      have G1 := Lib.hid a1
      have G2 := Lib.hid a2
      have G3 := Lib.hid a3
      have hb2 : Below W.heap.size W w2 := hHeld.1.trans (ab.mono hHeld.1.size)
      have HB2 := Lib.hid hb2
      clear hw2 a0 a1 a2 a3 ab
      refine hK.out _ _ ⟨hb2, pw_cell_below (hb2) Q0.out, pw_cell_below (hb2) Q1.out⟩ (fun hHeld => ?_)
      clear hK K
      refine norm_ (a' := ?_) ?_ ?_
      rotate_left
      · show Act.put _ (some 11) _ = _
        simp only [Act.put, List.setIfInBounds_toArray, List.set_cons_zero, List.set_cons_succ, i64_w, i32_w]
        rfl
      refine one_ (i := 6) (N := some 13) #[true, true, true, true, true, true, true, false, false] rfl rfl (by kernel_rfl) (by decide) (fun K hK => ?_)
      refine value_ (w1 := ?_) (v := ?_) (by rfl) rfl ?_ ?_
      rotate_left 2
      · go_simp
        constructor
        · rfl
        · rfl
      refine hK.out _ _ ⟨hHeld.1.alloc hHeld.1.size _, pw_cell_below (hHeld.1.alloc hHeld.1.size _) Q0.out, pw_cell_below (hHeld.1.alloc hHeld.1.size _) Q1.out⟩ (fun hHeld => ?_)
      clear hK K
      refine norm_ (a' := ?_) ?_ ?_
      rotate_left
      · show Act.put _ (some 13) _ = _
        simp only [Act.put, List.setIfInBounds_toArray, List.set_cons_zero, List.set_cons_succ, i64_w, i32_w]
        rfl
      exact norm_ (by simp only [putAll, Act.put, List.setIfInBounds_toArray, List.set_cons_zero, List.set_cons_succ]) (hCont (X, w2.heap.size) _ ⟨hHeld.1, alloc_old G0.out _, alloc_old G1.out _, alloc_old G2.out _, alloc_at w2 _ rfl, Nat.le_refl _, Nat.le_trans (Nat.le_add_right _ _) (Nat.le_of_eq G3.out.symm)⟩)
    · skip
      refine value_ (w1 := ?_) (v := ?_) (by rfl) rfl ?_ ?_
      rotate_left 2
      · go_simp
        constructor
        · rfl
        · rfl
      refine hK.out _ _ ⟨hHeld.1.alloc hHeld.1.size _, pw_cell_below (hHeld.1.alloc hHeld.1.size _) Q0.out, pw_cell_below (hHeld.1.alloc hHeld.1.size _) Q1.out⟩ (fun hHeld => ?_)
      clear hK K
      refine norm_ (a' := ?_) ?_ ?_
      rotate_left
      · show Act.put _ (some 13) _ = _
        simp only [Act.put, List.setIfInBounds_toArray, List.set_cons_zero, List.set_cons_succ, i64_w, i32_w]
        rfl
      refine one_ (i := 4) (N := some 11) #[true, true, true, true, true, true, true, false, false] rfl rfl (by kernel_rfl) (by decide) (fun K hK => ?_)
      refine goes_ Tryz.func36 (by kernel_rfl) rfl #[.pointer (some ⟨g, 0, none⟩), .string s, .func (.func 71) #[] #[.pointer (some ⟨x + 1, 0, none⟩), .pointer (some ⟨x, 0, none⟩)]] (by rfl) rfl rfl (by first | (simp only [List.map_toArray, List.map_cons, List.map_nil]; done) | (simp only [List.map_toArray, List.map_cons, List.map_nil]; rfl) | rfl) ?_
      with_reducible refine (there_any g s 71 #[.pointer (some ⟨x + 1, 0, none⟩), .pointer (some ⟨x, 0, none⟩)] _ (X + 1) HX1.out).mono ?_
      rintro e w2 ⟨rfl, hw2⟩
      refine ⟨_, rfl, ?_⟩
      obtain ⟨a0, a1, a2, a3, ab⟩ := allocs3 ((W.alloc (.cells #[.string s] 9)).drew) (.cells #[.pointer (some ⟨g, 0, none⟩)] 28) (.cells #[.string s] 9) (.cells #[.func (.func 71) #[] #[.pointer (some ⟨x + 1, 0, none⟩), .pointer (some ⟨x, 0, none⟩)]] 75) HX1.out
      rw [← hw2] at a0 a1 a2 a3 ab
      have G0 := Lib.hid a0
      have G1 := Lib.hid a1
      have G2 := Lib.hid a2
      have G3 := Lib.hid a3
      have hb2 : Below W.heap.size W w2 := hHeld.1.trans (ab.mono hHeld.1.size)
      have HB2 := Lib.hid hb2
      have HBN := Lib.hid ((ab.block _ (blk_lt HBN0.out)).trans HBN0.out)
      clear hw2 a0 a1 a2 a3 ab
      refine hK.out _ _ ⟨hb2, pw_cell_below (hb2) Q0.out, pw_cell_below (hb2) Q1.out⟩ (fun hHeld => ?_)
      clear hK K
      refine norm_ (a' := ?_) ?_ ?_
      rotate_left
      · show Act.put _ (some 11) _ = _
        simp only [Act.put, List.setIfInBounds_toArray, List.set_cons_zero, List.set_cons_succ, i64_w, i32_w]
        rfl
      exact norm_ (by simp only [putAll, Act.put, List.setIfInBounds_toArray, List.set_cons_zero, List.set_cons_succ]) (hCont (X + 1, W.heap.size) _ ⟨hHeld.1, G0.out, G1.out, G2.out, HBN.out, Nat.le_add_right _ _, Nat.le_of_eq HXX.out.symm⟩)
  rintro ⟨ya, yb⟩ wx ⟨hF1, hF2, hF3, hF4, hF5, hF6, hF7⟩
  simp only at hF2 hF3 hF4 hF5 hF6 hF7
  have hHeld : Below W.heap.size W wx ∧ wx.cell? ⟨x, 0, none⟩ = some (.pointer (some ⟨g, 0, none⟩)) ∧ wx.cell? ⟨x + 1, 0, none⟩ = some (.int .i64 n) := ⟨hF1, pw_cell_below (hF1) Q0.out, pw_cell_below (hF1) Q1.out⟩
  have P0 := Lib.hid hF2
  have P1 := Lib.hid hF3
  have P2 := Lib.hid hF4
  have P3 := Lib.hid hF5
  have P4 := Lib.hid hF6
  have P5 := Lib.hid hF7
  have HBX := Lib.hid (HBW.out.trans (hF1.mono HBW.out.size))
  have HB1 := Lib.hid hF1
  clear hF1 hF2 hF3 hF4 hF5 hF6 hF7
  refine norm_ (a' := ?_) ?_ ?_
  rotate_left
  · simp only [putAll, Act.put, List.setIfInBounds_toArray, List.set_cons_zero, List.set_cons_succ]
    rfl
  refine last_ (i := 7) (N := some 14) #[true, true, true, true, true, true, true, true, false] rfl rfl (by kernel_rfl) (by decide) (fun K hK => ?_)
  refine goes_ Tryz.func33 (by kernel_rfl) rfl #[.pointer (some ⟨g, 0, none⟩), .func (.func 65) #[] #[.pointer (some ⟨ya, 0, none⟩), .pointer (some ⟨ya + 1, 0, none⟩), .pointer (some ⟨ya + 2, 0, none⟩)], .slice (some ⟨yb, 0, none⟩) 1 1] (by rfl) rfl rfl (by first | (simp only [List.map_toArray, List.map_cons, List.map_nil]; done) | (simp only [List.map_toArray, List.map_cons, List.map_nil]; rfl) | rfl) ?_
  with_reducible refine (HDEED.out _ _ _ hHeld.1 P0.out P1.out P2.out P3.out P4.out P5.out).mono ?_
  rintro e w9 hp
  have HP := Lib.hid (deedP_from HBX.out H.out.lt hp)
  obtain ⟨D', kk, rfl, _⟩ := hp
  refine ⟨_, rfl, ?_⟩
  refine hK.out _ _ ?_
  clear hK K
  refine norm_ (a' := ?_) ?_ ?_
  rotate_left
  · show Act.put _ (some 14) _ = _
    simp only [Act.put, List.setIfInBounds_toArray, List.set_cons_zero, List.set_cons_succ, i64_w, i32_w]
    rfl
  refine pure_ (i := 8) (N := some 6) (v := ?_) (a' := ?_) #[true, true, true, true, true, true, true, true, true] rfl rfl (by kernel_rfl) (fun _ _ _ h => h) (Or.inl ⟨by rfl, ?_⟩) ?_ ?_
  rotate_left
  · intro w'
    go_simp
    with_reducible rfl
  rotate_left
  · simp only [Act.put, List.setIfInBounds_toArray, List.set_cons_zero, List.set_cons_succ, i64_w, i32_w]
    rfl
  refine done_ (by kernel_rfl) ?_
  --S2
  go_wp2
  go_ret
  have h := HP.out
  simp only [List.all_cons, List.all_nil, Bool.and_true] at h
  exact h
--END CUT
end Go.Proofs.YtononoakdebjeaaGreatDoor.Dk
