/- The law NamesGrow (walk). -/
import Derived.Test.YtinonkakpgiblaaNamWith
namespace Go.Proofs.Ytinonkakpgiblaa.Nam
open Go.RowKit Go.Proofs.YtinonkakpgiblaaW.PrintWords Go.Proofs.YtinonkakpgiblaaW.PrintLast Go.Proofs.Ytinonkakpgiblaa.Base Go.Proofs.Ytinonkakpgiblaa.Pack Go.Maps
set_option linter.unusedVariables false
set_option linter.unusedSimpArgs false

/-- append(v, s...) of a text's bytes, as a step. -/
theorem app_str_stepb {ops : Array Oper} {o : Oper} {a : Act} {Q : Exit → Act → World → Prop} {K : Act → World → Prop} {E : Prop} {w0 W : World} (hgd : o.guard = none) (s x : Operand) (t u : TypeId)
    (ho : o.op = .call { callee := .builtin .append, args := #[s, x], argTypes := #[t, u] })
    (ht : Try.prog.underlying t = some (.slice 5)) (hu : Try.prog.underlying u = some .string)
    (v : Value) (xs : List Int) (y : ByteArray) (hs : a.eval s = v) (hx : a.eval x = .string y)
    (HO : Ow w0 W v xs) (hl : xs.length + y.size ≤ 140737488355328)
    (h : ∀ v1 w1, Ow w0 w1 v1 (xs ++ bytesOf y) → W.grownBy w1 v.ownBlock → K (a.put o.dst v1) w1) :
    if Region.wanted o (yielded ops a.tmps) = true then Oper.wp Try.prog o a W K Q else E := by
  have hw : Region.wanted o (yielded ops a.tmps) = true := by simp [Region.wanted, hgd]
  rw [if_pos hw]
  obtain ⟨i0, hi, hzz⟩ := Option.map_eq_some_iff.1 info_u8
  simp only [Prod.mk.injEq] at hzz
  obtain ⟨hz0, hz1, hz2⟩ := hzz
  obtain ⟨v1, w1, hr, h2, h3, _⟩ := Lib.run_append_own_string (P := Try.prog) W w0.heap.size t u o.type 5 i0 ht hu hi hz0 hz1 hz2 v xs.length (nums .u8 xs) HO.own y (by simp only [maxLen]; omega) hl HO.below.size
  unfold Oper.wp execOp
  simp only [ho, resolve, invoke, builtin, Sem.run_bind, Sem.run_pure, Result.andThen_ok, List.map_toArray, List.map_cons, List.map_nil, hs, hx, hr]
  refine h v1 w1 ⟨?_, HO.below.grown h3 HO.below.size (own_base HO.own)⟩ h3
  have hc : nums .u8 (xs ++ bytesOf y) = nums .u8 xs ++ Lib.strCells y := by
    rw [nums_append]
    exact congrArg (nums .u8 xs ++ ·) (by simp [nums, bytesOf, Lib.strCells])
  have hl2 : (xs ++ bytesOf y).length = xs.length + y.size := by rw [List.length_append, bytesOf_length]
  rw [hl2, hc]
  exact h2
/-- The names in the order in which they came. -/
def wantK (l : List ByteArray) (k : Nat) : List ByteArray := (l.take k).foldl withV []
theorem withV_le (l : List ByteArray) (s : ByteArray) : (withV l s).length ≤ l.length + 1 := by
  unfold withV
  split
  · omega
  · simp
theorem wantK_succ {l : List ByteArray} {k : Nat} (h : k < l.length) : wantK l (k + 1) = withV (wantK l k) (l.getD k ByteArray.empty) := by
  unfold wantK
  rw [(take_at l ByteArray.empty k h).1, List.foldl_append]
  rfl
theorem wantK_le (l : List ByteArray) : ∀ k, (wantK l k).length ≤ k
  | 0 => Nat.le_refl _
  | k + 1 => by
    by_cases h : k < l.length
    · rw [wantK_succ h]
      have := wantK_le l k
      have := withV_le (wantK l k) (l.getD k ByteArray.empty)
      omega
    · have h2 := wantK_le l k
      have : l.take (k + 1) = l.take k := by rw [List.take_of_length_le (by omega), List.take_of_length_le (by omega)]
      unfold wantK at h2 ⊢
      rw [this]
      omega
theorem nameRec_small {s : ByteArray} (h : s.size ≤ 100) : nameRec s = [1, IntKind.u8.wrap (s.size : Int), 0] ++ bytesOf s := by
  have e : Pack.leBytes (s.size : Int) 2 = [IntKind.u8.wrap (s.size : Int), 0] := by
    have e1 : IntKind.u8.wrap (s.size : Int) = s.size := by simp [IntKind.wrap, IntKind.bits, IntKind.signed]; omega
    rw [e1]
    have h1 : (s.size : Int) % 256 = s.size := by omega
    have h2 : (s.size : Int) / 256 = 0 := by omega
    show Pack.leBytes (s.size : Int) (1 + 1) = _
    rw [Pack.leBytes_cons, h1, h2]
    rfl
  unfold nameRec textBytes
  rw [e]
  rfl
theorem take_there (b : BookV) (s : ByteArray) (hs : s ∈ b.ns) (hl : s.size ≤ 65535) : takeV b (nameRec s) = none := by
  obtain ⟨e1, e2⟩ := txt_put s [] hl
  rw [List.append_nil] at e1 e2
  unfold nameRec
  rw [takeV_cons, if_pos rfl]
  unfold takeName
  rw [e1, if_pos (.inl hs)]
theorem take_with (ns : List ByteArray) (s : ByteArray) (hl : s.size ≤ 65535) : (takeV ⟨ns, fun _ => none⟩ (nameRec s)).getD ⟨ns, fun _ => none⟩ = ⟨withV ns s, fun _ => none⟩ ∧ (takeE (takeV ⟨ns, fun _ => none⟩ (nameRec s)) = 0 ↔ ns.length < (withV ns s).length) := by
  by_cases hs : s ∈ ns
  · rw [take_there _ s hs hl]
    unfold withV takeE
    simp [hs]
  · rw [take_nameRec _ s hs hl]
    unfold withV takeE
    simp [hs]
--BEGIN WALK
set_option maxRecDepth 100000 in
set_option maxHeartbeats 4000000 in
theorem NamesGrow_any (v0 : Value) (l : List ByteArray) (w : World) (h : Ss w v0 l) :
    Calls Try.prog 5 #[v0] w fun e w' => e = .returned (.bool true) ∧ Below w.heap.size w w' := by
  obtain ⟨A, c, rfl, hc, hm⟩ := ss_len h
  obtain ⟨n, hn⟩ : ∃ n, n = l.length := ⟨_, rfl⟩
  rw [← hn] at hc hm h ⊢
  have HSS := Lib.hid h
  have HN := Lib.hid hn
  clear h hn
  by_cases hbig : n ≤ 60
  case neg =>
    have hgt : 60 < n := by omega
    clear hbig
    go_enter Try.func5, Try.ntmps5
    go_wp2
    go_ret
    exact ⟨rfl, Below.refl _ _⟩
  go_enter Try.func5, Try.ntmps5
  go_wp2_with fail
  --S1
  refine (bnew_any _).mono ?_
  rintro e w1 ⟨g, rfl, hk, hb⟩
  have HK1 : Hid (Bk (fun k => w.heap.size ≤ k ∧ k < w1.heap.size) 0 w1 g ⟨wantK l 0, fun _ => none⟩) := hk
  have HB1 := Lib.hid hb
  clear hk hb
  go_wp2
  --S2
  go_loopw [4, 5] (fun u i wr => ∃ (k : Nat) (v : Value) (S : Nat → Prop), k ≤ n ∧ i = .int .i64 k ∧ u = v ∧ Hid (Bk S k wr g ⟨wantK l k, fun _ => none⟩) ∧ Hid (Kd.string.R 9 wr w.heap.size (fun j => ¬ S j) v (wantK l k)) ∧ Hid (Below w.heap.size w wr) ∧ Hid (∀ j, S j → w.heap.size ≤ j)) (fun _ i _ => n - (intOf i).toNat)
  case atStart => exact ⟨0, .slice none 0 0, _, by omega, rfl, rfl, HK1.out, Kd.R_nil _ _ _ _ _, HB1.out, fun j hj => hj.1⟩
  case round =>
    obtain ⟨k, v, S, hk, rfl, rfl, HK, HR, HB, HS⟩ := hrel
    obtain ⟨Av, cv, ev⟩ := Kd.R_slice HR.out
    obtain ⟨nv, hnv⟩ : ∃ nv, nv = (wantK l k).length := ⟨_, rfl⟩
    rw [← hnv] at ev
    subst ev
    have hnk : nv ≤ k := by rw [hnv]; exact wantK_le l k
    have HNVE := Lib.hid hnv
    clear hnv
    have SSr := Lib.hid (HSS.out.below HB.out)
    by_cases l1 : k < n
    · have hkl : k < l.length := by rw [← HN.out]; exact l1
      obtain ⟨Ax, cx, ex, _, _, hcel⟩ := SSr.out
      injection ex with ex1 ex2 ex3
      subst ex1
      obtain ⟨ad, ead, hcell⟩ := hcel (by omega)
      subst ead
      have q := hcell k hkl
      obtain ⟨s, hs⟩ : ∃ s, s = l.getD k ByteArray.empty := ⟨_, rfl⟩
      rw [← hs] at q
      have HW : Hid (wantK l (k + 1) = withV (wantK l k) s) := by show _ = _; rw [hs]; exact wantK_succ hkl
      clear hcel hcell ex2 ex3 hkl hs
      by_cases hsz : s.size ≤ 100
      case neg =>
        have hgt : 100 < s.size := by omega
        clear hsz
        go_wp2
        go_ret
        exact ⟨rfl, HB.out⟩
      have P0 := Lib.hid q
      go_wp2
      clear q
      --S3
      refine start_ (n := 13) (S := fun w' => Below wr.heap.size wr w' ∧ w'.cell? (ad.add k) = some (.string s)) (ds := []) #[false, false, false, false, false, false, false, false, false, false, false, false, false] (by kernel_rfl) rfl rfl ⟨Below.drew (Below.refl _ _), P0.out⟩ (fun hHeld => ?_)
      refine pure_ (i := 0) (N := some 26) (v := ?_) (a' := ?_) #[true, false, false, false, false, false, false, false, false, false, false, false, false] rfl rfl (by kernel_rfl) (fun _ _ _ h => h) (Or.inl ⟨by rfl, ?_⟩) ?_ ?_
      rotate_left
      · intro w'
        go_simp
        with_reducible rfl
      rotate_left
      · simp only [Act.put, List.setIfInBounds_toArray, List.set_cons_zero, List.set_cons_succ, i64_w, i32_w]
        rfl
      refine pure_ (i := 1) (N := some 27) (v := ?_) (a' := ?_) #[true, true, false, false, false, false, false, false, false, false, false, false, false] rfl rfl (by kernel_rfl) (fun _ _ _ h => h) (Or.inl ⟨by rfl, ?_⟩) ?_ ?_
      rotate_left
      · intro w'
        go_simp
        with_reducible rfl
      rotate_left
      · simp only [Act.put, List.setIfInBounds_toArray, List.set_cons_zero, List.set_cons_succ, i64_w, i32_w]
        rfl
      refine pure_ (i := 2) (N := some 28) (v := ?_) (a' := ?_) #[true, true, true, false, false, false, false, false, false, false, false, false, false] rfl rfl (by kernel_rfl) (fun _ _ _ h => h) (Or.inl ⟨by rfl, ?_⟩) ?_ ?_
      rotate_left
      · intro w'
        go_simp
        with_reducible rfl
      rotate_left
      · simp only [Act.put, List.setIfInBounds_toArray, List.set_cons_zero, List.set_cons_succ, i64_w, i32_w]
        rfl
      refine pure_ (i := 7) (N := some 33) (v := ?_) (a' := ?_) #[true, true, true, false, false, false, false, true, false, false, false, false, false] rfl rfl (by kernel_rfl) (fun _ _ _ h => h) (Or.inl ⟨by rfl, ?_⟩) ?_ ?_
      rotate_left
      · intro w'
        go_simp
        with_reducible rfl
      rotate_left
      · simp only [Act.put, List.setIfInBounds_toArray, List.set_cons_zero, List.set_cons_succ, i64_w, i32_w]
        rfl
      refine pure_ (i := 8) (N := some 34) (v := ?_) (a' := ?_) #[true, true, true, false, false, false, false, true, true, false, false, false, false] rfl rfl (by kernel_rfl) (fun _ _ _ h => h) (Or.inl ⟨by rfl, ?_⟩) ?_ ?_
      rotate_left
      · intro w'
        go_simp
        with_reducible rfl
      rotate_left
      · simp only [Act.put, List.setIfInBounds_toArray, List.set_cons_zero, List.set_cons_succ, i64_w, i32_w]
        rfl
      refine pure_ (i := 9) (N := some 35) (v := ?_) (a' := ?_) #[true, true, true, false, false, false, false, true, true, true, false, false, false] rfl rfl (by kernel_rfl) (fun _ _ _ h => h) (Or.inl ⟨by rfl, ?_⟩) ?_ ?_
      rotate_left
      · intro w'
        go_simp
        with_reducible rfl
      rotate_left
      · simp only [Act.put, List.setIfInBounds_toArray, List.set_cons_zero, List.set_cons_succ, i64_w, i32_w]
        rfl
      refine take_ (i := 3) (N := some 29) (v := ?_) (a' := ?_) #[true, true, true, true, false, false, false, true, true, true, false, false, false] rfl rfl (by kernel_rfl) (fun _ _ _ h => h) (Or.inl ⟨by rfl, ?_⟩) hHeld ?_ ?_
      rotate_left
      · rintro w' ⟨s0, s1⟩
        go_simp
        with_reducible rfl
      rotate_left
      · simp only [Act.put, List.setIfInBounds_toArray, List.set_cons_zero, List.set_cons_succ, i64_w, i32_w]
        rfl
      refine pure_ (i := 4) (N := some 30) (v := ?_) (a' := ?_) #[true, true, true, true, true, false, false, true, true, true, false, false, false] rfl rfl (by kernel_rfl) (fun _ _ _ h => h) (Or.inl ⟨by rfl, ?_⟩) ?_ ?_
      rotate_left
      · intro w'
        go_simp
        with_reducible rfl
      rotate_left
      · simp only [Act.put, List.setIfInBounds_toArray, List.set_cons_zero, List.set_cons_succ, i64_w, i32_w]
        rfl
      refine pure_ (i := 5) (N := some 31) (v := ?_) (a' := ?_) #[true, true, true, true, true, true, false, true, true, true, false, false, false] rfl rfl (by kernel_rfl) (fun _ _ _ h => h) (Or.inl ⟨by rfl, ?_⟩) ?_ ?_
      rotate_left
      · intro w'
        go_simp
        with_reducible rfl
      rotate_left
      · simp only [Act.put, List.setIfInBounds_toArray, List.set_cons_zero, List.set_cons_succ, i64_w, i32_w]
        rfl
      refine take_ (i := 10) (N := some 36) (v := ?_) (a' := ?_) #[true, true, true, true, true, true, false, true, true, true, true, false, false] rfl rfl (by kernel_rfl) (fun _ _ _ h => h) (Or.inl ⟨by rfl, ?_⟩) hHeld ?_ ?_
      rotate_left
      · rintro w' ⟨s0, s1⟩
        go_simp
        with_reducible rfl
      rotate_left
      · simp only [Act.put, List.setIfInBounds_toArray, List.set_cons_zero, List.set_cons_succ, i64_w, i32_w]
        rfl
      refine one_ (i := 6) (N := some 32) #[true, true, true, true, true, true, true, true, true, true, true, false, false] rfl rfl (by kernel_rfl) (by decide) (fun K hK => ?_)
      refine value_ (w1 := ?_) (v := ?_) (by rfl) rfl ?_ ?_
      rotate_left 2
      · go_simp
        constructor
        · rfl
        · rfl
      have O6 : Hid (Ow wr.drew (wr.drew.alloc (.cells #[.int .u8 1, .int .u8 (IntKind.u8.wrap (s.size : Int)), .int .u8 0] 5)) (.slice (some ⟨wr.drew.heap.size, 0, none⟩) 3 3) [1, IntKind.u8.wrap (s.size : Int), 0]) := Ow.lit (Below.refl _ _) [1, IntKind.u8.wrap (s.size : Int), 0] (by simp)
      refine hK.out _ _ ⟨hHeld.1.alloc hHeld.1.size _, pw_cell_below (hHeld.1.alloc hHeld.1.size _) P0.out⟩ (fun hHeld => ?_)
      clear hK K
      refine norm_ (a' := ?_) ?_ ?_
      rotate_left
      · show Act.put _ (some 32) _ = _
        simp only [Act.put, List.setIfInBounds_toArray, List.set_cons_zero, List.set_cons_succ, i64_w, i32_w]
        rfl
      refine one_ (i := 11) (N := some 37) #[true, true, true, true, true, true, true, true, true, true, true, true, false] rfl rfl (by kernel_rfl) (by decide) (fun K hK => ?_)
      refine app_str_stepb (w0 := wr.drew) rfl (.tmp 32) (.tmp 36) 46 9 rfl Try.underlying46 Try.underlying9 _ _ s rfl rfl O6.out (by simp only [List.length_cons, List.length_nil]; omega) ?_
      intro v2 w2 o2 g2
      obtain ⟨A2, n2, c2, rfl, hn2⟩ := o2.slice
      have hb2 : Below wr.heap.size wr w2 := (Below.drew (Below.refl _ _)).trans o2.below
      have O2 := Lib.hid o2
      have HB2 := Lib.hid hb2
      clear o2 g2 hn2
      refine hK.out _ _ ⟨hb2, pw_cell_below (hb2) P0.out⟩ (fun hHeld => ?_)
      clear hK K
      refine norm_ (a' := ?_) ?_ ?_
      rotate_left
      · show Act.put _ (some 37) _ = _
        simp only [Act.put, List.setIfInBounds_toArray, List.set_cons_zero, List.set_cons_succ, i64_w, i32_w]
        rfl
      refine pure_ (i := 12) (N := some 6) (v := ?_) (a' := ?_) #[true, true, true, true, true, true, true, true, true, true, true, true, true] rfl rfl (by kernel_rfl) (fun _ _ _ h => h) (Or.inl ⟨by rfl, ?_⟩) ?_ ?_
      rotate_left
      · intro w'
        go_simp
        with_reducible rfl
      rotate_left
      · simp only [Act.put, List.setIfInBounds_toArray, List.set_cons_zero, List.set_cons_succ, i64_w, i32_w]
        rfl
      refine done_ (by kernel_rfl) ?_
      --S4
      have hK2 := HK.out.below HB2.out
      have hfr : ∀ j, w2.heap.size ≤ j → ¬ S j := fun j hj hs => by
        have h1 := HK.out.lt j hs
        have h2 := HB2.out.size
        omega
      have HK2 := Lib.hid hK2
      have HFR := Lib.hid hfr
      have HR2 : Hid (Kd.string.R 9 w2 w.heap.size (fun j => ¬ S j) (.slice Av nv cv) (wantK l k)) := Kd.R_below HR.out HB2.out
      have HBW2 : Hid (Below w.heap.size w w2) := HB.out.trans (HB2.out.mono HB.out.size)
      clear hK2 hfr hHeld
      have q2 := pw_cell_below HB2.out P0.out
      go_wp2_with fail
      refine (with_any w.heap.size (fun j => ¬ S j) _ (wantK l k) s _ HR2.out HFR.out HBW2.out.size (by have := HNVE.out; have := wantK_le l k; omega)).mono ?_
      rintro e w3 ⟨v3, rfl, r3, b3, g3⟩
      clear q2
      --S5
      obtain ⟨A3, c3, e3⟩ := Kd.R_slice r3
      obtain ⟨n3, hn3⟩ : ∃ n3, n3 = (withV (wantK l k) s).length := ⟨_, rfl⟩
      rw [← hn3] at e3
      subst e3
      have HN3 := Lib.hid hn3
      have HR3 := Lib.hid r3
      have hoff : ∀ j, S j → some j ≠ (Value.slice Av nv cv).ownBlock := fun j hj he => HR2.out.1 j he.symm hj
      have HK3 : Hid (Bk S k w3 g ⟨wantK l k, fun _ => none⟩) := HK2.out.move fun j hj => g3.block j (HK2.out.lt j hj) (hoff j hj)
      have HBW3 : Hid (Below w.heap.size w w3) := HBW2.out.trans b3
      have HX3 : Hid (Bs w3 (.slice A2 n2 c2) (nameRec s)) := by
        have e : nameRec s = [1, IntKind.u8.wrap (s.size : Int), 0] ++ bytesOf s := nameRec_small hsz
        show Bs _ _ _
        rw [e]
        refine Bs.of_own (own_move O2.out.own (fun j hj => g3.block j ?_ ?_)) rfl
        · exact own_lt O2.out.own j hj
        · intro he
          have h1 := Kd.R_lt HR.out j he.symm
          have h2 := own_base O2.out.own j hj
          have h3 : wr.drew.heap.size = wr.heap.size := rfl
          omega
      clear r3 b3 g3 hn3 hoff
      go_wp2_with fail
      refine (take_any S k g ⟨wantK l k, fun _ => none⟩ _ (nameRec s) _ HK3.out HX3.out (nameRec_bytes s) (by omega) (by unfold nameRec; rw [List.length_cons, textBytes_length]; omega)).mono ?_
      rintro e w4 ⟨rfl, hk4, hf4⟩
      have hTW := take_with (wantK l k) s (by omega)
      rw [hTW.1, ← HW.out] at hk4
      have HK4 := Lib.hid hk4
      have HBW4 : Hid (Below w.heap.size w w4) := HBW3.out.trans (hf4.below HS.out HBW3.out.size)
      have HR4 : Hid (Kd.string.R 9 w4 w.heap.size (fun j => ¬ Sn S w3.heap.size w4 j) (.slice A3 n3 c3) (wantK l (k + 1))) := by
        rw [HW.out]
        refine Kd.R_step (Kd.R_mono (Kd.R_bound HR3.out) (fun j hj => ?_)) (fun j hj hl => hf4.block j hl (fun hs => hj (.inl hs)))
        rintro (h1 | h1)
        · exact hj.1 h1
        · have := hj.2.2.1; omega
      have HS4 : Hid (∀ j, Sn S w3.heap.size w4 j → w.heap.size ≤ j) := by
        rintro j (h1 | h1)
        · exact HS.out j h1
        · exact Nat.le_trans HBW3.out.size h1.1
      have HE := Lib.hid hTW.2
      clear hk4 hf4 hTW
      by_cases hin : s ∈ wantK l k
      · have hE : takeE (takeV ⟨wantK l k, fun _ => none⟩ (nameRec s)) = 4 := by rw [take_there _ s hin (by omega)]; rfl
        have h3 : n3 = nv := by
          have h1 := HN3.out
          rw [show withV (wantK l k) s = wantK l k from if_pos hin] at h1
          have h2 := HNVE.out
          omega
        rw [hE]
        subst h3
        clear hE hin
        go_wp2
        go_roundw
        case rel => exact ⟨k + 1, _, _, by omega, by go_num, rfl, HK4.out, HR4.out, HBW4.out, HS4.out⟩
        case measure => simp [intOf]; omega
      · have hE : takeE (takeV ⟨wantK l k, fun _ => none⟩ (nameRec s)) = 0 := by rw [take_nameRec _ s hin (by omega)]; rfl
        have h3 : nv < n3 := by
          have h1 := HN3.out
          rw [show withV (wantK l k) s = wantK l k ++ [s] from if_neg hin] at h1
          have h2 := HNVE.out
          simp at h1
          omega
        rw [hE]
        clear hE hin
        go_wp2
        go_roundw
        case rel => exact ⟨k + 1, _, _, by omega, by go_num, rfl, HK4.out, HR4.out, HBW4.out, HS4.out⟩
        case measure => simp [intOf]; omega
    · --S6
      have hk2 : k = n := by omega
      have HWE : Hid (wantK l k = wantK l n) := by show _ = _; rw [hk2]
      have HRE : Hid (Kd.string.R 9 wr w.heap.size (fun j => ¬ S j) (.slice Av nv cv) (wantK l k)) := HR.out
      have HNL : Hid (nv = (wantK l k).length) := HNVE.out
      clear hk2
      go_wp2_with fail
      refine (names_any S k g _ _ HK.out (by omega)).mono ?_
      rintro e w5 ⟨v5, rfl, r5, b5⟩
      obtain ⟨A5, c5, e5⟩ := Kd.R_slice r5
      have e5 : v5 = .slice A5 (wantK l k).length c5 := e5
      rw [← HNL.out] at e5
      subst e5
      have hs5 : Ss w5 (.slice A5 nv c5) (wantK l k) := r_ss r5
      have HS5 := Lib.hid hs5
      have HS6 := Lib.hid ((r_ss HRE.out).below b5)
      have HK5 := Lib.hid (HK.out.below b5)
      have HB5 := Lib.hid (HB.out.trans (b5.mono HB.out.size))
      clear r5 b5 hs5
      have hnn : ((nv : Int) != (nv : Int)) = false := by simp
      go_wp2
      clear hnn
      --S7
      obtain ⟨mv, hmv⟩ : ∃ mv, (wantK l k).length = mv := ⟨_, rfl⟩
      rw [hmv] at HS5 HS6 hnk ⊢
      have HMV := Lib.hid hmv
      clear hmv
      go_loopw [9] (fun i wq => ∃ j : Nat, j ≤ mv ∧ i = .int .i64 j ∧ Hid (Below w5.heap.size w5 wq)) (fun i _ => mv - (intOf i).toNat)
      case atStart => exact ⟨0, by omega, rfl, Below.refl _ _⟩
      case round =>
        obtain ⟨j, hj, rfl, HQ⟩ := hrel
        by_cases l2 : j < mv
        · have hjl : j < (wantK l k).length := by rw [HMV.out]; exact l2
          obtain ⟨Ax, cx, ex, _, _, hcel⟩ := HS5.out.below HQ.out
          injection ex with ex1 ex2 ex3
          subst ex1
          obtain ⟨ad1, ead, hc1⟩ := hcel (by omega)
          subst ead
          have r1 := hc1 j hjl
          obtain ⟨Ay, cy, ey, _, _, hcel2⟩ := HS6.out.below HQ.out
          injection ey with ey1 ey2 ey3
          subst ey1
          obtain ⟨ad2, ead, hc2⟩ := hcel2 (by omega)
          subst ead
          have r2 := hc2 j hjl
          clear hcel hcel2 hc1 hc2 ex2 ex3 ey2 ey3 hjl
          generalize (wantK l k).getD j ByteArray.empty = sd at r1 r2
          have hsd : (sd.toList != sd.toList) = false := by simp
          go_wp2
          go_quiet (fail)
          have HN5 : Hid (Below w5.heap.size w5 (wr.drewN nq)) := pw_below_drewN HQ.out _
          go_wp2
          go_roundw
          case rel => exact ⟨j + 1, by omega, by go_num, HN5.out⟩
          case measure => simp [intOf]; omega
        · have hj2 : j = mv := by omega
          clear hj2
          go_wp2_with fail
          --S8
          refine (all_any S k g _ _ (HK5.out.below HQ.out) (by omega) (fun _ _ h => by cases h)).mono ?_
          rintro e w7 ⟨v7, l7, rfl, ha7, r7, b7⟩
          have hl7 : l7 = [] := allOf_nil (fun _ => rfl) ha7
          subst hl7
          obtain ⟨A7, c7, e7⟩ := r7.slice
          have e7 : v7 = .slice A7 0 c7 := e7
          subst e7
          have HB7 : Hid (Below w.heap.size w w7) := (HB5.out.trans (HQ.out.mono HB5.out.size)).trans (b7.mono (Nat.le_trans HB5.out.size HQ.out.size))
          clear ha7 r7 b7
          go_wp2_with fail
          refine (awake_any _).mono ?_
          rintro e wv ⟨rfl, bs⟩
          have HH := Lib.hid (HB7.out.trans (bs.mono HB7.out.size))
          clear bs
          go_wp2
          go_ret
          exact ⟨rfl, HH.out⟩
--END WALK
end Go.Proofs.Ytinonkakpgiblaa.Nam
