/- slices.Clone and slices.Equal at inputs and at numbers (walks). -/
import Derived.Test.YtehndlafbbpofaaRunFoldPure
import Derived.Test.YtehndlafbbpofaaPackWalk
namespace Go.Proofs.Ytehndlafbbpofaa.Run
open Go.RowKit Go.Proofs.YtehndlafbbpofaaW.PrintWords Go.Proofs.Ytehndlafbbpofaa.Base Go.Proofs.Ytehndlafbbpofaa.Pack
set_option linter.unusedVariables false
set_option linter.unusedSimpArgs false

theorem is_row {w : World} {A : Option Addr} {n c : Nat} {l : List (ByteArray × Int)} (h : Is w (.slice A n c) l) : n = l.length ∧ ReadsRow (fun (p : ByteArray × Int) cs => cs = [Value.string p.1, .int .i64 p.2]) kin.sz w A l.length l := by
  obtain ⟨A', c', e, h2, h3, h4⟩ := h
  cases e
  refine ⟨rfl, rfl, h3, fun hp => ?_⟩
  obtain ⟨ad, e, hc⟩ := h4 hp
  refine ⟨ad, e, fun j p hj => ?_⟩
  obtain ⟨hl, hjp⟩ := List.getElem?_eq_some_iff.1 hj
  have hcj := hc j hl
  have e2 : l.getD j (ByteArray.empty, 0) = p := by rw [List.getD_eq_getElem?_getD, hj]; rfl
  rw [e2] at hcj
  refine ⟨_, rfl, rfl, fun i u hu => ?_⟩
  match i, hu with
  | 0, hu => simp only [List.getElem?_cons_zero, Option.some.injEq] at hu; subst hu; exact hcj.1
  | 1, hu => simp only [List.getElem?_cons_succ, List.getElem?_cons_zero, Option.some.injEq] at hu; subst hu; exact hcj.2
  | i + 2, hu => simp at hu
theorem ri_lit0 (e : TypeId) (W : World) (base : Nat) (hb : base ≤ W.heap.size) : Ri e (W.alloc (.cells #[] e)) base (.slice (some ⟨W.heap.size, 0, none⟩) 0 0) [] :=
  ⟨fun _ _ => trivial, [], by have h := World.ownsRow_lit (base := base) (e := e) (size := 2) W #[] 0 hb (by simp [maxLen]) rfl; exact h, Reps.none _ _⟩
theorem Is.nil (w : World) : Is w (.slice none 0 0) [] := ⟨none, 0, rfl, Nat.le_refl _, by simp, fun h => absurd h (Nat.lt_irrefl 0)⟩
theorem Fs.nil (w : World) : Fs w (.slice none 0 0) [] := ⟨none, 0, rfl, Nat.le_refl _, rfl, by simp, fun h => absurd h (Nat.lt_irrefl 0)⟩

set_option maxHeartbeats 800000 in
theorem clone_ins (v : Value) (l : List (ByteArray × Int)) (w : World) (hv : Is w v l) (hl : l.length ≤ 1000000) :
    Calls Try.prog 58 #[v] w fun e w' => ∃ v', e = .returned v' ∧ Ri 50 w' w.heap.size v' l ∧ Below w.heap.size w w' := by
  obtain ⟨A, c, rfl, hc, hm⟩ := hv.len
  have hn := fun (w : World) (n c : Nat) (a : Option Addr) => Lib.run_eql_slice_nil (P := Try.prog) w 31 50 a n c 0 0 Try.underlying31
  have R := Lib.hid hv
  clear hv
  cases A with
  | none =>
    have hx : l = [] := by
      rcases Nat.eq_zero_or_pos l.length with h | h
      · exact List.eq_nil_of_length_eq_zero h
      · obtain ⟨_, h', _⟩ := R.out.get 0 h
        cases h'
    subst hx
    go_enter Try.func58, Try.ntmps58
    go_wp2
    go_ret
    exact ⟨_, rfl, Kd.R_nil _ _ _ _ _, Below.refl _ _⟩
  | some ad =>
    have HE := Lib.hid (ri_lit0 50 w w.heap.size (Nat.le_refl _))
    have HR := Lib.hid (is_row (R.out.below (below_alloc (Below.refl _ _) (.cells #[] 50)))).2
    go_enter Try.func58, Try.ntmps58
    go_wp2_with (at_builtin; refine Held.of ?_)
    refine Held.out (Kd.R_append_rows kin (w0 := w) w.heap.size rfl (.tmp 5) (.tmp 6) 31 50 (.agg #[.string ⟨#[]⟩, .int .i64 0]) 24 rfl Try.underlying31 (by kernel_rfl) rfl (by decide) (by decide) (.slice (some ⟨w.heap.size, 0, none⟩) 0 0) [] l (some ad) l.length c (fun _ => True) (fun _ => False) rfl rfl HE.out HR.out (fun x cs h => ⟨[_], [_], h, rfl, rfl⟩) (fun _ hk => hk.elim) (fun _ _ => trivial) (below_alloc (Below.refl _ _) _) (below_alloc (Below.refl w.heap.size w) _).size (by simp only [List.length_nil]; omega) ?_)
    intro va w1 r1 b1 _ _
    rw [List.nil_append] at r1
    have HRI := Lib.hid r1
    have HB := Lib.hid b1
    clear r1 b1
    go_wp2
    go_ret
    exact ⟨_, rfl, HRI.out, HB.out⟩
set_option maxHeartbeats 800000 in
theorem clone_ints (v : Value) (l : List Int) (w : World) (hv : Fs w v l) (hl : l.length ≤ 900000) :
    Calls Try.prog 59 #[v] w fun e w' => ∃ v', e = .returned v' ∧ Oi w w' v' l := by
  obtain ⟨A, c, rfl, hc, hm⟩ := hv.len
  have hn := fun (w : World) (n c : Nat) (a : Option Addr) => Lib.run_eql_slice_nil (P := Try.prog) w 23 3 a n c 0 0 Try.underlying23
  have R := Lib.hid hv
  clear hv
  cases A with
  | none =>
    have hx : l = [] := by
      rcases Nat.eq_zero_or_pos l.length with h | h
      · exact List.eq_nil_of_length_eq_zero h
      · obtain ⟨_, _, e, _, hr⟩ := R.out
        cases e
        obtain ⟨_, h', _⟩ := hr.2.2 h
        cases h'
    subst hx
    go_enter Try.func59, Try.ntmps59
    go_wp2
    go_ret
    exact ⟨_, rfl, Oi.nil (Below.refl _ _)⟩
  | some ad =>
    have HE := Lib.hid (Oi.lit (Below.refl w.heap.size w) [] (by simp))
    have HR := Lib.hid (R.out.below (below_alloc (Below.refl _ _) (.cells (nums .i64 []).toArray 3)))
    go_enter Try.func59, Try.ntmps59
    go_wp2_with (at_builtin; refine Held.of ?_)
    refine app_nums rfl (.tmp 5) (.tmp 6) 23 rfl Try.underlying23 (.slice (some ⟨w.heap.size, 0, none⟩) 0 0) _ [] l rfl rfl HE.out HR.out (by simp only [List.length_nil]; omega) ?_
    intro va w1 o1 _
    rw [List.nil_append] at o1
    have HO := Lib.hid o1
    clear o1
    go_wp2
    go_ret
    exact ⟨_, rfl, HO.out⟩

theorem take_ext {α : Type} {l1 l2 : List α} {k : Nat} {d : α} (h : l1.take k = l2.take k) (h1 : k < l1.length) (h2 : k < l2.length) (he : l1.getD k d = l2.getD k d) : l1.take (k + 1) = l2.take (k + 1) := by
  have a1 : l1.take (k + 1) = l1.take k ++ [l1.getD k d] := by rw [List.take_add_one, List.getElem?_eq_getElem h1, List.getD_eq_getElem?_getD, List.getElem?_eq_getElem h1]; rfl
  have a2 : l2.take (k + 1) = l2.take k ++ [l2.getD k d] := by rw [List.take_add_one, List.getElem?_eq_getElem h2, List.getD_eq_getElem?_getD, List.getElem?_eq_getElem h2]; rfl
  rw [a1, a2, h, he]
set_option maxHeartbeats 1600000 in
theorem equal_ints (v1 v2 : Value) (l1 l2 : List Int) (w : World) (h1 : Fs w v1 l1) (h2 : Fs w v2 l2) :
    Calls Try.prog 63 #[v1, v2] w fun e w' => e = .returned (.bool (decide (l1 = l2))) ∧ Below w.heap.size w w' := by
  obtain ⟨A1, c1, rfl, hc1, hm1⟩ := h1.len
  obtain ⟨A2, c2, rfl, hc2, hm2⟩ := h2.len
  have R1 := Lib.hid h1
  have R2 := Lib.hid h2
  clear h1 h2
  by_cases g1 : l1.length = l2.length
  · have R2' := R2
    have g1b : ((l1.length : Int) != (l2.length : Int)) = false := by simp [g1]
    have HG := Lib.hid g1
    obtain ⟨n1, hn1⟩ : ∃ n1, n1 = l1.length := ⟨_, rfl⟩
    obtain ⟨n2, hn2⟩ : ∃ n2, n2 = l2.length := ⟨_, rfl⟩
    rw [← hn1] at g1b R1 hc1 hm1
    rw [← hn2] at g1b R2 hc2 hm2
    rw [← hn1, ← hn2]
    have HN1 := Lib.hid hn1
    have HN2 := Lib.hid hn2
    have hnn : n1 = n2 := by rw [hn1, hn2]; exact g1
    have HNN := Lib.hid hnn
    clear g1 hn1 hn2 hnn R2'
    go_enter Try.func63, Try.ntmps63
    go_wp2
    go_loopw [13] (fun i wr => ∃ k : Nat, k ≤ n1 ∧ i = .int .i64 k ∧ Hid (l1.take k = l2.take k) ∧ Hid (Below w.heap.size w wr)) (fun i _ => n1 - (intOf i).toNat)
    case atStart => exact ⟨0, by omega, rfl, by show _ = _; rw [List.take_zero, List.take_zero], Below.refl _ _⟩
    case round =>
      obtain ⟨k, hk, rfl, HT, HB⟩ := hrel
      by_cases t1 : k < n1
      · have t2 : k < n2 := by have := HNN.out; omega
        obtain ⟨A', c', e', _, hrf⟩ := R1.out
        injection e' with e'1 e'2 e'3
        subst e'1
        obtain ⟨ad1, e1, q1⟩ := at_nat hrf k (by rw [← HN1.out]; exact t1)
        obtain ⟨A', c', e', _, hrf2⟩ := R2.out
        injection e' with e'4 e'5 e'6
        subst e'4
        obtain ⟨ad2, e2, q2⟩ := at_nat hrf2 k (by rw [← HN2.out]; exact t2)
        subst e1
        subst e2
        have p1 := pw_cell_below HB.out q1
        have p2 := pw_cell_below HB.out q2
        obtain ⟨x1, hx1⟩ : ∃ x1, x1 = rd l1 k := ⟨_, rfl⟩
        obtain ⟨x2, hx2⟩ : ∃ x2, x2 = rd l2 k := ⟨_, rfl⟩
        rw [← hx1] at p1
        rw [← hx2] at p2
        have HX1 := Lib.hid hx1
        have HX2 := Lib.hid hx2
        clear q1 q2 hrf hrf2 e'2 e'3 e'5 e'6 hx1 hx2
        by_cases hx : x1 = x2
        · have hb : (x1 != x2) = false := by simp [hx]
          have HT2 : Hid (l1.take (k + 1) = l2.take (k + 1)) := take_ext (d := 0) HT.out (by rw [← HN1.out]; exact t1) (by rw [← HN2.out]; exact t2) (by have h := hx; rw [HX1.out, HX2.out] at h; unfold rd at h; rw [Int.toNat_natCast] at h; exact h)
          clear hx
          go_wp2
          go_quiet (fail)
          go_wp2
          go_roundw
          case rel => exact ⟨k + 1, by omega, by go_num, HT2.out, pw_below_drewN HB.out _⟩
          case measure => simp [intOf]; omega
        · have hb : (x1 != x2) = true := by simp [hx]
          have HNE : Hid (decide (l1 = l2) = false) := decide_eq_false (fun e => hx (by rw [HX1.out, HX2.out, e]))
          clear hx
          go_wp2
          go_quiet (fail)
          go_wp2
          go_ret
          exact ⟨by rw [HNE.out]; rfl, pw_below_drewN HB.out _⟩
      · have HEQ : Hid (decide (l1 = l2) = true) := decide_eq_true (by
          have h := HT.out
          have e : k = n1 := by omega
          rw [List.take_of_length_le (by rw [← HN1.out]; omega), List.take_of_length_le (by rw [← HN2.out, ← HNN.out]; omega)] at h
          exact h)
        go_wp2
        go_ret
        exact ⟨by rw [HEQ.out]; rfl, HB.out⟩
  · have g1b : ((l1.length : Int) != (l2.length : Int)) = true := by simp only [bne_iff_ne, ne_eq]; omega
    have HNE : Hid (decide (l1 = l2) = false) := decide_eq_false (fun e => g1 (by rw [e]))
    clear g1
    go_enter Try.func63, Try.ntmps63
    go_wp2
    go_ret
    exact ⟨by rw [HNE.out]; rfl, Below.refl _ _⟩
set_option maxHeartbeats 1600000 in
theorem equal_ins (v1 v2 : Value) (l1 l2 : List (ByteArray × Int)) (w : World) (h1 : Is w v1 l1) (h2 : Is w v2 l2) :
    Calls Try.prog 62 #[v1, v2] w fun e w' => e = .returned (.bool (decide (l1 = l2))) ∧ Below w.heap.size w w' := by
  obtain ⟨A1, c1, rfl, hc1, hm1⟩ := h1.len
  obtain ⟨A2, c2, rfl, hc2, hm2⟩ := h2.len
  have R1 := Lib.hid h1
  have R2 := Lib.hid h2
  clear h1 h2
  by_cases g1 : l1.length = l2.length
  · have R2' := R2
    have g1b : ((l1.length : Int) != (l2.length : Int)) = false := by simp [g1]
    have HG := Lib.hid g1
    obtain ⟨n1, hn1⟩ : ∃ n1, n1 = l1.length := ⟨_, rfl⟩
    obtain ⟨n2, hn2⟩ : ∃ n2, n2 = l2.length := ⟨_, rfl⟩
    rw [← hn1] at g1b R1 hc1 hm1
    rw [← hn2] at g1b R2 hc2 hm2
    rw [← hn1, ← hn2]
    have HN1 := Lib.hid hn1
    have HN2 := Lib.hid hn2
    have hnn : n1 = n2 := by rw [hn1, hn2]; exact g1
    have HNN := Lib.hid hnn
    clear g1 hn1 hn2 hnn R2'
    go_enter Try.func62, Try.ntmps62
    go_wp2
    go_loopw [13] (fun i wr => ∃ k : Nat, k ≤ n1 ∧ i = .int .i64 k ∧ Hid (l1.take k = l2.take k) ∧ Hid (Below w.heap.size w wr)) (fun i _ => n1 - (intOf i).toNat)
    case atStart => exact ⟨0, by omega, rfl, by show _ = _; rw [List.take_zero, List.take_zero], Below.refl _ _⟩
    case round =>
      obtain ⟨k, hk, rfl, HT, HB⟩ := hrel
      by_cases t1 : k < n1
      · have t2 : k < n2 := by have := HNN.out; omega
        obtain ⟨ad1, e1, q1, z1⟩ := R1.out.get k (by rw [← HN1.out]; exact t1)
        obtain ⟨ad2, e2, q2, z2⟩ := R2.out.get k (by rw [← HN2.out]; exact t2)
        subst e1
        subst e2
        obtain ⟨x1, hx1⟩ : ∃ x1, x1 = l1.getD k (ByteArray.empty, 0) := ⟨_, rfl⟩
        obtain ⟨x2, hx2⟩ : ∃ x2, x2 = l2.getD k (ByteArray.empty, 0) := ⟨_, rfl⟩
        rw [← hx1] at q1 z1
        rw [← hx2] at q2 z2
        have HX1 := Lib.hid hx1
        have HX2 := Lib.hid hx2
        clear hx1 hx2
        obtain ⟨s1, m1⟩ := x1
        obtain ⟨s2, m2⟩ := x2
        simp only at q1 z1 q2 z2
        have p1 := pw_cell_below HB.out q1
        have p2 := pw_cell_below HB.out q2
        have p3 := second_cell (pw_cell_below HB.out z1)
        have p4 := second_cell (pw_cell_below HB.out z2)
        clear q1 q2 z1 z2
        by_cases hx : (s1, m1) = (s2, m2)
        · obtain ⟨rfl, rfl⟩ := Prod.mk.inj hx
          have b1 : (s1.toList == s1.toList) = true := by simp
          have b2 : (m1 == m1) = true := by simp
          have HT2 : Hid (l1.take (k + 1) = l2.take (k + 1)) := take_ext (d := (ByteArray.empty, 0)) HT.out (by rw [← HN1.out]; exact t1) (by rw [← HN2.out]; exact t2) (by rw [← HX1.out, ← HX2.out])
          clear hx
          go_wp2
          go_quiet (fail)
          go_wp2
          go_roundw
          case rel => exact ⟨k + 1, by omega, by go_num, HT2.out, pw_below_drewN HB.out _⟩
          case measure => simp [intOf]; omega
        · have HNE : Hid (decide (l1 = l2) = false) := decide_eq_false (fun e => hx (by rw [HX1.out, HX2.out, e]))
          by_cases hs : s1 = s2
          · subst hs
            have hmm : m1 ≠ m2 := fun e => hx (by rw [e])
            have b1 : (s1.toList == s1.toList) = true := by simp
            have b2 : (m1 == m2) = false := by simp [hmm]
            clear hmm
            clear hx
            go_wp2
            go_quiet (fail)
            go_wp2
            go_ret
            exact ⟨by rw [HNE.out]; rfl, pw_below_drewN HB.out _⟩
          · have b1 : (s1.toList == s2.toList) = false := by rw [str_eq_iff]; exact decide_eq_false hs
            clear hs
            clear hx
            go_wp2
            go_quiet (fail)
            go_wp2
            go_ret
            exact ⟨by rw [HNE.out]; rfl, pw_below_drewN HB.out _⟩
      · have HEQ : Hid (decide (l1 = l2) = true) := decide_eq_true (by
          have h := HT.out
          have e : k = n1 := by omega
          rw [List.take_of_length_le (by rw [← HN1.out]; omega), List.take_of_length_le (by rw [← HN2.out, ← HNN.out]; omega)] at h
          exact h)
        go_wp2
        go_ret
        exact ⟨by rw [HEQ.out]; rfl, HB.out⟩
  · have g1b : ((l1.length : Int) != (l2.length : Int)) = true := by simp only [bne_iff_ne, ne_eq]; omega
    have HNE : Hid (decide (l1 = l2) = false) := decide_eq_false (fun e => g1 (by rw [e]))
    clear g1
    go_enter Try.func62, Try.ntmps62
    go_wp2
    go_ret
    exact ⟨by rw [HNE.out]; rfl, Below.refl _ _⟩
end Go.Proofs.Ytehndlafbbpofaa.Run
