/- bellowslaw13.few (walk). -/
import Derived.Test.YtifbkojapfighaaGrNewKit
import Derived.Test.YtifbkojapfighaaStoreRow
namespace Go.Proofs.Ytifbkojapfighaa.Gr
open Go.RowKit Go.Proofs.YtifbkojapfighaaW.PrintWords Go.Proofs.YtifbkojapfighaaW.PrintLast Go.Proofs.Ytifbkojapfighaa.Base Go.Maps
set_option linter.unusedVariables false
set_option linter.unusedSimpArgs false

theorem sum_le {α β : Type} (f : α → List β) (c : Nat) (l : List α) (h : ∀ x ∈ l, (f x).length ≤ c) : ((l.map f).flatten).length ≤ l.length * c := by
  induction l with
  | nil => simp
  | cons a l ih =>
    have h1 := ih fun x hx => h x (.tail _ hx)
    have h2 := h a (.head _)
    simp only [List.map_cons, List.flatten_cons, List.length_append, List.length_cons, Nat.add_mul]
    omega
/-- All names of an edge. -/
def namesE (e : EdgeV) : List ByteArray := e.outs ++ e.ins ++ e.imp ++ e.ord
structure FewE (e : EdgeV) : Prop where
  outs : e.outs.length ≤ 10
  ins : e.ins.length ≤ 10
  imp : e.imp.length ≤ 10
  ord : e.ord.length ≤ 10
  cmd : e.cmd.size ≤ 300
  dep : e.dep.size ≤ 200
structure FewM (m : ManV) : Prop where
  edges : m.edges.length ≤ 30
  defs : m.defs.length ≤ 20
  each : ∀ e ∈ m.edges, FewE e
  size : ∀ e ∈ m.edges, ∀ s ∈ namesE e, s.size ≤ 200
  dsize : ∀ s ∈ m.defs, s.size ≤ 200
def fewL (m : ManV) (k : Nat) : List ByteArray := m.defs ++ ((m.edges.take k).map namesE).flatten
theorem fewL_snoc (m : ManV) (k : Nat) (h : k < m.edges.length) : fewL m (k + 1) = fewL m k ++ (m.edges.getD k zedge).outs ++ (m.edges.getD k zedge).ins ++ (m.edges.getD k zedge).imp ++ (m.edges.getD k zedge).ord := by
  unfold fewL
  rw [(take_at m.edges zedge k h).1, List.map_append, List.flatten_append]
  simp [namesE]
theorem fewL_len (m : ManV) (k : Nat) (hd : m.defs.length ≤ 20) (h : ∀ e ∈ m.edges.take k, FewE e) : (fewL m k).length ≤ 20 + k * 40 := by
  have h1 := sum_le namesE 40 (m.edges.take k) fun e he => by
    obtain ⟨a, b, c, d, _, _⟩ := h e he
    unfold namesE
    simp only [List.length_append]
    omega
  have h2 : (m.edges.take k).length * 40 ≤ k * 40 := Nat.mul_le_mul_right _ (by rw [List.length_take]; omega)
  unfold fewL
  rw [List.length_append]
  omega
--BEGIN WALK
set_option maxHeartbeats 3200000 in
theorem few_any (v : Value) (m : ManV) (w : World) (ve vd : Value) (hv : v = .agg #[ve, vd]) (hE : Ez w ve m.edges) (hD : Ss w vd m.defs) :
    Calls Try.prog 10 #[v] w fun e w' => (e = .returned (.bool false) ∨ (e = .returned (.bool true) ∧ FewM m)) ∧ Below w.heap.size w w' := by
  subst hv
  obtain ⟨Ae, ce, rfl, hce, hme⟩ := hE.len
  obtain ⟨n, hn⟩ : ∃ n, n = m.edges.length := ⟨_, rfl⟩
  rw [← hn] at hce hme hE ⊢
  obtain ⟨Ad, cd, rfl, hcd, hmd⟩ := ss_len hD
  obtain ⟨nd, hnd⟩ : ∃ nd, nd = m.defs.length := ⟨_, rfl⟩
  rw [← hnd] at hcd hmd hD ⊢
  have HE := Lib.hid hE
  have HD := Lib.hid hD
  have HN := Lib.hid hn
  have HND := Lib.hid hnd
  clear hE hD hn hnd
  by_cases t1 : n ≤ 30
  case neg =>
    have b1 : decide ((30 : Int) < (n : Int)) = true := decide_eq_true (by omega)
    go_enter Try.func10, Try.ntmps10
    go_wp2
    go_ret
    exact ⟨.inl rfl, below_alloc (Below.refl _ _) _⟩
  by_cases t2 : nd ≤ 20
  case neg =>
    have b1 : decide ((30 : Int) < (n : Int)) = false := decide_eq_false (by omega)
    have b2 : decide ((20 : Int) < (nd : Int)) = true := decide_eq_true (by omega)
    go_enter Try.func10, Try.ntmps10
    go_wp2
    go_ret
    exact ⟨.inl rfl, below_alloc (Below.refl _ _) _⟩
  have b1 : decide ((30 : Int) < (n : Int)) = false := decide_eq_false (by omega)
  have b2 : decide ((20 : Int) < (nd : Int)) = false := decide_eq_false (by omega)
  obtain ⟨x, hx⟩ : ∃ x, w.heap.size = x := ⟨_, rfl⟩
  obtain ⟨w1, hw1⟩ : ∃ w1, w1 = w.alloc (.cells #[.slice Ae n ce, .slice Ad nd cd] 25) := ⟨_, rfl⟩
  have hb1 : Below w.heap.size w w1 := by rw [hw1]; exact below_alloc (Below.refl _ _) _
  have hX : w1.heap[x]? = some (.cells #[.slice Ae n ce, .slice Ad nd cd] 25 (0, 0)) := by rw [hw1, ← hx]; exact blk_new w _
  have HX := Lib.hid hX
  have HB1 := Lib.hid hb1
  have HW := Lib.hid hw1
  have q0 := (show w1.cell? ⟨x, 0, none⟩ = some (.slice Ae n ce) from blk_cell hX 0)
  have q1 := (show w1.cell? ⟨x, 1, none⟩ = some (.slice Ad nd cd) from blk_cell hX 1)
  have q2 : (w1.alloc (.cells #[] 9)).cell? ⟨x, 1, none⟩ = some (.slice Ad nd cd) := pw_cell_below (below_alloc (Below.refl _ _) _) q1
  clear hb1 hX hw1
  go_enter Try.func10, Try.ntmps10
  go_upto_region 1 with (fail)
  rw [← HW.out]
  try rw [hx]
  clear hx
  go_wp2_with (at_builtin; refine Held.of ?_)
  clear b1 b2 q0 q1 q2
  have HB2 : Hid (Below w1.heap.size w1 (w1.alloc (.cells #[] 9))) := below_alloc (Below.refl _ _) _
  have HR2 : Hid (Kd.string.R 9 (w1.alloc (.cells #[] 9)) w1.heap.size (fun _ => True) (.slice (some ⟨w1.heap.size, 0, none⟩) 0 0) []) := str_nil w1 _ (Nat.le_refl _) _ trivial
  have HE1 := Lib.hid (HE.out.below HB1.out)
  have HD1 := Lib.hid (HD.out.below HB1.out)
  have HXS : Hid (x < w1.heap.size) := blk_lt HX.out
  refine Held.out (Kd.R_append_row Value.string ByteArray.empty (h1 := fun _ => rfl) (w0 := w1) w1.heap.size rfl (.tmp 17) (.tmp 19) 23 9 (.string ⟨#[]⟩) 16 rfl Try.underlying23 (by kernel_rfl) rfl (by decide) (.slice (some ⟨w1.heap.size, 0, none⟩) 0 0) [] m.defs Ad nd cd (fun _ => True) rfl rfl (fun _ _ => trivial) HR2.out (ss_C (HD1.out.below HB2.out)) HB2.out HB2.out.size (by have h2 := HND.out; simp only [List.length_nil]; omega) ?_)
  intro v3 w3 r3 b3 _ _
  have HK3 : Hid (Kd.string.R 9 w3 w1.heap.size (fun _ => True) v3 (fewL m 0)) := by
    have e : fewL m 0 = [] ++ m.defs := by simp [fewL]
    show Kd.string.R _ _ _ _ _ _
    rw [e]
    exact r3
  have HB3 := Lib.hid b3
  clear r3 b3 HR2 HB2
  go_wp2
  go_loopw [3, 4] (fun l i wr => ∃ k : Nat, k ≤ n ∧ i = .int .i64 k ∧ Hid (Kd.string.R 9 wr w1.heap.size (fun _ => True) l (fewL m k)) ∧ Hid (Below w1.heap.size w1 wr) ∧ Hid (∀ e ∈ m.edges.take k, FewE e)) (fun _ i _ => n - (intOf i).toNat)
  case atStart => exact ⟨0, by omega, rfl, HK3.out, HB3.out, fun e he => by cases he⟩
  case round =>
    clear HK3 HB3
    obtain ⟨k, hk, rfl, HK, HB, HF⟩ := hrel
    obtain ⟨As, cs, evs⟩ := Kd.R_slice HK.out
    obtain ⟨ns, hns⟩ : ∃ ns, ns = (fewL m k).length := ⟨_, rfl⟩
    rw [← hns] at evs
    subst evs
    have HNS := Lib.hid hns
    have q0 := (show wr.cell? ⟨x, 0, none⟩ = some (.slice Ae n ce) from blk_cell ((HB.out.block x HXS.out).trans HX.out) 0)
    clear hns
    by_cases l1 : k < n
    · have hkl : k < m.edges.length := by rw [← HN.out]; exact l1
      obtain ⟨ad, vo, vi, vm, vr, e1, p0', p1', p2', p3', p4', p5', hec⟩ := HE1.out.get k hkl
      subst e1
      have p0 := pw_cell_below HB.out p0'
      have p1 := pw_cell_below HB.out p1'
      have p2 := pw_cell_below HB.out p2'
      have p3 := pw_cell_below HB.out p3'
      have p4 := pw_cell_below HB.out p4'
      have p5 := pw_cell_below HB.out p5'
      clear p0' p1' p2' p3' p4' p5'
      have HTE := Lib.hid (take_at m.edges zedge k hkl)
      have HSN := Lib.hid (fewL_snoc m k hkl)
      have HLE := Lib.hid (fewL_len m k (by rw [← HND.out]; exact t2) HF.out)
      clear hkl
      generalize m.edges.getD k zedge = e at p4 p5 hec HTE HSN
      obtain ⟨y, hy⟩ : ∃ y, wr.heap.size = y := ⟨_, rfl⟩
      obtain ⟨Ao, co, rfl, _, hmo⟩ := ss_len hec.1
      obtain ⟨Ai, ci, rfl, _, hmi⟩ := ss_len hec.2.1
      obtain ⟨Am, cm, rfl, _, hmm⟩ := ss_len hec.2.2.1
      obtain ⟨Ar, cr, rfl, _, hmr⟩ := ss_len hec.2.2.2
      obtain ⟨no, hno⟩ : ∃ no, no = e.outs.length := ⟨_, rfl⟩
      obtain ⟨ni, hni⟩ : ∃ ni, ni = e.ins.length := ⟨_, rfl⟩
      obtain ⟨nm, hnm⟩ : ∃ nm, nm = e.imp.length := ⟨_, rfl⟩
      obtain ⟨nr, hnr⟩ : ∃ nr, nr = e.ord.length := ⟨_, rfl⟩
      obtain ⟨so, si, sm, sr⟩ := hec
      rw [← hno] at p0 so hmo
      rw [← hni] at p1 si hmi
      rw [← hnm] at p2 sm hmm
      rw [← hnr] at p3 sr hmr
      have SO := Lib.hid so
      have SI := Lib.hid si
      have SM := Lib.hid sm
      have SR := Lib.hid sr
      have HNO := Lib.hid hno
      have HNI := Lib.hid hni
      have HNM := Lib.hid hnm
      have HNR := Lib.hid hnr
      clear so si sm sr hno hni hnm hnr
      obtain ⟨w4, hw4⟩ : ∃ w4, w4 = wr.alloc (.cells #[.slice Ao no co, .slice Ai ni ci, .slice Am nm cm, .slice Ar nr cr, .string e.cmd, .string e.dep] 46) := ⟨_, rfl⟩
      have hb4 : Below wr.heap.size wr w4 := by rw [hw4]; exact below_alloc (Below.refl _ _) _
      have XE : Hid (w4.heap[y]? = some (.cells #[.slice Ao no co, .slice Ai ni ci, .slice Am nm cm, .slice Ar nr cr, .string e.cmd, .string e.dep] 46 (0, 0))) := by show _ = _; rw [hw4, ← hy]; exact blk_new wr _
      have HK4 := Lib.hid (Kd.R_below HK.out hb4)
      have HB4 := Lib.hid (HB.out.trans (hb4.mono HB.out.size))
      have HW4 := Lib.hid hw4
      clear hb4 hw4
      go_upto_region 8 with (fail)
      rw [← HW4.out]
      try rw [hy]
      clear hy p0 p1 p2 p3 p4 p5 q0
      have E0 := (show w4.cell? ⟨y, 0, none⟩ = some (.slice Ao no co) from blk_cell XE.out 0)
      have E1 := (show w4.cell? ⟨y, 1, none⟩ = some (.slice Ai ni ci) from blk_cell XE.out 1)
      have E2 := (show w4.cell? ⟨y, 2, none⟩ = some (.slice Am nm cm) from blk_cell XE.out 2)
      have E3 := (show w4.cell? ⟨y, 3, none⟩ = some (.slice Ar nr cr) from blk_cell XE.out 3)
      have E4 := (show w4.cell? ⟨y, 4, none⟩ = some (.string e.cmd) from blk_cell XE.out 4)
      have E5 := (show w4.cell? ⟨y, 5, none⟩ = some (.string e.dep) from blk_cell XE.out 5)
      by_cases u0 : no ≤ 10
      case neg =>
        have c0 : decide ((10 : Int) < (no : Int)) = true := decide_eq_true (by omega)
        go_wp2
        go_ret
        exact ⟨.inl rfl, HB1.out.trans (HB4.out.mono HB1.out.size)⟩
      by_cases u1 : ni ≤ 10
      case neg =>
        have c0 : decide ((10 : Int) < (no : Int)) = false := decide_eq_false (by omega)
        have c1 : decide ((10 : Int) < (ni : Int)) = true := decide_eq_true (by omega)
        go_wp2
        go_ret
        exact ⟨.inl rfl, HB1.out.trans (HB4.out.mono HB1.out.size)⟩
      by_cases u2 : nm ≤ 10
      case neg =>
        have c0 : decide ((10 : Int) < (no : Int)) = false := decide_eq_false (by omega)
        have c1 : decide ((10 : Int) < (ni : Int)) = false := decide_eq_false (by omega)
        have c2 : decide ((10 : Int) < (nm : Int)) = true := decide_eq_true (by omega)
        go_wp2
        go_ret
        exact ⟨.inl rfl, HB1.out.trans (HB4.out.mono HB1.out.size)⟩
      by_cases u3 : nr ≤ 10
      case neg =>
        have c0 : decide ((10 : Int) < (no : Int)) = false := decide_eq_false (by omega)
        have c1 : decide ((10 : Int) < (ni : Int)) = false := decide_eq_false (by omega)
        have c2 : decide ((10 : Int) < (nm : Int)) = false := decide_eq_false (by omega)
        have c3 : decide ((10 : Int) < (nr : Int)) = true := decide_eq_true (by omega)
        go_wp2
        go_ret
        exact ⟨.inl rfl, HB1.out.trans (HB4.out.mono HB1.out.size)⟩
      by_cases u4 : e.cmd.size ≤ 300
      case neg =>
        have c0 : decide ((10 : Int) < (no : Int)) = false := decide_eq_false (by omega)
        have c1 : decide ((10 : Int) < (ni : Int)) = false := decide_eq_false (by omega)
        have c2 : decide ((10 : Int) < (nm : Int)) = false := decide_eq_false (by omega)
        have c3 : decide ((10 : Int) < (nr : Int)) = false := decide_eq_false (by omega)
        have c4 : decide ((300 : Int) < (e.cmd.size : Int)) = true := decide_eq_true (by omega)
        go_wp2
        go_ret
        exact ⟨.inl rfl, HB1.out.trans (HB4.out.mono HB1.out.size)⟩
      by_cases u5 : e.dep.size ≤ 200
      case neg =>
        have c0 : decide ((10 : Int) < (no : Int)) = false := decide_eq_false (by omega)
        have c1 : decide ((10 : Int) < (ni : Int)) = false := decide_eq_false (by omega)
        have c2 : decide ((10 : Int) < (nm : Int)) = false := decide_eq_false (by omega)
        have c3 : decide ((10 : Int) < (nr : Int)) = false := decide_eq_false (by omega)
        have c4 : decide ((300 : Int) < (e.cmd.size : Int)) = false := decide_eq_false (by omega)
        have c5 : decide ((200 : Int) < (e.dep.size : Int)) = true := decide_eq_true (by omega)
        go_wp2
        go_ret
        exact ⟨.inl rfl, HB1.out.trans (HB4.out.mono HB1.out.size)⟩
      have c0 : decide ((10 : Int) < (no : Int)) = false := decide_eq_false (by omega)
      have c1 : decide ((10 : Int) < (ni : Int)) = false := decide_eq_false (by omega)
      have c2 : decide ((10 : Int) < (nm : Int)) = false := decide_eq_false (by omega)
      have c3 : decide ((10 : Int) < (nr : Int)) = false := decide_eq_false (by omega)
      have c4 : decide ((300 : Int) < (e.cmd.size : Int)) = false := decide_eq_false (by omega)
      have c5 : decide ((200 : Int) < (e.dep.size : Int)) = false := decide_eq_false (by omega)
      have HFE : Hid (∀ e' ∈ m.edges.take (k + 1), FewE e') := fun e' he => by
        rw [HTE.out.1] at he
        rcases List.mem_append.1 he with he | he
        · exact HF.out e' he
        · rw [List.mem_singleton.1 he]
          exact ⟨by rw [← HNO.out]; exact u0, by rw [← HNI.out]; exact u1, by rw [← HNM.out]; exact u2, by rw [← HNR.out]; exact u3, u4, u5⟩
      have HNL : Hid (ns ≤ 20 + k * 40) := by show _ ≤ _; rw [HNS.out]; exact HLE.out
      go_wp2
      clear c0 c1 c2 c3 c4 c5 E4 E5
      --S1
      refine start_ (n := 14) (S := fun w' => w'.heap[y]? = some (.cells #[.slice Ao no co, .slice Ai ni ci, .slice Am nm cm, .slice Ar nr cr, .string e.cmd, .string e.dep] 46 (0, 0)) ∧ w'.cell? ⟨y, 0, none⟩ = some (.slice Ao no co) ∧ w'.cell? ⟨y, 1, none⟩ = some (.slice Ai ni ci) ∧ w'.cell? ⟨y, 2, none⟩ = some (.slice Am nm cm) ∧ w'.cell? ⟨y, 3, none⟩ = some (.slice Ar nr cr)) (ds := []) #[false, false, false, false, false, false, false, false, false, false, false, false, false, false] (by kernel_rfl) rfl rfl ⟨XE.out, (blk_cell XE.out 0), (blk_cell XE.out 1), (blk_cell XE.out 2), (blk_cell XE.out 3)⟩ (fun hHeld => ?_)
      refine pure_ (i := 0) (N := some 67) (v := ?_) (a' := ?_) #[true, false, false, false, false, false, false, false, false, false, false, false, false, false] rfl rfl (by kernel_rfl) (fun _ _ _ h => h) (Or.inl ⟨by rfl, ?_⟩) ?_ ?_
      rotate_left
      · intro w'
        go_simp
        with_reducible rfl
      rotate_left
      · simp only [Act.put, List.setIfInBounds_toArray, List.set_cons_zero, List.set_cons_succ, i64_w, i32_w]
        rfl
      refine pure_ (i := 1) (N := some 68) (v := ?_) (a' := ?_) #[true, true, false, false, false, false, false, false, false, false, false, false, false, false] rfl rfl (by kernel_rfl) (fun _ _ _ h => h) (Or.inl ⟨by rfl, ?_⟩) ?_ ?_
      rotate_left
      · intro w'
        go_simp
        with_reducible rfl
      rotate_left
      · simp only [Act.put, List.setIfInBounds_toArray, List.set_cons_zero, List.set_cons_succ, i64_w, i32_w]
        rfl
      refine pure_ (i := 4) (N := some 71) (v := ?_) (a' := ?_) #[true, true, false, false, true, false, false, false, false, false, false, false, false, false] rfl rfl (by kernel_rfl) (fun _ _ _ h => h) (Or.inl ⟨by rfl, ?_⟩) ?_ ?_
      rotate_left
      · intro w'
        go_simp
        with_reducible rfl
      rotate_left
      · simp only [Act.put, List.setIfInBounds_toArray, List.set_cons_zero, List.set_cons_succ, i64_w, i32_w]
        rfl
      refine pure_ (i := 7) (N := some 74) (v := ?_) (a' := ?_) #[true, true, false, false, true, false, false, true, false, false, false, false, false, false] rfl rfl (by kernel_rfl) (fun _ _ _ h => h) (Or.inl ⟨by rfl, ?_⟩) ?_ ?_
      rotate_left
      · intro w'
        go_simp
        with_reducible rfl
      rotate_left
      · simp only [Act.put, List.setIfInBounds_toArray, List.set_cons_zero, List.set_cons_succ, i64_w, i32_w]
        rfl
      refine pure_ (i := 10) (N := some 77) (v := ?_) (a' := ?_) #[true, true, false, false, true, false, false, true, false, false, true, false, false, false] rfl rfl (by kernel_rfl) (fun _ _ _ h => h) (Or.inl ⟨by rfl, ?_⟩) ?_ ?_
      rotate_left
      · intro w'
        go_simp
        with_reducible rfl
      rotate_left
      · simp only [Act.put, List.setIfInBounds_toArray, List.set_cons_zero, List.set_cons_succ, i64_w, i32_w]
        rfl
      refine take_ (i := 2) (N := some 69) (v := ?_) (a' := ?_) #[true, true, true, false, true, false, false, true, false, false, true, false, false, false] rfl rfl (by kernel_rfl) (fun _ _ _ h => h) (Or.inl ⟨by rfl, ?_⟩) hHeld ?_ ?_
      rotate_left
      · rintro w' ⟨s0, s1, s2, s3, s4⟩
        go_simp
        with_reducible rfl
      rotate_left
      · simp only [Act.put, List.setIfInBounds_toArray, List.set_cons_zero, List.set_cons_succ, i64_w, i32_w]
        rfl
      refine take_ (i := 5) (N := some 72) (v := ?_) (a' := ?_) #[true, true, true, false, true, true, false, true, false, false, true, false, false, false] rfl rfl (by kernel_rfl) (fun _ _ _ h => h) (Or.inl ⟨by rfl, ?_⟩) hHeld ?_ ?_
      rotate_left
      · rintro w' ⟨s0, s1, s2, s3, s4⟩
        go_simp
        with_reducible rfl
      rotate_left
      · simp only [Act.put, List.setIfInBounds_toArray, List.set_cons_zero, List.set_cons_succ, i64_w, i32_w]
        rfl
      refine take_ (i := 8) (N := some 75) (v := ?_) (a' := ?_) #[true, true, true, false, true, true, false, true, true, false, true, false, false, false] rfl rfl (by kernel_rfl) (fun _ _ _ h => h) (Or.inl ⟨by rfl, ?_⟩) hHeld ?_ ?_
      rotate_left
      · rintro w' ⟨s0, s1, s2, s3, s4⟩
        go_simp
        with_reducible rfl
      rotate_left
      · simp only [Act.put, List.setIfInBounds_toArray, List.set_cons_zero, List.set_cons_succ, i64_w, i32_w]
        rfl
      refine take_ (i := 11) (N := some 78) (v := ?_) (a' := ?_) #[true, true, true, false, true, true, false, true, true, false, true, true, false, false] rfl rfl (by kernel_rfl) (fun _ _ _ h => h) (Or.inl ⟨by rfl, ?_⟩) hHeld ?_ ?_
      rotate_left
      · rintro w' ⟨s0, s1, s2, s3, s4⟩
        go_simp
        with_reducible rfl
      rotate_left
      · simp only [Act.put, List.setIfInBounds_toArray, List.set_cons_zero, List.set_cons_succ, i64_w, i32_w]
        rfl
      refine one_ (i := 3) (N := some 70) #[true, true, true, true, true, true, false, true, true, false, true, true, false, false] rfl rfl (by kernel_rfl) (by decide) (fun K hK => ?_)
      refine app_strs_step (w0 := w1) w1.heap.size rfl (.tmp 67) (.tmp 69) rfl (.slice As ns cs) ((fewL m k)) e.outs Ao no co (fun _ => True) rfl rfl (Kd.R_below HK4.out (Below.drew (Below.refl _ _))) (ss_C (SO.out.below (HB4.out.trans ((Below.drew (Below.refl _ _)).mono HB4.out.size)))) (fun _ _ => trivial) (HB4.out.trans ((Below.drew (Below.refl _ _)).mono HB4.out.size)) ((HB4.out.trans ((Below.drew (Below.refl _ _)).mono HB4.out.size))).size (by have h1 := HNL.out; have h2 := HNS.out; have h3 := HNO.out; have h4 := HNI.out; have h5 := HNM.out; have h6 := HNR.out; (try simp only [List.length_append]); omega) ?_
      intro v5 w5 r5 b5 g5
      have X5 : Hid (w5.heap[y]? = some (.cells #[.slice Ao no co, .slice Ai ni ci, .slice Am nm cm, .slice Ar nr cr, .string e.cmd, .string e.dep] 46 (0, 0))) := blk_grown hHeld.1 g5 (Kd.R_ne (Kd.R_below HK4.out (Below.drew (Below.refl _ _))) hHeld.1 (by decide))
      have HR5 := Lib.hid r5
      have HB5 := Lib.hid b5
      obtain ⟨A5, d5, e5⟩ := Kd.R_slice r5
      obtain ⟨n5, hn5⟩ : ∃ q, q = ((fewL m k) ++ e.outs).length := ⟨_, rfl⟩
      rw [← hn5] at e5
      subst e5
      clear r5 b5 g5 hn5
      refine hK.out _ _ ⟨X5.out, (blk_cell X5.out 0), (blk_cell X5.out 1), (blk_cell X5.out 2), (blk_cell X5.out 3)⟩ (fun hHeld => ?_)
      clear hK K
      refine norm_ (a' := ?_) ?_ ?_
      rotate_left
      · show Act.put _ (some 70) _ = _
        simp only [Act.put, List.setIfInBounds_toArray, List.set_cons_zero, List.set_cons_succ, i64_w, i32_w]
        rfl
      refine one_ (i := 6) (N := some 73) #[true, true, true, true, true, true, true, true, true, false, true, true, false, false] rfl rfl (by kernel_rfl) (by decide) (fun K hK => ?_)
      refine app_strs_step (w0 := w1) w1.heap.size rfl (.tmp 70) (.tmp 72) rfl (.slice A5 n5 d5) ((fewL m k) ++ e.outs) e.ins Ai ni ci (fun _ => True) rfl rfl HR5.out (ss_C (SI.out.below HB5.out)) (fun _ _ => trivial) HB5.out (HB5.out).size (by have h1 := HNL.out; have h2 := HNS.out; have h3 := HNO.out; have h4 := HNI.out; have h5 := HNM.out; have h6 := HNR.out; (try simp only [List.length_append]); omega) ?_
      intro v6 w6 r6 b6 g6
      have X6 : Hid (w6.heap[y]? = some (.cells #[.slice Ao no co, .slice Ai ni ci, .slice Am nm cm, .slice Ar nr cr, .string e.cmd, .string e.dep] 46 (0, 0))) := blk_grown hHeld.1 g6 (Kd.R_ne HR5.out hHeld.1 (by decide))
      have HR6 := Lib.hid r6
      have HB6 := Lib.hid b6
      obtain ⟨A6, d6, e6⟩ := Kd.R_slice r6
      obtain ⟨n6, hn6⟩ : ∃ q, q = ((fewL m k) ++ e.outs ++ e.ins).length := ⟨_, rfl⟩
      rw [← hn6] at e6
      subst e6
      clear r6 b6 g6 hn6
      refine hK.out _ _ ⟨X6.out, (blk_cell X6.out 0), (blk_cell X6.out 1), (blk_cell X6.out 2), (blk_cell X6.out 3)⟩ (fun hHeld => ?_)
      clear hK K
      refine norm_ (a' := ?_) ?_ ?_
      rotate_left
      · show Act.put _ (some 73) _ = _
        simp only [Act.put, List.setIfInBounds_toArray, List.set_cons_zero, List.set_cons_succ, i64_w, i32_w]
        rfl
      refine one_ (i := 9) (N := some 76) #[true, true, true, true, true, true, true, true, true, true, true, true, false, false] rfl rfl (by kernel_rfl) (by decide) (fun K hK => ?_)
      refine app_strs_step (w0 := w1) w1.heap.size rfl (.tmp 73) (.tmp 75) rfl (.slice A6 n6 d6) ((fewL m k) ++ e.outs ++ e.ins) e.imp Am nm cm (fun _ => True) rfl rfl HR6.out (ss_C (SM.out.below HB6.out)) (fun _ _ => trivial) HB6.out (HB6.out).size (by have h1 := HNL.out; have h2 := HNS.out; have h3 := HNO.out; have h4 := HNI.out; have h5 := HNM.out; have h6 := HNR.out; (try simp only [List.length_append]); omega) ?_
      intro v7 w7 r7 b7 g7
      have X7 : Hid (w7.heap[y]? = some (.cells #[.slice Ao no co, .slice Ai ni ci, .slice Am nm cm, .slice Ar nr cr, .string e.cmd, .string e.dep] 46 (0, 0))) := blk_grown hHeld.1 g7 (Kd.R_ne HR6.out hHeld.1 (by decide))
      have HR7 := Lib.hid r7
      have HB7 := Lib.hid b7
      obtain ⟨A7, d7, e7⟩ := Kd.R_slice r7
      obtain ⟨n7, hn7⟩ : ∃ q, q = ((fewL m k) ++ e.outs ++ e.ins ++ e.imp).length := ⟨_, rfl⟩
      rw [← hn7] at e7
      subst e7
      clear r7 b7 g7 hn7
      refine hK.out _ _ ⟨X7.out, (blk_cell X7.out 0), (blk_cell X7.out 1), (blk_cell X7.out 2), (blk_cell X7.out 3)⟩ (fun hHeld => ?_)
      clear hK K
      refine norm_ (a' := ?_) ?_ ?_
      rotate_left
      · show Act.put _ (some 76) _ = _
        simp only [Act.put, List.setIfInBounds_toArray, List.set_cons_zero, List.set_cons_succ, i64_w, i32_w]
        rfl
      refine one_ (i := 12) (N := some 79) #[true, true, true, true, true, true, true, true, true, true, true, true, true, false] rfl rfl (by kernel_rfl) (by decide) (fun K hK => ?_)
      refine app_strs_step (w0 := w1) w1.heap.size rfl (.tmp 76) (.tmp 78) rfl (.slice A7 n7 d7) ((fewL m k) ++ e.outs ++ e.ins ++ e.imp) e.ord Ar nr cr (fun _ => True) rfl rfl HR7.out (ss_C (SR.out.below HB7.out)) (fun _ _ => trivial) HB7.out (HB7.out).size (by have h1 := HNL.out; have h2 := HNS.out; have h3 := HNO.out; have h4 := HNI.out; have h5 := HNM.out; have h6 := HNR.out; (try simp only [List.length_append]); omega) ?_
      intro v8 w8 r8 b8 g8
      have X8 : Hid (w8.heap[y]? = some (.cells #[.slice Ao no co, .slice Ai ni ci, .slice Am nm cm, .slice Ar nr cr, .string e.cmd, .string e.dep] 46 (0, 0))) := blk_grown hHeld.1 g8 (Kd.R_ne HR7.out hHeld.1 (by decide))
      have HR8 := Lib.hid r8
      have HB8 := Lib.hid b8
      obtain ⟨A8, d8, e8⟩ := Kd.R_slice r8
      obtain ⟨n8, hn8⟩ : ∃ q, q = ((fewL m k) ++ e.outs ++ e.ins ++ e.imp ++ e.ord).length := ⟨_, rfl⟩
      rw [← hn8] at e8
      subst e8
      clear r8 b8 g8 hn8
      refine hK.out _ _ ⟨X8.out, (blk_cell X8.out 0), (blk_cell X8.out 1), (blk_cell X8.out 2), (blk_cell X8.out 3)⟩ (fun hHeld => ?_)
      clear hK K
      refine norm_ (a' := ?_) ?_ ?_
      rotate_left
      · show Act.put _ (some 79) _ = _
        simp only [Act.put, List.setIfInBounds_toArray, List.set_cons_zero, List.set_cons_succ, i64_w, i32_w]
        rfl
      refine pure_ (i := 13) (N := some 3) (v := ?_) (a' := ?_) #[true, true, true, true, true, true, true, true, true, true, true, true, true, true] rfl rfl (by kernel_rfl) (fun _ _ _ h => h) (Or.inl ⟨by rfl, ?_⟩) ?_ ?_
      rotate_left
      · intro w'
        go_simp
        with_reducible rfl
      rotate_left
      · simp only [Act.put, List.setIfInBounds_toArray, List.set_cons_zero, List.set_cons_succ, i64_w, i32_w]
        rfl
      refine done_ (by kernel_rfl) ?_
      --S2
      have HR9 : Hid (Kd.string.R 9 w8 w1.heap.size (fun _ => True) (.slice A8 n8 d8) (fewL m (k + 1))) := by show Kd.string.R _ _ _ _ _ _; rw [HSN.out]; exact HR8.out
      clear hHeld HR5 HR6 HR7 HB5 HB6 HB7 X5 X6 X7 X8 HK4 HB4 E0 E1 E2 E3
      go_wp2
      go_roundw
      case rel => exact ⟨k + 1, by omega, by go_num, HR9.out, HB8.out, HFE.out⟩
      case measure => simp [intOf]; omega
    · have hk2 : k = n := by omega
      have htk : m.edges.take k = m.edges := by rw [hk2, HN.out, List.take_length]
      have HFA : Hid (∀ e ∈ m.edges, FewE e) := by have h := HF.out; rw [htk] at h; exact h
      have HLE := Lib.hid (fewL_len m k (by rw [← HND.out]; exact t2) HF.out)
      have HNL : Hid (ns ≤ 2000) := by show _ ≤ _; rw [HNS.out]; exact Nat.le_trans HLE.out (by omega)
      have HSS := Lib.hid (r_ss HK.out)
      have HLM : Hid (fewL m k = m.defs ++ (m.edges.map namesE).flatten) := by show _ = _; unfold fewL; rw [htk]
      obtain ⟨w5, hw5⟩ : ∃ w5, w5 = wr := ⟨_, rfl⟩
      subst hw5
      clear hk2 htk HF HLE HK
      go_wp2
      clear l1 hk q0
      --S3
      go_loopw [6] (fun i wr => ∃ j : Nat, j ≤ ns ∧ i = .int .i64 j ∧ wr = w5 ∧ Hid (∀ z, z < j → ((fewL m k).getD z ByteArray.empty).size ≤ 200)) (fun i _ => ns - (intOf i).toNat)
      case atStart => exact ⟨0, by omega, rfl, rfl, fun z hz => absurd hz (Nat.not_lt_zero _)⟩
      case round =>
        obtain ⟨j, hj, rfl, hwr, HZ⟩ := hrel
        have hwr := hwr.symm
        subst hwr
        have hns6 : ns ≤ 2000 := HNL.out
        by_cases l1 : j < ns
        · obtain ⟨Ax, cx, ex, _, _, hcel⟩ := HSS.out
          injection ex with ex1 ex2 ex3
          subst ex1
          obtain ⟨ad, ead, hcell⟩ := hcel (by have := HNS.out; omega)
          subst ead
          have q := hcell j (by have := HNS.out; omega)
          obtain ⟨s, hs⟩ : ∃ s, s = (fewL m k).getD j ByteArray.empty := ⟨_, rfl⟩
          rw [← hs] at q
          have HSJ := Lib.hid hs
          clear hs hcel hcell ex2 ex3
          by_cases u : s.size ≤ 200
          · have c : decide ((200 : Int) < (s.size : Int)) = false := decide_eq_false (by omega)
            have HZ2 : Hid (∀ z, z < j + 1 → ((fewL m k).getD z ByteArray.empty).size ≤ 200) := fun z hz => by
              rcases Nat.lt_succ_iff_lt_or_eq.1 hz with h | h
              · exact HZ.out z h
              · rw [h, ← HSJ.out]; exact u
            clear u
            go_wp2
            go_roundw
            case rel => exact ⟨j + 1, by omega, by go_num, trivial, HZ2.out⟩
            case measure => simp [intOf]; omega
          · have c : decide ((200 : Int) < (s.size : Int)) = true := decide_eq_true (by omega)
            clear u
            go_wp2
            go_ret
            exact ⟨.inl rfl, HB1.out.trans (HB.out.mono HB1.out.size)⟩
        · have hj2 : j = ns := by omega
          have HFM : Hid (FewM m) := by
            have hall : ∀ s ∈ fewL m k, s.size ≤ 200 := fun s hs => by
              obtain ⟨z, hz, e⟩ := List.mem_iff_getElem.1 hs
              have h := HZ.out z (by rw [hj2, HNS.out]; exact hz)
              rw [List.getD_eq_getElem?_getD, List.getElem?_eq_getElem hz] at h
              rw [← e]; exact h
            rw [HLM.out] at hall
            refine ⟨by rw [← HN.out]; exact t1, by rw [← HND.out]; exact t2, HFA.out, fun e he s hs => hall s (List.mem_append_right _ (List.mem_flatten.2 ⟨_, List.mem_map_of_mem he, hs⟩)), fun s hs => hall s (List.mem_append_left _ hs)⟩
          clear hj2 HZ
          go_wp2
          go_ret
          exact ⟨.inr ⟨rfl, HFM.out⟩, HB1.out.trans (HB.out.mono HB1.out.size)⟩
--END WALK
end Go.Proofs.Ytifbkojapfighaa.Gr
