/- Steps on rows of runs; a document's run as the program's, and the other way round (walks). -/
import Derived.Test.YtehndlafbbpofaaRunTimes
import Derived.Test.YtehndlafbbpofaaPackRead
import Derived.Test.YtehndlafbbpofaaStep
import Derived.Test.YtehndlafbbpofaaArgRows
namespace Go.Proofs.Ytehndlafbbpofaa.Run
open Go.RowKit Go.Proofs.YtehndlafbbpofaaW.PrintWords Go.Proofs.YtehndlafbbpofaaW.PrintLast Go.Proofs.Ytehndlafbbpofaa.Base Go.Proofs.Ytehndlafbbpofaa.Pack
set_option linter.unusedVariables false
set_option linter.unusedSimpArgs false

theorem _root_.Go.World.size_alloc' (w : World) (o : Obj) : (w.alloc o).heap.size = w.heap.size + 1 := by simp
section
variable {ops : Array Oper} {o : Oper} {a : Act} {Q : Exit → Act → World → Prop}
theorem run_app_nums {w0 W : World} (t ty : TypeId) (ht : Try.prog.underlying t = some (.slice 3)) (v u : Value) (xs ys : List Int)
    (HO : Oi w0 W v xs) (HR : Fs W u ys) (hl : xs.length + ys.length ≤ 1000000) :
    ∃ v1 w1, (Builtin.append_ #[t, t] ty #[v, u]).run Try.prog W = .ok v1 w1 ∧ Oi w0 w1 v1 (xs ++ ys) ∧ W.grownBy w1 v.ownBlock := by
  obtain ⟨A, c, rfl, hc, HR⟩ := HR
  obtain ⟨i0, hi, hzz⟩ := Option.map_eq_some_iff.1 info_int
  simp only [Prod.mk.injEq] at hzz
  obtain ⟨hz0, hz1, hz2⟩ := hzz
  rcases A with _ | ad
  · have h0 : ys.length = 0 := by
      rcases Nat.eq_zero_or_pos ys.length with h0 | h0
      · exact h0
      · obtain ⟨ad, h, _⟩ := HR.2.2 h0
        cases h
    obtain rfl : ys = [] := List.eq_nil_of_length_eq_zero h0
    refine ⟨v, W, ?_, by simpa using HO, World.grownBy.refl W _⟩
    rcases HO.own.2 with ⟨rfl, hn⟩ | ⟨g, cap, cur, rfl, _, _, hnc, _⟩
    · simp [Builtin.append_, run_underlying ht, sizeOf, typeInfo, hi, Builtin.lenOf, Builtin.firstCells]
    · simp [Builtin.append_, run_underlying ht, sizeOf, typeInfo, hi, Builtin.lenOf, Builtin.firstCells, hnc, storeCells]
  · have hcells : ∀ j u, (nums .i64 ys)[j]? = some u → W.cell? (ad.add j) = some u := by
      intro j u hu
      have hj : j < ys.length := by
        rcases Nat.lt_or_ge j ys.length with h | h
        · exact h
        · simp [nums, List.getElem?_eq_none h] at hu
      obtain ⟨ad', h', hc⟩ := HR.2.2 (by omega)
      obtain rfl : ad = ad' := Option.some.inj h'
      have := hc j (by omega)
      rw [nums, List.getElem?_map, List.getElem?_eq_getElem hj] at hu
      simp only [Option.map_some, Option.some.injEq] at hu
      subst hu
      rw [this]
      simp [List.getD_eq_getElem?_getD, List.getElem?_eq_getElem hj]
    obtain ⟨v1, w1, hr, h2, h3, _, h5⟩ := run_append_own_at (P := Try.prog) W w0.heap.size t ty 3 i0 (.int .i64 0) 1 8 ht hi hz0 hz1 hz2 rfl (by omega) v xs.length (nums .i64 xs) HO.own ad ys.length c (nums .i64 ys) (by simp [nums]) hcells
      (by intro u hu; simp only [nums, List.mem_map] at hu; obtain ⟨q, _, rfl⟩ := hu; rfl) (by simp only [maxLen]; omega) (by omega) HO.below.size
    exact ⟨v1, w1, hr, ⟨by simpa [nums] using h2, HO.below.grown h3 HO.below.size (own_base HO.own)⟩, h3⟩
theorem app_nums_step {K : Act → World → Prop} {E : Prop} {w0 W : World} (hgd : o.guard = none) (s x : Operand) (t : TypeId)
    (ho : o.op = .call { callee := .builtin .append, args := #[s, x], argTypes := #[t, t] })
    (ht : Try.prog.underlying t = some (.slice 3))
    (v u : Value) (xs ys : List Int) (hs : a.eval s = v) (hx : a.eval x = u)
    (HO : Oi w0 W v xs) (HR : Fs W u ys) (hl : xs.length + ys.length ≤ 1000000)
    (h : ∀ v1 w1, Oi w0 w1 v1 (xs ++ ys) → W.grownBy w1 v.ownBlock → K (a.put o.dst v1) w1) :
    if Region.wanted o (yielded ops a.tmps) = true then Oper.wp Try.prog o a W K Q else E := by
  have hw : Region.wanted o (yielded ops a.tmps) = true := by simp [Region.wanted, hgd]
  rw [if_pos hw]
  obtain ⟨v1, w1, hr, h1, h2⟩ := run_app_nums (w0 := w0) t o.type ht v u xs ys HO HR hl
  unfold Oper.wp execOp
  simp only [ho, resolve, invoke, builtin, Sem.run_bind, Sem.run_pure, Result.andThen_ok, List.map_toArray, List.map_cons, List.map_nil, hs, hx, hr]
  exact h v1 w1 h1 h2
/-- A struct is stored into a block. -/
theorem store_row_step {P : Program} {K : Act → World → Prop} {E : Prop} {W : World} (hgd : o.guard = none) (hN : o.dst = none) (ty : TypeId) (x y : Operand) (ho : o.op = .store ty x y)
    (g : Nat) (cells : Array Value) (hx : a.eval x = .pointer (some ⟨g, 0, none⟩)) (hy : a.eval y = .agg cells)
    (t : TypeId) (old : Array Value) (hg : W.heap[g]? = some (.cells old t (0, 0))) (hi : (P.info? ty).map (·.size) = some cells.size)
    (hold : old.size = cells.size) (h1 : cells.all (·.oneCell') = true) (h : K a (W.setRow g cells)) :
    if Region.wanted o (yielded ops a.tmps) = true then Oper.wp P o a W K Q else E := by
  have hw : Region.wanted o (yielded ops a.tmps) = true := by simp [Region.wanted, hgd]
  rw [if_pos hw]
  refine wp_store_row ty x y ho g cells hx hy t old hg hi hold h1 ?_
  rw [hN]
  exact h
end
theorem _root_.Go.Proofs.Ytehndlafbbpofaa.Pack.Only.setRow {g : Nat} {a w : World} (h : Only g a w) (cs : Array Value) : Only g a (w.setRow g cs) :=
  h.trans ⟨rfl, rfl, rfl, by simp, fun k _ hg => setRow_other w g k cs hg⟩
theorem set_below {B g : Nat} {w0 w : World} (hb : Below B w0 w) (hBg : B ≤ g) (cs : Array Value) : Below B w0 (w.setRow g cs) :=
  hb.trans ⟨rfl, rfl, rfl, by simp, fun k hk => setRow_other w g k cs (by omega)⟩
/-- A row of numbers stands where another block, of another type, is written. -/
theorem oi_only {w0 w w1 : World} {v : Value} {xs : List Int} {g : Nat} {cs : Array Value} {t : TypeId} (h : Oi w0 w v xs) (ho : Only g w w1) (hg : w.heap[g]? = some (.cells cs t (0, 0))) (ht : t ≠ 3) (hb : w0.heap.size ≤ g) : Oi w0 w1 v xs := by
  refine ⟨own_move h.own fun k hk => ?_, h.below.trans (ho.below hb h.below.size)⟩
  obtain ⟨cells, hk2⟩ := own_typed h.own k hk
  refine ho.block k (blk_lt hk2) ?_
  rintro rfl
  rw [hg] at hk2
  injection hk2 with hk2
  injection hk2 with _ h2
  exact ht h2
theorem oi_grown {w0 w w1 : World} {v u : Value} {xs : List Int} (h : Oi w0 w v xs) (hg : w.grownBy w1 u.ownBlock) (hb : Below w0.heap.size w0 w1) (hne : ∀ k, v.ownBlock = some k → some k ≠ u.ownBlock) : Oi w0 w1 v xs := by
  refine ⟨own_move h.own fun k hk => ?_, hb⟩
  obtain ⟨cells, hk2⟩ := own_typed h.own k hk
  exact hg.block k (blk_lt hk2) (hne k hk)
/-- A row of inputs of the call's own, elements of type e. -/
abbrev Ri (e : TypeId) (w : World) (base : Nat) (v : Value) (l : List (ByteArray × Int)) : Prop := kin.R e w base (fun _ => True) v l
theorem ri_is {e : TypeId} {w : World} {base : Nat} {v : Value} {l : List (ByteArray × Int)} (h : Ri e w base v l) : Is w v l := by
  obtain ⟨A, c, rfl, hc, hC⟩ := Kd.R_reads h
  refine ⟨A, c, rfl, hc, Kd.C_max hC, fun hp => ?_⟩
  obtain ⟨ad, e1, hcell⟩ := hC.2.2 hp
  refine ⟨ad, e1, fun i hi => ?_⟩
  obtain ⟨cs, hl, ⟨c0, c1, rfl, h0, h1⟩, hu⟩ := hcell i _ (List.getElem?_eq_getElem hi)
  obtain rfl : c0 = [Value.string l[i].1] := h0
  obtain rfl : c1 = [Value.int .i64 l[i].2] := h1
  have e2 : l.getD i (ByteArray.empty, 0) = l[i] := by rw [List.getD_eq_getElem?_getD, List.getElem?_eq_getElem hi]; rfl
  rw [e2]
  exact ⟨hu 0 _ rfl, hu 1 _ rfl⟩
theorem ri_m (w : World) (base : Nat) (nm : ByteArray) (tm : Int) : kin.M w base (fun _ => False) (nm, tm) [.string nm, .int .i64 tm] := ⟨[.string nm], [.int .i64 tm], rfl, rfl, rfl⟩
theorem fs_own {w : World} {base : Nat} {v : Value} {xs : List Int} (h : w.ownsRow base 3 1 v xs.length (nums .i64 xs)) : Fs w v xs := by
  obtain ⟨A, c, e, hr⟩ := own_reads h
  subst e
  exact ⟨A, c, rfl, own_le h, hr⟩
/-- A run whose rows have been made since base. -/
def RunO (e : TypeId) (w : World) (base : Nat) (v : Value) (r : RunV) : Prop := ∃ vi vf, v = .agg #[.string r.out, .string r.cmd, .int .i64 r.time, .int .i64 r.mark, vi, vf] ∧ Ri e w base vi r.ins ∧ w.ownsRow base 3 1 vf r.found.length (nums .i64 r.found)
theorem RunO.is {e : TypeId} {w : World} {base : Nat} {v : Value} {r : RunV} (h : RunO e w base v r) : RunIs w v r := by
  obtain ⟨vi, vf, rfl, h1, h2⟩ := h
  exact ⟨vi, vf, rfl, ri_is h1, fs_own h2⟩
--BEGIN WALK
set_option maxRecDepth 100000 in
set_option maxHeartbeats 4000000 in
theorem of_any_own (v : Value) (r : RunV) (w : World) (h : RunIs w v r) (hi5 : r.ins.length ≤ 10000) (hf6 : r.found.length ≤ 10000) :
    Calls Try.prog 15 #[v] w fun e w' => ∃ v', e = .returned v' ∧ RunO 50 w' w.heap.size v' r ∧ Below w.heap.size w w' := by
  obtain ⟨vi, vf, rfl, hI, hF⟩ := h
  obtain ⟨AI, cI, rfl, hcI, hmI⟩ := hI.len
  obtain ⟨AF, cF, rfl, hcF, hmF⟩ := hF.len
  obtain ⟨out, cmd, time, mark, ins, found⟩ := r
  simp only at hi5 hf6 hcI hmI hcF hmF hI hF ⊢
  obtain ⟨Wb, hWb⟩ : ∃ Wb, Wb = (w.alloc (.cells #[.string out, .string cmd, .int .i64 time, .int .i64 mark, .slice AI ins.length cI, .slice AF found.length cF] 25)).alloc (.cells #[.string ⟨#[]⟩, .string ⟨#[]⟩, .int .i64 0, .int .i64 0, .slice none 0 0, .slice none 0 0] 33) := ⟨_, rfl⟩
  have hb0 : Below w.heap.size w Wb := by rw [hWb]; exact below_alloc (below_alloc (Below.refl _ _) _) _
  have hsz : Wb.heap.size = w.heap.size + 2 := by rw [hWb]; simp
  have hbx : Wb.heap[w.heap.size]? = some (.cells #[.string out, .string cmd, .int .i64 time, .int .i64 mark, .slice AI ins.length cI, .slice AF found.length cF] 25 (0, 0)) := by rw [hWb]; exact (Below.heap_alloc _ _ _ (by simp)).trans (heap_alloc_new w _)
  have hrs : Wb.heap[w.heap.size + 1]? = some (.cells #[.string ⟨#[]⟩, .string ⟨#[]⟩, .int .i64 0, .int .i64 0, .slice none 0 0, .slice none 0 0] 33 (0, 0)) := by
    have e : (w.alloc (.cells #[.string out, .string cmd, .int .i64 time, .int .i64 mark, .slice AI ins.length cI, .slice AF found.length cF] 25)).heap.size = w.heap.size + 1 := by simp
    rw [hWb, ← e]
    exact heap_alloc_new _ _
  have Q0 := Lib.hid (show Wb.cell? ⟨w.heap.size, 0, none⟩ = some (.string out) from blk_cell hbx 0)
  have Q1 := Lib.hid (show Wb.cell? ⟨w.heap.size, 1, none⟩ = some (.string cmd) from blk_cell hbx 1)
  have Q2 := Lib.hid (show Wb.cell? ⟨w.heap.size, 2, none⟩ = some (.int .i64 time) from blk_cell hbx 2)
  have Q3 := Lib.hid (show Wb.cell? ⟨w.heap.size, 3, none⟩ = some (.int .i64 mark) from blk_cell hbx 3)
  have Q4 := Lib.hid (show Wb.cell? ⟨w.heap.size, 4, none⟩ = some (.slice AI ins.length cI) from blk_cell hbx 4)
  have Q5 := Lib.hid (show Wb.cell? ⟨w.heap.size, 5, none⟩ = some (.slice AF found.length cF) from blk_cell hbx 5)
  have HI := Lib.hid (hI.below hb0)
  have HF := Lib.hid (hF.below hb0)
  have HRS := Lib.hid hrs
  have HB0 := Lib.hid hb0
  have HSZ := Lib.hid hsz
  have HWB := Lib.hid hWb
  have HBD : Hid (Below Wb.heap.size Wb Wb.drew) := Below.drew (Below.refl _ _)
  have HNA : Hid (((Wb.drew.alloc (.cells (nums .i64 []).toArray 3)).alloc (.cells #[.string ⟨#[]⟩, .string ⟨#[]⟩, .int .i64 0, .int .i64 0, .slice none 0 0, .slice none 0 0] 33)).heap[Wb.heap.size + 1]? = some (.cells #[.string ⟨#[]⟩, .string ⟨#[]⟩, .int .i64 0, .int .i64 0, .slice none 0 0, .slice none 0 0] 33 (0, 0))) := by
    have e : (Wb.drew.alloc (.cells (nums .i64 []).toArray 3)).heap.size = Wb.heap.size + 1 := World.size_alloc' Wb.drew _
    show _ = _
    rw [← e]
    exact heap_alloc_new _ _
  have HNB : Hid (((Wb.drew.alloc (.cells #[.string ⟨#[]⟩, .string ⟨#[]⟩, .int .i64 0, .int .i64 0, .slice none 0 0, .slice none 0 0] 33)).alloc (.cells (nums .i64 []).toArray 3)).heap[Wb.heap.size]? = some (.cells #[.string ⟨#[]⟩, .string ⟨#[]⟩, .int .i64 0, .int .i64 0, .slice none 0 0, .slice none 0 0] 33 (0, 0))) := (Below.heap_alloc _ _ _ (by rw [World.size_alloc']; exact Nat.lt_succ_self _)).trans (heap_alloc_new Wb.drew _)
  have HL2 : Hid (Oi Wb (((Wb.alloc (.cells #[.string ⟨#[]⟩, .string ⟨#[]⟩, .int .i64 0, .int .i64 0, .slice none 0 0, .slice none 0 0] 33)).alloc (.cells #[] 3)).drew) (.slice (some ⟨Wb.heap.size + 1, 0, none⟩) 0 0) []) := by
    have h := Oi.lit (w0 := Wb) (W := Wb.alloc (.cells #[.string ⟨#[]⟩, .string ⟨#[]⟩, .int .i64 0, .int .i64 0, .slice none 0 0, .slice none 0 0] 33)) (below_alloc (Below.refl _ _) _) [] (by simp)
    rw [World.size_alloc'] at h
    exact h.step (below_drew (Below.refl _ _))
  clear hI hF hrs hb0 hsz hbx hWb
  go_enter Try.func15, Try.ntmps15
  go_wp2
  rw [← HWB.out]
  refine start_ (n := 15) (S := fun w' => Below Wb.heap.size Wb w' ∧ w'.cell? ⟨w.heap.size, 0, none⟩ = some (.string out) ∧ w'.cell? ⟨w.heap.size, 1, none⟩ = some (.string cmd) ∧ w'.cell? ⟨w.heap.size, 2, none⟩ = some (.int .i64 time) ∧ w'.cell? ⟨w.heap.size, 3, none⟩ = some (.int .i64 mark) ∧ w'.cell? ⟨w.heap.size, 5, none⟩ = some (.slice AF found.length cF)) (ds := []) #[false, false, false, false, false, false, false, false, false, false, false, false, false, false, false] (by kernel_rfl) rfl rfl ⟨HBD.out, Q0.out, Q1.out, Q2.out, Q3.out, Q5.out⟩ (fun hHeld => ?_)
  refine pure_ (i := 0) (N := some 5) (v := ?_) (a' := ?_) #[true, false, false, false, false, false, false, false, false, false, false, false, false, false, false] rfl rfl (by kernel_rfl) (fun _ _ _ h => h) (Or.inl ⟨by rfl, ?_⟩) ?_ ?_
  rotate_left
  · intro w'
    go_simp
    with_reducible rfl
  rotate_left
  · simp only [Act.put, List.setIfInBounds_toArray, List.set_cons_zero, List.set_cons_succ, i64_w, i32_w]
    rfl
  refine pure_ (i := 2) (N := some 7) (v := ?_) (a' := ?_) #[true, false, true, false, false, false, false, false, false, false, false, false, false, false, false] rfl rfl (by kernel_rfl) (fun _ _ _ h => h) (Or.inl ⟨by rfl, ?_⟩) ?_ ?_
  rotate_left
  · intro w'
    go_simp
    with_reducible rfl
  rotate_left
  · simp only [Act.put, List.setIfInBounds_toArray, List.set_cons_zero, List.set_cons_succ, i64_w, i32_w]
    rfl
  refine pure_ (i := 4) (N := some 9) (v := ?_) (a' := ?_) #[true, false, true, false, true, false, false, false, false, false, false, false, false, false, false] rfl rfl (by kernel_rfl) (fun _ _ _ h => h) (Or.inl ⟨by rfl, ?_⟩) ?_ ?_
  rotate_left
  · intro w'
    go_simp
    with_reducible rfl
  rotate_left
  · simp only [Act.put, List.setIfInBounds_toArray, List.set_cons_zero, List.set_cons_succ, i64_w, i32_w]
    rfl
  refine pure_ (i := 6) (N := some 11) (v := ?_) (a' := ?_) #[true, false, true, false, true, false, true, false, false, false, false, false, false, false, false] rfl rfl (by kernel_rfl) (fun _ _ _ h => h) (Or.inl ⟨by rfl, ?_⟩) ?_ ?_
  rotate_left
  · intro w'
    go_simp
    with_reducible rfl
  rotate_left
  · simp only [Act.put, List.setIfInBounds_toArray, List.set_cons_zero, List.set_cons_succ, i64_w, i32_w]
    rfl
  refine pure_ (i := 9) (N := some 14) (v := ?_) (a' := ?_) #[true, false, true, false, true, false, true, false, false, true, false, false, false, false, false] rfl rfl (by kernel_rfl) (fun _ _ _ h => h) (Or.inl ⟨by rfl, ?_⟩) ?_ ?_
  rotate_left
  · intro w'
    go_simp
    with_reducible rfl
  rotate_left
  · simp only [Act.put, List.setIfInBounds_toArray, List.set_cons_zero, List.set_cons_succ, i64_w, i32_w]
    rfl
  refine take_ (i := 1) (N := some 6) (v := ?_) (a' := ?_) #[true, true, true, false, true, false, true, false, false, true, false, false, false, false, false] rfl rfl (by kernel_rfl) (fun _ _ _ h => h) (Or.inl ⟨by rfl, ?_⟩) hHeld ?_ ?_
  rotate_left
  · rintro w' ⟨s0, s1, s2, s3, s4, s5⟩
    go_simp
    with_reducible rfl
  rotate_left
  · simp only [Act.put, List.setIfInBounds_toArray, List.set_cons_zero, List.set_cons_succ, i64_w, i32_w]
    rfl
  refine take_ (i := 3) (N := some 8) (v := ?_) (a' := ?_) #[true, true, true, true, true, false, true, false, false, true, false, false, false, false, false] rfl rfl (by kernel_rfl) (fun _ _ _ h => h) (Or.inl ⟨by rfl, ?_⟩) hHeld ?_ ?_
  rotate_left
  · rintro w' ⟨s0, s1, s2, s3, s4, s5⟩
    go_simp
    with_reducible rfl
  rotate_left
  · simp only [Act.put, List.setIfInBounds_toArray, List.set_cons_zero, List.set_cons_succ, i64_w, i32_w]
    rfl
  refine take_ (i := 5) (N := some 10) (v := ?_) (a' := ?_) #[true, true, true, true, true, true, true, false, false, true, false, false, false, false, false] rfl rfl (by kernel_rfl) (fun _ _ _ h => h) (Or.inl ⟨by rfl, ?_⟩) hHeld ?_ ?_
  rotate_left
  · rintro w' ⟨s0, s1, s2, s3, s4, s5⟩
    go_simp
    with_reducible rfl
  rotate_left
  · simp only [Act.put, List.setIfInBounds_toArray, List.set_cons_zero, List.set_cons_succ, i64_w, i32_w]
    rfl
  refine take_ (i := 7) (N := some 12) (v := ?_) (a' := ?_) #[true, true, true, true, true, true, true, true, false, true, false, false, false, false, false] rfl rfl (by kernel_rfl) (fun _ _ _ h => h) (Or.inl ⟨by rfl, ?_⟩) hHeld ?_ ?_
  rotate_left
  · rintro w' ⟨s0, s1, s2, s3, s4, s5⟩
    go_simp
    with_reducible rfl
  rotate_left
  · simp only [Act.put, List.setIfInBounds_toArray, List.set_cons_zero, List.set_cons_succ, i64_w, i32_w]
    rfl
  refine take_ (i := 10) (N := some 15) (v := ?_) (a' := ?_) #[true, true, true, true, true, true, true, true, false, true, true, false, false, false, false] rfl rfl (by kernel_rfl) (fun _ _ _ h => h) (Or.inl ⟨by rfl, ?_⟩) hHeld ?_ ?_
  rotate_left
  · rintro w' ⟨s0, s1, s2, s3, s4, s5⟩
    go_simp
    with_reducible rfl
  rotate_left
  · simp only [Act.put, List.setIfInBounds_toArray, List.set_cons_zero, List.set_cons_succ, i64_w, i32_w]
    rfl
  refine join_ (σ := Nat × Value × Value) 1 #[true, true, true, true, true, true, true, true, true, true, true, true, true, true, false] (fun s => [(13, s.2.1), (3, .pointer (some ⟨s.1, 0, none⟩)), (16, s.2.2), (17, .agg #[.string out, .string cmd, .int .i64 time, .int .i64 mark, .slice none 0 0, s.2.2])]) (fun s w' => Below Wb.heap.size Wb w' ∧ w'.heap[s.1]? = some (.cells #[.string ⟨#[]⟩, .string ⟨#[]⟩, .int .i64 0, .int .i64 0, .slice none 0 0, .slice none 0 0] 33 (0, 0)) ∧ Wb.heap.size ≤ s.1 ∧ Oi Wb w' s.2.2 found ∧ ∃ A n c, s.2.2 = .slice A n c) ?_ ?_
  rotate_left
  · intro hCont
    refine two_ (i := 8) (j := 13) (Ni := some 13) (Nj := some 3) #[true, true, true, true, true, true, true, true, true, true, true, false, false, false, false] #[true, true, true, true, true, true, true, true, false, true, true, false, false, true, false] rfl rfl rfl rfl (by kernel_rfl) (by decide) (by decide) (fun K hK => ?_) (fun K hK => ?_)
    · skip
      refine value_ (w1 := ?_) (v := ?_) (by rfl) rfl ?_ ?_
      rotate_left 2
      · go_simp
        constructor
        · rfl
        · rfl
      refine hK.out _ _ ⟨hHeld.1.alloc hHeld.1.size _, pw_cell_below (hHeld.1.alloc hHeld.1.size _) Q0.out, pw_cell_below (hHeld.1.alloc hHeld.1.size _) Q1.out, pw_cell_below (hHeld.1.alloc hHeld.1.size _) Q2.out, pw_cell_below (hHeld.1.alloc hHeld.1.size _) Q3.out, pw_cell_below (hHeld.1.alloc hHeld.1.size _) Q5.out⟩ (fun hHeld => ?_)
      clear hK K
      refine norm_ (a' := ?_) ?_ ?_
      rotate_left
      · show Act.put _ (some 13) _ = _
        simp only [Act.put, List.setIfInBounds_toArray, List.set_cons_zero, List.set_cons_succ, i64_w, i32_w]
        rfl
      refine two_ (i := 11) (j := 13) (Ni := some 16) (Nj := some 3) #[true, true, true, true, true, true, true, true, true, true, true, true, false, false, false] #[true, true, true, true, true, true, true, true, true, true, true, false, false, true, false] rfl rfl rfl rfl (by kernel_rfl) (by decide) (by decide) (fun K hK => ?_) (fun K hK => ?_)
      · skip
        refine app_nums_step rfl (.tmp 13) (.tmp 15) 23 rfl Try.underlying23 (.slice (some ⟨Wb.heap.size, 0, none⟩) 0 0) _ [] found rfl rfl (Oi.lit HBD.out [] (by simp)) (HF.out.below hHeld.1) (by simp only [List.length_nil]; omega) ?_
        intro va wa oa ga
        rw [List.nil_append] at oa
        obtain ⟨A7, n7, c7, rfl, h7⟩ := oa.slice
        have HOa := Lib.hid oa
        clear oa ga h7
        refine hK.out _ _ ⟨HOa.out.below, pw_cell_below (HOa.out.below) Q0.out, pw_cell_below (HOa.out.below) Q1.out, pw_cell_below (HOa.out.below) Q2.out, pw_cell_below (HOa.out.below) Q3.out, pw_cell_below (HOa.out.below) Q5.out⟩ (fun hHeld => ?_)
        clear hK K
        refine norm_ (a' := ?_) ?_ ?_
        rotate_left
        · show Act.put _ (some 16) _ = _
          simp only [Act.put, List.setIfInBounds_toArray, List.set_cons_zero, List.set_cons_succ, i64_w, i32_w]
          rfl
        refine pure_ (i := 12) (N := some 17) (v := ?_) (a' := ?_) #[true, true, true, true, true, true, true, true, true, true, true, true, true, false, false] rfl rfl (by kernel_rfl) (fun _ _ _ h => h) (Or.inl ⟨by rfl, ?_⟩) ?_ ?_
        rotate_left
        · intro w'
          go_simp
          with_reducible rfl
        rotate_left
        · simp only [Act.put, List.setIfInBounds_toArray, List.set_cons_zero, List.set_cons_succ, i64_w, i32_w]
          rfl
        refine one_ (i := 13) (N := some 3) #[true, true, true, true, true, true, true, true, true, true, true, true, true, true, false] rfl rfl (by kernel_rfl) (by decide) (fun K hK => ?_)
        refine value_ (w1 := ?_) (v := ?_) (by rfl) rfl ?_ ?_
        rotate_left 2
        · go_simp
          constructor
          · rfl
          · rfl
        refine hK.out _ _ ⟨hHeld.1.alloc hHeld.1.size _, pw_cell_below (hHeld.1.alloc hHeld.1.size _) Q0.out, pw_cell_below (hHeld.1.alloc hHeld.1.size _) Q1.out, pw_cell_below (hHeld.1.alloc hHeld.1.size _) Q2.out, pw_cell_below (hHeld.1.alloc hHeld.1.size _) Q3.out, pw_cell_below (hHeld.1.alloc hHeld.1.size _) Q5.out⟩ (fun hHeld => ?_)
        clear hK K
        refine norm_ (a' := ?_) ?_ ?_
        rotate_left
        · show Act.put _ (some 3) _ = _
          simp only [Act.put, List.setIfInBounds_toArray, List.set_cons_zero, List.set_cons_succ, i64_w, i32_w]
          rfl
        exact norm_ (by simp only [putAll, Act.put, List.setIfInBounds_toArray, List.set_cons_zero, List.set_cons_succ]) (hCont (wa.heap.size, .slice (some ⟨Wb.heap.size, 0, none⟩) 0 0, .slice A7 n7 c7) _ ⟨hHeld.1, heap_alloc_new wa _, HOa.out.below.size, HOa.out.step (below_alloc (Below.refl _ _) _), _, _, _, rfl⟩)
      · skip
        refine value_ (w1 := ?_) (v := ?_) (by rfl) rfl ?_ ?_
        rotate_left 2
        · go_simp
          constructor
          · rfl
          · rfl
        refine hK.out _ _ ⟨hHeld.1.alloc hHeld.1.size _, pw_cell_below (hHeld.1.alloc hHeld.1.size _) Q0.out, pw_cell_below (hHeld.1.alloc hHeld.1.size _) Q1.out, pw_cell_below (hHeld.1.alloc hHeld.1.size _) Q2.out, pw_cell_below (hHeld.1.alloc hHeld.1.size _) Q3.out, pw_cell_below (hHeld.1.alloc hHeld.1.size _) Q5.out⟩ (fun hHeld => ?_)
        clear hK K
        refine norm_ (a' := ?_) ?_ ?_
        rotate_left
        · show Act.put _ (some 3) _ = _
          simp only [Act.put, List.setIfInBounds_toArray, List.set_cons_zero, List.set_cons_succ, i64_w, i32_w]
          rfl
        refine one_ (i := 11) (N := some 16) #[true, true, true, true, true, true, true, true, true, true, true, true, false, true, false] rfl rfl (by kernel_rfl) (by decide) (fun K hK => ?_)
        refine app_nums_step rfl (.tmp 13) (.tmp 15) 23 rfl Try.underlying23 (.slice (some ⟨Wb.heap.size, 0, none⟩) 0 0) _ [] found rfl rfl ((Oi.lit HBD.out [] (by simp)).step (below_alloc (Below.refl _ _) _)) (HF.out.below hHeld.1) (by simp only [List.length_nil]; omega) ?_
        intro va wa oa ga
        rw [List.nil_append] at oa
        obtain ⟨A7, n7, c7, rfl, h7⟩ := oa.slice
        have HOa := Lib.hid oa
        have HZa : Hid (wa.heap[Wb.heap.size + 1]? = some (.cells #[.string ⟨#[]⟩, .string ⟨#[]⟩, .int .i64 0, .int .i64 0, .slice none 0 0, .slice none 0 0] 33 (0, 0))) := (ga.block _ (blk_lt HNA.out) (by simp only [Value.ownBlock]; intro h; injection h with h; omega)).trans HNA.out
        clear oa ga h7
        refine hK.out _ _ ⟨HOa.out.below, pw_cell_below (HOa.out.below) Q0.out, pw_cell_below (HOa.out.below) Q1.out, pw_cell_below (HOa.out.below) Q2.out, pw_cell_below (HOa.out.below) Q3.out, pw_cell_below (HOa.out.below) Q5.out⟩ (fun hHeld => ?_)
        clear hK K
        refine norm_ (a' := ?_) ?_ ?_
        rotate_left
        · show Act.put _ (some 16) _ = _
          simp only [Act.put, List.setIfInBounds_toArray, List.set_cons_zero, List.set_cons_succ, i64_w, i32_w]
          rfl
        refine pure_ (i := 12) (N := some 17) (v := ?_) (a' := ?_) #[true, true, true, true, true, true, true, true, true, true, true, true, true, true, false] rfl rfl (by kernel_rfl) (fun _ _ _ h => h) (Or.inl ⟨by rfl, ?_⟩) ?_ ?_
        rotate_left
        · intro w'
          go_simp
          with_reducible rfl
        rotate_left
        · simp only [Act.put, List.setIfInBounds_toArray, List.set_cons_zero, List.set_cons_succ, i64_w, i32_w]
          rfl
        exact norm_ (by simp only [putAll, Act.put, List.setIfInBounds_toArray, List.set_cons_zero, List.set_cons_succ]) (hCont (Wb.heap.size + 1, .slice (some ⟨Wb.heap.size, 0, none⟩) 0 0, .slice A7 n7 c7) _ ⟨hHeld.1, HZa.out, by omega, HOa.out, _, _, _, rfl⟩)
    · skip
      refine value_ (w1 := ?_) (v := ?_) (by rfl) rfl ?_ ?_
      rotate_left 2
      · go_simp
        constructor
        · rfl
        · rfl
      refine hK.out _ _ ⟨hHeld.1.alloc hHeld.1.size _, pw_cell_below (hHeld.1.alloc hHeld.1.size _) Q0.out, pw_cell_below (hHeld.1.alloc hHeld.1.size _) Q1.out, pw_cell_below (hHeld.1.alloc hHeld.1.size _) Q2.out, pw_cell_below (hHeld.1.alloc hHeld.1.size _) Q3.out, pw_cell_below (hHeld.1.alloc hHeld.1.size _) Q5.out⟩ (fun hHeld => ?_)
      clear hK K
      refine norm_ (a' := ?_) ?_ ?_
      rotate_left
      · show Act.put _ (some 3) _ = _
        simp only [Act.put, List.setIfInBounds_toArray, List.set_cons_zero, List.set_cons_succ, i64_w, i32_w]
        rfl
      refine one_ (i := 8) (N := some 13) #[true, true, true, true, true, true, true, true, true, true, true, false, false, true, false] rfl rfl (by kernel_rfl) (by decide) (fun K hK => ?_)
      refine value_ (w1 := ?_) (v := ?_) (by rfl) rfl ?_ ?_
      rotate_left 2
      · go_simp
        constructor
        · rfl
        · rfl
      refine hK.out _ _ ⟨hHeld.1.alloc hHeld.1.size _, pw_cell_below (hHeld.1.alloc hHeld.1.size _) Q0.out, pw_cell_below (hHeld.1.alloc hHeld.1.size _) Q1.out, pw_cell_below (hHeld.1.alloc hHeld.1.size _) Q2.out, pw_cell_below (hHeld.1.alloc hHeld.1.size _) Q3.out, pw_cell_below (hHeld.1.alloc hHeld.1.size _) Q5.out⟩ (fun hHeld => ?_)
      clear hK K
      refine norm_ (a' := ?_) ?_ ?_
      rotate_left
      · show Act.put _ (some 13) _ = _
        simp only [Act.put, List.setIfInBounds_toArray, List.set_cons_zero, List.set_cons_succ, i64_w, i32_w]
        rfl
      refine one_ (i := 11) (N := some 16) #[true, true, true, true, true, true, true, true, true, true, true, true, false, true, false] rfl rfl (by kernel_rfl) (by decide) (fun K hK => ?_)
      refine app_nums_step rfl (.tmp 13) (.tmp 15) 23 rfl Try.underlying23 (.slice (some ⟨Wb.heap.size + 1, 0, none⟩) 0 0) _ [] found rfl rfl (HL2.out) (HF.out.below hHeld.1) (by simp only [List.length_nil]; omega) ?_
      intro va wa oa ga
      rw [List.nil_append] at oa
      obtain ⟨A7, n7, c7, rfl, h7⟩ := oa.slice
      have HOa := Lib.hid oa
      have HZa : Hid (wa.heap[Wb.heap.size]? = some (.cells #[.string ⟨#[]⟩, .string ⟨#[]⟩, .int .i64 0, .int .i64 0, .slice none 0 0, .slice none 0 0] 33 (0, 0))) := (ga.block _ (blk_lt HNB.out) (by simp only [Value.ownBlock]; intro h; injection h with h; omega)).trans HNB.out
      clear oa ga h7
      refine hK.out _ _ ⟨HOa.out.below, pw_cell_below (HOa.out.below) Q0.out, pw_cell_below (HOa.out.below) Q1.out, pw_cell_below (HOa.out.below) Q2.out, pw_cell_below (HOa.out.below) Q3.out, pw_cell_below (HOa.out.below) Q5.out⟩ (fun hHeld => ?_)
      clear hK K
      refine norm_ (a' := ?_) ?_ ?_
      rotate_left
      · show Act.put _ (some 16) _ = _
        simp only [Act.put, List.setIfInBounds_toArray, List.set_cons_zero, List.set_cons_succ, i64_w, i32_w]
        rfl
      refine pure_ (i := 12) (N := some 17) (v := ?_) (a' := ?_) #[true, true, true, true, true, true, true, true, true, true, true, true, true, true, false] rfl rfl (by kernel_rfl) (fun _ _ _ h => h) (Or.inl ⟨by rfl, ?_⟩) ?_ ?_
      rotate_left
      · intro w'
        go_simp
        with_reducible rfl
      rotate_left
      · simp only [Act.put, List.setIfInBounds_toArray, List.set_cons_zero, List.set_cons_succ, i64_w, i32_w]
        rfl
      exact norm_ (by simp only [putAll, Act.put, List.setIfInBounds_toArray, List.set_cons_zero, List.set_cons_succ]) (hCont (Wb.heap.size, .slice (some ⟨Wb.heap.size + 1, 0, none⟩) 0 0, .slice A7 n7 c7) _ ⟨hHeld.1, HZa.out, Nat.le_refl _, HOa.out, _, _, _, rfl⟩)
  rintro ⟨g, v13, va⟩ wz ⟨hF1, hF2, hF3, hF4, A7, n7, c7, hF5⟩
  simp only at hF2 hF3 hF4 hF5
  subst hF5
  have hHeld : Below Wb.heap.size Wb wz ∧ wz.cell? ⟨w.heap.size, 0, none⟩ = some (.string out) ∧ wz.cell? ⟨w.heap.size, 1, none⟩ = some (.string cmd) ∧ wz.cell? ⟨w.heap.size, 2, none⟩ = some (.int .i64 time) ∧ wz.cell? ⟨w.heap.size, 3, none⟩ = some (.int .i64 mark) ∧ wz.cell? ⟨w.heap.size, 5, none⟩ = some (.slice AF found.length cF) := ⟨hF1, pw_cell_below (hF1) Q0.out, pw_cell_below (hF1) Q1.out, pw_cell_below (hF1) Q2.out, pw_cell_below (hF1) Q3.out, pw_cell_below (hF1) Q5.out⟩
  have HZ := Lib.hid hF2
  have HG := Lib.hid hF3
  have HOa := Lib.hid hF4
  clear hF1 hF2 hF3 hF4
  refine norm_ (a' := ?_) ?_ ?_
  rotate_left
  · simp only [putAll, Act.put, List.setIfInBounds_toArray, List.set_cons_zero, List.set_cons_succ]
    rfl
  refine one_ (i := 14) (N := none) #[true, true, true, true, true, true, true, true, true, true, true, true, true, true, true] rfl rfl (by kernel_rfl) (by decide) (fun K hK => ?_)
  refine store_row_step rfl rfl 33 (.tmp 3) (.tmp 17) rfl g _ rfl rfl 33 _ HZ.out (by kernel_rfl) rfl (by simp [Value.oneCell']) ?_
  refine hK.out _ _ ⟨set_below hHeld.1 HG.out _, pw_cell_below (set_below hHeld.1 HG.out _) Q0.out, pw_cell_below (set_below hHeld.1 HG.out _) Q1.out, pw_cell_below (set_below hHeld.1 HG.out _) Q2.out, pw_cell_below (set_below hHeld.1 HG.out _) Q3.out, pw_cell_below (set_below hHeld.1 HG.out _) Q5.out⟩ (fun hHeld => ?_)
  clear hK K
  refine done_ (by kernel_rfl) ?_
  obtain ⟨W2, hW2⟩ : ∃ W2, W2 = wz.setRow g #[.string out, .string cmd, .int .i64 time, .int .i64 mark, .slice none 0 0, .slice A7 n7 c7] := ⟨_, rfl⟩
  have HG2 : Hid (W2.heap[g]? = some (.cells #[.string out, .string cmd, .int .i64 time, .int .i64 mark, .slice none 0 0, .slice A7 n7 c7] 33 (0, 0))) := by show _ = _; rw [hW2]; exact setRow_heap _ _ _ _ _ _ HZ.out
  have HO2 : Hid (Oi Wb W2 (.slice A7 n7 c7) found) := by show Oi _ _ _ _; rw [hW2]; exact oi_only HOa.out ((Only.refl g wz).setRow _) HZ.out (by decide) HG.out
  rw [← hW2]
  clear hHeld HOa HZ
  clear hW2
  --S1
  go_wp2
  go_loopw [4] (fun i wr => ∃ (k : Nat) (vi : Value), k ≤ ins.length ∧ i = .int .i64 k ∧ Hid (wr.heap[g]? = some (.cells #[.string out, .string cmd, .int .i64 time, .int .i64 mark, vi, .slice A7 n7 c7] 33 (0, 0))) ∧ Hid (Ri 50 wr Wb.heap.size vi (ins.take k)) ∧ Hid (Oi Wb wr (.slice A7 n7 c7) found)) (fun i _ => ins.length - (intOf i).toNat)
  case atStart => exact ⟨0, .slice none 0 0, by omega, rfl, HG2.out, Kd.R_nil _ _ _ _ _, HO2.out⟩
  case round =>
    clear HG2 HO2
    obtain ⟨k, vi, hk, rfl, HC, HR, HO⟩ := hrel
    obtain ⟨A6, c6, e6, _, _⟩ := (ri_is HR.out).len
    obtain ⟨n6, hn6⟩ : ∃ n6, n6 = (ins.take k).length := ⟨_, rfl⟩
    rw [← hn6] at e6
    subst e6
    clear hn6
    have f4 := pw_cell_below HO.out.below Q4.out
    by_cases l1 : k < ins.length
    · obtain ⟨ad, e1, q1, q2⟩ := HI.out.get k l1
      cases e1
      have hin : ins.take (k + 1) = ins.take k ++ [ins.getD k (ByteArray.empty, 0)] := by
        rw [List.take_add_one, List.getElem?_eq_getElem l1, List.getD_eq_getElem?_getD, List.getElem?_eq_getElem l1]; rfl
      have HIN := Lib.hid hin
      clear hin
      generalize ins.getD k (ByteArray.empty, 0) = pk at q1 q2 HIN
      obtain ⟨nm, tm⟩ := pk
      simp only at q1 q2
      have P1 := Lib.hid q1
      have P2 := Lib.hid (second_cell q2)
      have HBR := Lib.hid HO.out.below.drew
      have HOD := Lib.hid (HO.out.step (below_drew (Below.refl _ _)))
      have HRD : Hid (Ri 50 wr.drew Wb.heap.size (.slice A6 n6 c6) (ins.take k)) := Kd.R_step HR.out (fun _ _ _ => rfl)
      clear q1 q2
      go_wp2
      --S2
      refine start_ (n := 19) (S := fun w' => Below Wb.heap.size Wb w' ∧ w'.cell? ⟨g, 4, none⟩ = some (.slice A6 n6 c6) ∧ w'.cell? ⟨w.heap.size, 4, none⟩ = some (.slice (some ad) ins.length cI) ∧ w'.cell? (ad.add (k * 2)) = some (.string nm) ∧ w'.cell? ⟨(ad.add (k * 2)).block, (ad.add (k * 2)).off + 1, none⟩ = some (.int .i64 tm)) (ds := [18]) #[false, false, false, false, false, false, false, false, false, false, false, false, false, false, false, false, false, false, false] (by kernel_rfl) rfl rfl ⟨HBR.out, blk_cell HC.out 4, f4, pw_cell_below HO.out.below P1.out, pw_cell_below HO.out.below P2.out⟩ (fun hHeld => ?_)
      refine pure_ (i := 0) (N := some 25) (v := ?_) (a' := ?_) #[true, false, false, false, false, false, false, false, false, false, false, false, false, false, false, false, false, false, false] rfl rfl (by kernel_rfl) (fun _ _ _ h => h) (Or.inl ⟨by rfl, ?_⟩) ?_ ?_
      rotate_left
      · intro w'
        go_simp
        with_reducible rfl
      rotate_left
      · simp only [Act.put, List.setIfInBounds_toArray, List.set_cons_zero, List.set_cons_succ, i64_w, i32_w]
        rfl
      refine pure_ (i := 2) (N := some 27) (v := ?_) (a' := ?_) #[true, false, true, false, false, false, false, false, false, false, false, false, false, false, false, false, false, false, false] rfl rfl (by kernel_rfl) (fun _ _ _ h => h) (Or.inl ⟨by rfl, ?_⟩) ?_ ?_
      rotate_left
      · intro w'
        go_simp
        with_reducible rfl
      rotate_left
      · simp only [Act.put, List.setIfInBounds_toArray, List.set_cons_zero, List.set_cons_succ, i64_w, i32_w]
        rfl
      refine pure_ (i := 4) (N := some 29) (v := ?_) (a' := ?_) #[true, false, true, false, true, false, false, false, false, false, false, false, false, false, false, false, false, false, false] rfl rfl (by kernel_rfl) (fun _ _ _ h => h) (Or.inl ⟨by rfl, ?_⟩) ?_ ?_
      rotate_left
      · intro w'
        go_simp
        with_reducible rfl
      rotate_left
      · simp only [Act.put, List.setIfInBounds_toArray, List.set_cons_zero, List.set_cons_succ, i64_w, i32_w]
        rfl
      refine pure_ (i := 8) (N := some 33) (v := ?_) (a' := ?_) #[true, false, true, false, true, false, false, false, true, false, false, false, false, false, false, false, false, false, false] rfl rfl (by kernel_rfl) (fun _ _ _ h => h) (Or.inl ⟨by rfl, ?_⟩) ?_ ?_
      rotate_left
      · intro w'
        go_simp
        with_reducible rfl
      rotate_left
      · simp only [Act.put, List.setIfInBounds_toArray, List.set_cons_zero, List.set_cons_succ, i64_w, i32_w]
        rfl
      refine pure_ (i := 10) (N := some 35) (v := ?_) (a' := ?_) #[true, false, true, false, true, false, false, false, true, false, true, false, false, false, false, false, false, false, false] rfl rfl (by kernel_rfl) (fun _ _ _ h => h) (Or.inl ⟨by rfl, ?_⟩) ?_ ?_
      rotate_left
      · intro w'
        go_simp
        with_reducible rfl
      rotate_left
      · simp only [Act.put, List.setIfInBounds_toArray, List.set_cons_zero, List.set_cons_succ, i64_w, i32_w]
        rfl
      refine take_ (i := 1) (N := some 26) (v := ?_) (a' := ?_) #[true, true, true, false, true, false, false, false, true, false, true, false, false, false, false, false, false, false, false] rfl rfl (by kernel_rfl) (fun _ _ _ h => h) (Or.inl ⟨by rfl, ?_⟩) hHeld ?_ ?_
      rotate_left
      · rintro w' ⟨s0, s1, s2, s3, s4⟩
        go_simp
        with_reducible rfl
      rotate_left
      · simp only [Act.put, List.setIfInBounds_toArray, List.set_cons_zero, List.set_cons_succ, i64_w, i32_w]
        rfl
      refine take_ (i := 3) (N := some 28) (v := ?_) (a' := ?_) #[true, true, true, true, true, false, false, false, true, false, true, false, false, false, false, false, false, false, false] rfl rfl (by kernel_rfl) (fun _ _ _ h => h) (Or.inl ⟨by rfl, ?_⟩) hHeld ?_ ?_
      rotate_left
      · rintro w' ⟨s0, s1, s2, s3, s4⟩
        go_simp
        with_reducible rfl
      rotate_left
      · simp only [Act.put, List.setIfInBounds_toArray, List.set_cons_zero, List.set_cons_succ, i64_w, i32_w]
        rfl
      refine pure_ (i := 5) (N := some 30) (v := ?_) (a' := ?_) #[true, true, true, true, true, true, false, false, true, false, true, false, false, false, false, false, false, false, false] rfl rfl (by kernel_rfl) (fun _ _ _ h => h) (Or.inl ⟨by rfl, ?_⟩) ?_ ?_
      rotate_left
      · intro w'
        go_simp
        with_reducible rfl
      rotate_left
      · simp only [Act.put, List.setIfInBounds_toArray, List.set_cons_zero, List.set_cons_succ, i64_w, i32_w]
        rfl
      refine pure_ (i := 6) (N := some 31) (v := ?_) (a' := ?_) #[true, true, true, true, true, true, true, false, true, false, true, false, false, false, false, false, false, false, false] rfl rfl (by kernel_rfl) (fun _ _ _ h => h) (Or.inl ⟨by rfl, ?_⟩) ?_ ?_
      rotate_left
      · intro w'
        go_simp
        with_reducible rfl
      rotate_left
      · simp only [Act.put, List.setIfInBounds_toArray, List.set_cons_zero, List.set_cons_succ, i64_w, i32_w]
        rfl
      refine take_ (i := 7) (N := some 32) (v := ?_) (a' := ?_) #[true, true, true, true, true, true, true, true, true, false, true, false, false, false, false, false, false, false, false] rfl rfl (by kernel_rfl) (fun _ _ _ h => h) (Or.inl ⟨by rfl, ?_⟩) hHeld ?_ ?_
      rotate_left
      · rintro w' ⟨s0, s1, s2, s3, s4⟩
        go_simp
        with_reducible rfl
      rotate_left
      · simp only [Act.put, List.setIfInBounds_toArray, List.set_cons_zero, List.set_cons_succ, i64_w, i32_w]
        rfl
      refine take_ (i := 9) (N := some 34) (v := ?_) (a' := ?_) #[true, true, true, true, true, true, true, true, true, true, true, false, false, false, false, false, false, false, false] rfl rfl (by kernel_rfl) (fun _ _ _ h => h) (Or.inl ⟨by rfl, ?_⟩) hHeld ?_ ?_
      rotate_left
      · rintro w' ⟨s0, s1, s2, s3, s4⟩
        go_simp
        with_reducible rfl
      rotate_left
      · simp only [Act.put, List.setIfInBounds_toArray, List.set_cons_zero, List.set_cons_succ, i64_w, i32_w]
        rfl
      refine pure_ (i := 11) (N := some 36) (v := ?_) (a' := ?_) #[true, true, true, true, true, true, true, true, true, true, true, true, false, false, false, false, false, false, false] rfl rfl (by kernel_rfl) (fun _ _ _ h => h) (Or.inl ⟨by rfl, ?_⟩) ?_ ?_
      rotate_left
      · intro w'
        go_simp
        with_reducible rfl
      rotate_left
      · simp only [Act.put, List.setIfInBounds_toArray, List.set_cons_zero, List.set_cons_succ, i64_w, i32_w]
        rfl
      refine pure_ (i := 12) (N := some 37) (v := ?_) (a' := ?_) #[true, true, true, true, true, true, true, true, true, true, true, true, true, false, false, false, false, false, false] rfl rfl (by kernel_rfl) (fun _ _ _ h => h) (Or.inl ⟨by rfl, ?_⟩) ?_ ?_
      rotate_left
      · intro w'
        go_simp
        with_reducible rfl
      rotate_left
      · simp only [Act.put, List.setIfInBounds_toArray, List.set_cons_zero, List.set_cons_succ, i64_w, i32_w]
        rfl
      refine take_ (i := 13) (N := some 38) (v := ?_) (a' := ?_) #[true, true, true, true, true, true, true, true, true, true, true, true, true, true, false, false, false, false, false] rfl rfl (by kernel_rfl) (fun _ _ _ h => h) (Or.inl ⟨by rfl, ?_⟩) hHeld ?_ ?_
      rotate_left
      · rintro w' ⟨s0, s1, s2, s3, s4⟩
        go_simp
        with_reducible rfl
      rotate_left
      · simp only [Act.put, List.setIfInBounds_toArray, List.set_cons_zero, List.set_cons_succ, i64_w, i32_w]
        rfl
      refine pure_ (i := 14) (N := some 39) (v := ?_) (a' := ?_) #[true, true, true, true, true, true, true, true, true, true, true, true, true, true, true, false, false, false, false] rfl rfl (by kernel_rfl) (fun _ _ _ h => h) (Or.inl ⟨by rfl, ?_⟩) ?_ ?_
      rotate_left
      · intro w'
        go_simp
        with_reducible rfl
      rotate_left
      · simp only [Act.put, List.setIfInBounds_toArray, List.set_cons_zero, List.set_cons_succ, i64_w, i32_w]
        rfl
      refine one_ (i := 15) (N := some 40) #[true, true, true, true, true, true, true, true, true, true, true, true, true, true, true, true, false, false, false] rfl rfl (by kernel_rfl) (by decide) (fun K hK => ?_)
      refine value_ (w1 := ?_) (v := ?_) (by rfl) rfl ?_ ?_
      rotate_left 2
      · go_simp
        constructor
        · rfl
        · rfl
      refine hK.out _ _ ⟨hHeld.1.alloc hHeld.1.size _, pw_cell_below (below_alloc (Below.refl _ _) _) hHeld.2.1, pw_cell_below (hHeld.1.alloc hHeld.1.size _) Q4.out, pw_cell_below (hHeld.1.alloc hHeld.1.size _) P1.out, pw_cell_below (hHeld.1.alloc hHeld.1.size _) P2.out⟩ (fun hHeld => ?_)
      clear hK K
      refine norm_ (a' := ?_) ?_ ?_
      rotate_left
      · show Act.put _ (some 40) _ = _
        simp only [Act.put, List.setIfInBounds_toArray, List.set_cons_zero, List.set_cons_succ, i64_w, i32_w]
        rfl
      refine one_ (i := 16) (N := some 41) #[true, true, true, true, true, true, true, true, true, true, true, true, true, true, true, true, true, false, false] rfl rfl (by kernel_rfl) (by decide) (fun K hK => ?_)
      --S4
      refine Kd.R_append_step kin (w0 := Wb) (W := wr.drew) Wb.heap.size rfl (.tmp 26) (.tmp 40) 31 50 (.agg #[.string ⟨#[]⟩, .int .i64 0]) 24 rfl Try.underlying31 (by kernel_rfl) rfl (by decide) (by decide) (.slice A6 n6 c6) (ins.take k) (nm, tm) [.string nm, .int .i64 tm] (fun _ => True) (fun _ => False) rfl rfl (ri_m _ _ _ _) (fun _ hk => hk.elim) (fun _ _ => trivial) HRD.out HBR.out HBR.out.size (by have := List.length_take (i := k) (l := ins); omega) ?_
      --S5
      intro v1 w1 r1 b1 g1 _
      have HR1 := Lib.hid r1
      have HC1 : Hid (w1.heap[g]? = some (.cells #[.string out, .string cmd, .int .i64 time, .int .i64 mark, .slice A6 n6 c6, .slice A7 n7 c7] 33 (0, 0))) := (g1.block g (blk_lt HC.out) (Kd.R_ne HR.out HC.out (by decide))).trans HC.out
      have HO1 : Hid (Oi Wb w1 (.slice A7 n7 c7) found) := oi_grown HOD.out g1 b1 (fun k' hk' => by obtain ⟨cells, hc⟩ := own_typed HOD.out.own k' hk'; exact Kd.R_ne HRD.out hc (by decide))
      have x1 := blk_frozen HC1.out 4
      have x2 := blk_cell HC1.out 4
      obtain ⟨A5, c5, e5, _, _⟩ := (ri_is r1).len
      obtain ⟨n5, hn5⟩ : ∃ n5, n5 = (ins.take k ++ [(nm, tm)]).length := ⟨_, rfl⟩
      rw [← hn5] at e5
      subst e5
      clear hn5 g1 r1
      --S6
      refine hK.out _ _ ⟨b1, x2, pw_cell_below (b1) Q4.out, pw_cell_below (b1) P1.out, pw_cell_below (b1) P2.out⟩ (fun hHeld => ?_)
      clear hK K
      refine norm_ (a' := ?_) ?_ ?_
      rotate_left
      · show Act.put _ (some 41) _ = _
        simp only [Act.put, List.setIfInBounds_toArray, List.set_cons_zero, List.set_cons_succ, i64_w, i32_w]
        rfl
      refine pure_ (i := 17) (N := some 42) (v := ?_) (a' := ?_) #[true, true, true, true, true, true, true, true, true, true, true, true, true, true, true, true, true, true, false] rfl rfl (by kernel_rfl) (fun _ _ _ h => h) (Or.inl ⟨by rfl, ?_⟩) ?_ ?_
      rotate_left
      · intro w'
        go_simp
        with_reducible rfl
      rotate_left
      · simp only [Act.put, List.setIfInBounds_toArray, List.set_cons_zero, List.set_cons_succ, i64_w, i32_w]
        rfl
      refine last_ (i := 18) (N := none) #[true, true, true, true, true, true, true, true, true, true, true, true, true, true, true, true, true, true, true] rfl rfl (by kernel_rfl) (by decide) (fun K hK => ?_)
      refine skip_ (w1 := ?_) (by rfl) rfl ?_ ?_
      rotate_left
      · go_simp
        rfl
      refine hK.out _ _ ?_
      clear hK K
      refine done_ (by kernel_rfl) ?_
      --S7
      have HC2 : Hid ((w1.setCell ⟨g, 4, none⟩ (.slice A5 n5 c5)).heap[g]? = some (.cells #[.string out, .string cmd, .int .i64 time, .int .i64 mark, .slice A5 n5 c5, .slice A7 n7 c7] 33 (0, 0))) := blk_set HC1.out 4 _
      --S8
      have HR2 : Hid (Ri 50 (w1.setCell ⟨g, 4, none⟩ (.slice A5 n5 c5)) Wb.heap.size (.slice A5 n5 c5) (ins.take (k + 1))) := by
        show Ri _ _ _ _ _
        rw [HIN.out]
        exact Kd.R_set HR1.out HC1.out (by decide) 4 _
      --S9
      have HO2 : Hid (Oi Wb (w1.setCell ⟨g, 4, none⟩ (.slice A5 n5 c5)) (.slice A7 n7 c7) found) := oi_only HO1.out ((Only.refl g w1).setCell 4 _) HC1.out (by decide) HG.out
      clear HR1 HC1 HO1 HC HR HO x1 x2 hHeld
      --S10
      obtain ⟨W3, hW3⟩ : ∃ W3, W3 = w1.setCell ⟨g, 4, none⟩ (.slice A5 n5 c5) := ⟨_, rfl⟩
      rw [← hW3] at HC2 HR2 HO2 ⊢
      clear hW3
      --S11
      go_wp2
      --S12
      go_roundw
      --S13
      case rel => exact ⟨k + 1, _, by omega, by go_num, HC2.out, HR2.out, HO2.out⟩
      case measure => simp [intOf]; omega
      --S14
    · have hk2 : k = ins.length := by omega
      have HRe : Hid (Ri 50 wr Wb.heap.size (.slice A6 n6 c6) ins) := by have h := HR.out; rw [hk2, List.take_length] at h; exact h
      have HX : Hid (wr.heap[w.heap.size + 1]? = some (.cells #[.string ⟨#[]⟩, .string ⟨#[]⟩, .int .i64 0, .int .i64 0, .slice none 0 0, .slice none 0 0] 33 (0, 0))) := (HO.out.below.block _ (by rw [HSZ.out]; omega)).trans HRS.out
      clear hk2 HR
      --S15
      go_wp2_with (with_reducible refine gate_ (.load 33 (.tmp 3)) rfl ?_; refine Held.of ?_)
      --S3
      refine Held.out (wpList_load_row rfl 33 (.tmp 3) rfl g rfl 33 _ (0, 0) _ HC.out Try.underlying33 rfl (by kernel_rfl) ?_)
      go_wp2_with (with_reducible refine gate_ (.store 33 (.tmp 2) (.tmp 43)) rfl ?_; refine Held.of ?_)
      refine Held.out (wpList_plain rfl fun K hK => wp_store_row 33 (.tmp 2) (.tmp 43) rfl (w.heap.size + 1) _ rfl rfl 33 _ HX.out (by kernel_rfl) rfl (by simp [Value.oneCell']) (hK _ _ ?_))
      have HY := Lib.hid (setRow_heap wr (w.heap.size + 1) _ (#[.string out, .string cmd, .int .i64 time, .int .i64 mark, .slice A6 n6 c6, .slice A7 n7 c7]) _ _ HX.out)
      go_wp2
      (try simp only [Exit.inBlock, Exit.then])
      refine bodyPost_ret (results_cell_row rfl _ _ (w.heap.size + 1) 33 _ (0, 0) _ rfl HY.out Try.underlying33 rfl (by kernel_rfl)) rfl ?_
      have hon := (Only.refl (w.heap.size + 1) wr).setRow (#[.string out, .string cmd, .int .i64 time, .int .i64 mark, .slice A6 n6 c6, .slice A7 n7 c7])
      refine ⟨_, rfl, ⟨_, _, rfl, Kd.R_lower (Kd.R_mono (Kd.R_step (Kd.R_types HRe.out HX.out (by decide)) fun k' hk' hlt => hon.block k' hlt hk'.2) fun _ _ => trivial) (by rw [HSZ.out]; omega), ?_⟩, (HB0.out.trans (HO.out.below.mono (by rw [HSZ.out]; omega))).trans (hon.below (by omega) (by have := HO.out.below.size; rw [HSZ.out] at this; omega))⟩
      refine own_move (own_weaken HO.out.own (by rw [HSZ.out]; omega)) fun k' hk' => ?_
      have hbs := own_base HO.out.own k' hk'
      have hlt := own_lt HO.out.own k' hk'
      exact hon.block k' hlt (by rw [HSZ.out] at hbs; omega)
    theorem of_any (v : Value) (r : RunV) (w : World) (h : RunIs w v r) (hi5 : r.ins.length ≤ 10000) (hf6 : r.found.length ≤ 10000) :
        Calls Try.prog 15 #[v] w fun e w' => ∃ v', e = .returned v' ∧ RunIs w' v' r ∧ Below w.heap.size w w' :=
      (of_any_own v r w h hi5 hf6).mono fun _ _ ⟨v', h1, h2, h3⟩ => ⟨v', h1, h2.is, h3⟩
set_option maxRecDepth 100000 in
set_option maxHeartbeats 4000000 in
theorem told_any_own (v : Value) (r : RunV) (w : World) (h : RunIs w v r) (hi5 : r.ins.length ≤ 10000) (hf6 : r.found.length ≤ 10000) :
    Calls Try.prog 21 #[v] w fun e w' => ∃ v', e = .returned v' ∧ RunO 46 w' w.heap.size v' r ∧ Below w.heap.size w w' := by
  obtain ⟨vi, vf, rfl, hI, hF⟩ := h
  obtain ⟨AI, cI, rfl, hcI, hmI⟩ := hI.len
  obtain ⟨AF, cF, rfl, hcF, hmF⟩ := hF.len
  obtain ⟨out, cmd, time, mark, ins, found⟩ := r
  simp only at hi5 hf6 hcI hmI hcF hmF hI hF ⊢
  obtain ⟨Wb, hWb⟩ : ∃ Wb, Wb = (w.alloc (.cells #[.string out, .string cmd, .int .i64 time, .int .i64 mark, .slice AI ins.length cI, .slice AF found.length cF] 33)).alloc (.cells #[.string ⟨#[]⟩, .string ⟨#[]⟩, .int .i64 0, .int .i64 0, .slice none 0 0, .slice none 0 0] 25) := ⟨_, rfl⟩
  have hb0 : Below w.heap.size w Wb := by rw [hWb]; exact below_alloc (below_alloc (Below.refl _ _) _) _
  have hsz : Wb.heap.size = w.heap.size + 2 := by rw [hWb]; simp
  have hbx : Wb.heap[w.heap.size]? = some (.cells #[.string out, .string cmd, .int .i64 time, .int .i64 mark, .slice AI ins.length cI, .slice AF found.length cF] 33 (0, 0)) := by rw [hWb]; exact (Below.heap_alloc _ _ _ (by simp)).trans (heap_alloc_new w _)
  have hrs : Wb.heap[w.heap.size + 1]? = some (.cells #[.string ⟨#[]⟩, .string ⟨#[]⟩, .int .i64 0, .int .i64 0, .slice none 0 0, .slice none 0 0] 25 (0, 0)) := by
    have e : (w.alloc (.cells #[.string out, .string cmd, .int .i64 time, .int .i64 mark, .slice AI ins.length cI, .slice AF found.length cF] 33)).heap.size = w.heap.size + 1 := by simp
    rw [hWb, ← e]
    exact heap_alloc_new _ _
  have Q0 := Lib.hid (show Wb.cell? ⟨w.heap.size, 0, none⟩ = some (.string out) from blk_cell hbx 0)
  have Q1 := Lib.hid (show Wb.cell? ⟨w.heap.size, 1, none⟩ = some (.string cmd) from blk_cell hbx 1)
  have Q2 := Lib.hid (show Wb.cell? ⟨w.heap.size, 2, none⟩ = some (.int .i64 time) from blk_cell hbx 2)
  have Q3 := Lib.hid (show Wb.cell? ⟨w.heap.size, 3, none⟩ = some (.int .i64 mark) from blk_cell hbx 3)
  have Q4 := Lib.hid (show Wb.cell? ⟨w.heap.size, 4, none⟩ = some (.slice AI ins.length cI) from blk_cell hbx 4)
  have Q5 := Lib.hid (show Wb.cell? ⟨w.heap.size, 5, none⟩ = some (.slice AF found.length cF) from blk_cell hbx 5)
  have HI := Lib.hid (hI.below hb0)
  have HF := Lib.hid (hF.below hb0)
  have HRS := Lib.hid hrs
  have HB0 := Lib.hid hb0
  have HSZ := Lib.hid hsz
  have HWB := Lib.hid hWb
  have HBD : Hid (Below Wb.heap.size Wb Wb.drew) := Below.drew (Below.refl _ _)
  have HNA : Hid (((Wb.drew.alloc (.cells (nums .i64 []).toArray 3)).alloc (.cells #[.string ⟨#[]⟩, .string ⟨#[]⟩, .int .i64 0, .int .i64 0, .slice none 0 0, .slice none 0 0] 25)).heap[Wb.heap.size + 1]? = some (.cells #[.string ⟨#[]⟩, .string ⟨#[]⟩, .int .i64 0, .int .i64 0, .slice none 0 0, .slice none 0 0] 25 (0, 0))) := by
    have e : (Wb.drew.alloc (.cells (nums .i64 []).toArray 3)).heap.size = Wb.heap.size + 1 := World.size_alloc' Wb.drew _
    show _ = _
    rw [← e]
    exact heap_alloc_new _ _
  have HNB : Hid (((Wb.drew.alloc (.cells #[.string ⟨#[]⟩, .string ⟨#[]⟩, .int .i64 0, .int .i64 0, .slice none 0 0, .slice none 0 0] 25)).alloc (.cells (nums .i64 []).toArray 3)).heap[Wb.heap.size]? = some (.cells #[.string ⟨#[]⟩, .string ⟨#[]⟩, .int .i64 0, .int .i64 0, .slice none 0 0, .slice none 0 0] 25 (0, 0))) := (Below.heap_alloc _ _ _ (by rw [World.size_alloc']; exact Nat.lt_succ_self _)).trans (heap_alloc_new Wb.drew _)
  have HL2 : Hid (Oi Wb (((Wb.alloc (.cells #[.string ⟨#[]⟩, .string ⟨#[]⟩, .int .i64 0, .int .i64 0, .slice none 0 0, .slice none 0 0] 25)).alloc (.cells #[] 3)).drew) (.slice (some ⟨Wb.heap.size + 1, 0, none⟩) 0 0) []) := by
    have h := Oi.lit (w0 := Wb) (W := Wb.alloc (.cells #[.string ⟨#[]⟩, .string ⟨#[]⟩, .int .i64 0, .int .i64 0, .slice none 0 0, .slice none 0 0] 25)) (below_alloc (Below.refl _ _) _) [] (by simp)
    rw [World.size_alloc'] at h
    exact h.step (below_drew (Below.refl _ _))
  clear hI hF hrs hb0 hsz hbx hWb
  go_enter Try.func21, Try.ntmps21
  go_wp2
  rw [← HWB.out]
  refine start_ (n := 15) (S := fun w' => Below Wb.heap.size Wb w' ∧ w'.cell? ⟨w.heap.size, 0, none⟩ = some (.string out) ∧ w'.cell? ⟨w.heap.size, 1, none⟩ = some (.string cmd) ∧ w'.cell? ⟨w.heap.size, 2, none⟩ = some (.int .i64 time) ∧ w'.cell? ⟨w.heap.size, 3, none⟩ = some (.int .i64 mark) ∧ w'.cell? ⟨w.heap.size, 5, none⟩ = some (.slice AF found.length cF)) (ds := []) #[false, false, false, false, false, false, false, false, false, false, false, false, false, false, false] (by kernel_rfl) rfl rfl ⟨HBD.out, Q0.out, Q1.out, Q2.out, Q3.out, Q5.out⟩ (fun hHeld => ?_)
  refine pure_ (i := 0) (N := some 5) (v := ?_) (a' := ?_) #[true, false, false, false, false, false, false, false, false, false, false, false, false, false, false] rfl rfl (by kernel_rfl) (fun _ _ _ h => h) (Or.inl ⟨by rfl, ?_⟩) ?_ ?_
  rotate_left
  · intro w'
    go_simp
    with_reducible rfl
  rotate_left
  · simp only [Act.put, List.setIfInBounds_toArray, List.set_cons_zero, List.set_cons_succ, i64_w, i32_w]
    rfl
  refine pure_ (i := 2) (N := some 7) (v := ?_) (a' := ?_) #[true, false, true, false, false, false, false, false, false, false, false, false, false, false, false] rfl rfl (by kernel_rfl) (fun _ _ _ h => h) (Or.inl ⟨by rfl, ?_⟩) ?_ ?_
  rotate_left
  · intro w'
    go_simp
    with_reducible rfl
  rotate_left
  · simp only [Act.put, List.setIfInBounds_toArray, List.set_cons_zero, List.set_cons_succ, i64_w, i32_w]
    rfl
  refine pure_ (i := 4) (N := some 9) (v := ?_) (a' := ?_) #[true, false, true, false, true, false, false, false, false, false, false, false, false, false, false] rfl rfl (by kernel_rfl) (fun _ _ _ h => h) (Or.inl ⟨by rfl, ?_⟩) ?_ ?_
  rotate_left
  · intro w'
    go_simp
    with_reducible rfl
  rotate_left
  · simp only [Act.put, List.setIfInBounds_toArray, List.set_cons_zero, List.set_cons_succ, i64_w, i32_w]
    rfl
  refine pure_ (i := 6) (N := some 11) (v := ?_) (a' := ?_) #[true, false, true, false, true, false, true, false, false, false, false, false, false, false, false] rfl rfl (by kernel_rfl) (fun _ _ _ h => h) (Or.inl ⟨by rfl, ?_⟩) ?_ ?_
  rotate_left
  · intro w'
    go_simp
    with_reducible rfl
  rotate_left
  · simp only [Act.put, List.setIfInBounds_toArray, List.set_cons_zero, List.set_cons_succ, i64_w, i32_w]
    rfl
  refine pure_ (i := 9) (N := some 14) (v := ?_) (a' := ?_) #[true, false, true, false, true, false, true, false, false, true, false, false, false, false, false] rfl rfl (by kernel_rfl) (fun _ _ _ h => h) (Or.inl ⟨by rfl, ?_⟩) ?_ ?_
  rotate_left
  · intro w'
    go_simp
    with_reducible rfl
  rotate_left
  · simp only [Act.put, List.setIfInBounds_toArray, List.set_cons_zero, List.set_cons_succ, i64_w, i32_w]
    rfl
  refine take_ (i := 1) (N := some 6) (v := ?_) (a' := ?_) #[true, true, true, false, true, false, true, false, false, true, false, false, false, false, false] rfl rfl (by kernel_rfl) (fun _ _ _ h => h) (Or.inl ⟨by rfl, ?_⟩) hHeld ?_ ?_
  rotate_left
  · rintro w' ⟨s0, s1, s2, s3, s4, s5⟩
    go_simp
    with_reducible rfl
  rotate_left
  · simp only [Act.put, List.setIfInBounds_toArray, List.set_cons_zero, List.set_cons_succ, i64_w, i32_w]
    rfl
  refine take_ (i := 3) (N := some 8) (v := ?_) (a' := ?_) #[true, true, true, true, true, false, true, false, false, true, false, false, false, false, false] rfl rfl (by kernel_rfl) (fun _ _ _ h => h) (Or.inl ⟨by rfl, ?_⟩) hHeld ?_ ?_
  rotate_left
  · rintro w' ⟨s0, s1, s2, s3, s4, s5⟩
    go_simp
    with_reducible rfl
  rotate_left
  · simp only [Act.put, List.setIfInBounds_toArray, List.set_cons_zero, List.set_cons_succ, i64_w, i32_w]
    rfl
  refine take_ (i := 5) (N := some 10) (v := ?_) (a' := ?_) #[true, true, true, true, true, true, true, false, false, true, false, false, false, false, false] rfl rfl (by kernel_rfl) (fun _ _ _ h => h) (Or.inl ⟨by rfl, ?_⟩) hHeld ?_ ?_
  rotate_left
  · rintro w' ⟨s0, s1, s2, s3, s4, s5⟩
    go_simp
    with_reducible rfl
  rotate_left
  · simp only [Act.put, List.setIfInBounds_toArray, List.set_cons_zero, List.set_cons_succ, i64_w, i32_w]
    rfl
  refine take_ (i := 7) (N := some 12) (v := ?_) (a' := ?_) #[true, true, true, true, true, true, true, true, false, true, false, false, false, false, false] rfl rfl (by kernel_rfl) (fun _ _ _ h => h) (Or.inl ⟨by rfl, ?_⟩) hHeld ?_ ?_
  rotate_left
  · rintro w' ⟨s0, s1, s2, s3, s4, s5⟩
    go_simp
    with_reducible rfl
  rotate_left
  · simp only [Act.put, List.setIfInBounds_toArray, List.set_cons_zero, List.set_cons_succ, i64_w, i32_w]
    rfl
  refine take_ (i := 10) (N := some 15) (v := ?_) (a' := ?_) #[true, true, true, true, true, true, true, true, false, true, true, false, false, false, false] rfl rfl (by kernel_rfl) (fun _ _ _ h => h) (Or.inl ⟨by rfl, ?_⟩) hHeld ?_ ?_
  rotate_left
  · rintro w' ⟨s0, s1, s2, s3, s4, s5⟩
    go_simp
    with_reducible rfl
  rotate_left
  · simp only [Act.put, List.setIfInBounds_toArray, List.set_cons_zero, List.set_cons_succ, i64_w, i32_w]
    rfl
  refine join_ (σ := Nat × Value × Value) 1 #[true, true, true, true, true, true, true, true, true, true, true, true, true, true, false] (fun s => [(13, s.2.1), (3, .pointer (some ⟨s.1, 0, none⟩)), (16, s.2.2), (17, .agg #[.string out, .string cmd, .int .i64 time, .int .i64 mark, .slice none 0 0, s.2.2])]) (fun s w' => Below Wb.heap.size Wb w' ∧ w'.heap[s.1]? = some (.cells #[.string ⟨#[]⟩, .string ⟨#[]⟩, .int .i64 0, .int .i64 0, .slice none 0 0, .slice none 0 0] 25 (0, 0)) ∧ Wb.heap.size ≤ s.1 ∧ Oi Wb w' s.2.2 found ∧ ∃ A n c, s.2.2 = .slice A n c) ?_ ?_
  rotate_left
  · intro hCont
    refine two_ (i := 8) (j := 13) (Ni := some 13) (Nj := some 3) #[true, true, true, true, true, true, true, true, true, true, true, false, false, false, false] #[true, true, true, true, true, true, true, true, false, true, true, false, false, true, false] rfl rfl rfl rfl (by kernel_rfl) (by decide) (by decide) (fun K hK => ?_) (fun K hK => ?_)
    · skip
      refine value_ (w1 := ?_) (v := ?_) (by rfl) rfl ?_ ?_
      rotate_left 2
      · go_simp
        constructor
        · rfl
        · rfl
      refine hK.out _ _ ⟨hHeld.1.alloc hHeld.1.size _, pw_cell_below (hHeld.1.alloc hHeld.1.size _) Q0.out, pw_cell_below (hHeld.1.alloc hHeld.1.size _) Q1.out, pw_cell_below (hHeld.1.alloc hHeld.1.size _) Q2.out, pw_cell_below (hHeld.1.alloc hHeld.1.size _) Q3.out, pw_cell_below (hHeld.1.alloc hHeld.1.size _) Q5.out⟩ (fun hHeld => ?_)
      clear hK K
      refine norm_ (a' := ?_) ?_ ?_
      rotate_left
      · show Act.put _ (some 13) _ = _
        simp only [Act.put, List.setIfInBounds_toArray, List.set_cons_zero, List.set_cons_succ, i64_w, i32_w]
        rfl
      refine two_ (i := 11) (j := 13) (Ni := some 16) (Nj := some 3) #[true, true, true, true, true, true, true, true, true, true, true, true, false, false, false] #[true, true, true, true, true, true, true, true, true, true, true, false, false, true, false] rfl rfl rfl rfl (by kernel_rfl) (by decide) (by decide) (fun K hK => ?_) (fun K hK => ?_)
      · skip
        refine app_nums_step rfl (.tmp 13) (.tmp 15) 23 rfl Try.underlying23 (.slice (some ⟨Wb.heap.size, 0, none⟩) 0 0) _ [] found rfl rfl (Oi.lit HBD.out [] (by simp)) (HF.out.below hHeld.1) (by simp only [List.length_nil]; omega) ?_
        intro va wa oa ga
        rw [List.nil_append] at oa
        obtain ⟨A7, n7, c7, rfl, h7⟩ := oa.slice
        have HOa := Lib.hid oa
        clear oa ga h7
        refine hK.out _ _ ⟨HOa.out.below, pw_cell_below (HOa.out.below) Q0.out, pw_cell_below (HOa.out.below) Q1.out, pw_cell_below (HOa.out.below) Q2.out, pw_cell_below (HOa.out.below) Q3.out, pw_cell_below (HOa.out.below) Q5.out⟩ (fun hHeld => ?_)
        clear hK K
        refine norm_ (a' := ?_) ?_ ?_
        rotate_left
        · show Act.put _ (some 16) _ = _
          simp only [Act.put, List.setIfInBounds_toArray, List.set_cons_zero, List.set_cons_succ, i64_w, i32_w]
          rfl
        refine pure_ (i := 12) (N := some 17) (v := ?_) (a' := ?_) #[true, true, true, true, true, true, true, true, true, true, true, true, true, false, false] rfl rfl (by kernel_rfl) (fun _ _ _ h => h) (Or.inl ⟨by rfl, ?_⟩) ?_ ?_
        rotate_left
        · intro w'
          go_simp
          with_reducible rfl
        rotate_left
        · simp only [Act.put, List.setIfInBounds_toArray, List.set_cons_zero, List.set_cons_succ, i64_w, i32_w]
          rfl
        refine one_ (i := 13) (N := some 3) #[true, true, true, true, true, true, true, true, true, true, true, true, true, true, false] rfl rfl (by kernel_rfl) (by decide) (fun K hK => ?_)
        refine value_ (w1 := ?_) (v := ?_) (by rfl) rfl ?_ ?_
        rotate_left 2
        · go_simp
          constructor
          · rfl
          · rfl
        refine hK.out _ _ ⟨hHeld.1.alloc hHeld.1.size _, pw_cell_below (hHeld.1.alloc hHeld.1.size _) Q0.out, pw_cell_below (hHeld.1.alloc hHeld.1.size _) Q1.out, pw_cell_below (hHeld.1.alloc hHeld.1.size _) Q2.out, pw_cell_below (hHeld.1.alloc hHeld.1.size _) Q3.out, pw_cell_below (hHeld.1.alloc hHeld.1.size _) Q5.out⟩ (fun hHeld => ?_)
        clear hK K
        refine norm_ (a' := ?_) ?_ ?_
        rotate_left
        · show Act.put _ (some 3) _ = _
          simp only [Act.put, List.setIfInBounds_toArray, List.set_cons_zero, List.set_cons_succ, i64_w, i32_w]
          rfl
        exact norm_ (by simp only [putAll, Act.put, List.setIfInBounds_toArray, List.set_cons_zero, List.set_cons_succ]) (hCont (wa.heap.size, .slice (some ⟨Wb.heap.size, 0, none⟩) 0 0, .slice A7 n7 c7) _ ⟨hHeld.1, heap_alloc_new wa _, HOa.out.below.size, HOa.out.step (below_alloc (Below.refl _ _) _), _, _, _, rfl⟩)
      · skip
        refine value_ (w1 := ?_) (v := ?_) (by rfl) rfl ?_ ?_
        rotate_left 2
        · go_simp
          constructor
          · rfl
          · rfl
        refine hK.out _ _ ⟨hHeld.1.alloc hHeld.1.size _, pw_cell_below (hHeld.1.alloc hHeld.1.size _) Q0.out, pw_cell_below (hHeld.1.alloc hHeld.1.size _) Q1.out, pw_cell_below (hHeld.1.alloc hHeld.1.size _) Q2.out, pw_cell_below (hHeld.1.alloc hHeld.1.size _) Q3.out, pw_cell_below (hHeld.1.alloc hHeld.1.size _) Q5.out⟩ (fun hHeld => ?_)
        clear hK K
        refine norm_ (a' := ?_) ?_ ?_
        rotate_left
        · show Act.put _ (some 3) _ = _
          simp only [Act.put, List.setIfInBounds_toArray, List.set_cons_zero, List.set_cons_succ, i64_w, i32_w]
          rfl
        refine one_ (i := 11) (N := some 16) #[true, true, true, true, true, true, true, true, true, true, true, true, false, true, false] rfl rfl (by kernel_rfl) (by decide) (fun K hK => ?_)
        refine app_nums_step rfl (.tmp 13) (.tmp 15) 23 rfl Try.underlying23 (.slice (some ⟨Wb.heap.size, 0, none⟩) 0 0) _ [] found rfl rfl ((Oi.lit HBD.out [] (by simp)).step (below_alloc (Below.refl _ _) _)) (HF.out.below hHeld.1) (by simp only [List.length_nil]; omega) ?_
        intro va wa oa ga
        rw [List.nil_append] at oa
        obtain ⟨A7, n7, c7, rfl, h7⟩ := oa.slice
        have HOa := Lib.hid oa
        have HZa : Hid (wa.heap[Wb.heap.size + 1]? = some (.cells #[.string ⟨#[]⟩, .string ⟨#[]⟩, .int .i64 0, .int .i64 0, .slice none 0 0, .slice none 0 0] 25 (0, 0))) := (ga.block _ (blk_lt HNA.out) (by simp only [Value.ownBlock]; intro h; injection h with h; omega)).trans HNA.out
        clear oa ga h7
        refine hK.out _ _ ⟨HOa.out.below, pw_cell_below (HOa.out.below) Q0.out, pw_cell_below (HOa.out.below) Q1.out, pw_cell_below (HOa.out.below) Q2.out, pw_cell_below (HOa.out.below) Q3.out, pw_cell_below (HOa.out.below) Q5.out⟩ (fun hHeld => ?_)
        clear hK K
        refine norm_ (a' := ?_) ?_ ?_
        rotate_left
        · show Act.put _ (some 16) _ = _
          simp only [Act.put, List.setIfInBounds_toArray, List.set_cons_zero, List.set_cons_succ, i64_w, i32_w]
          rfl
        refine pure_ (i := 12) (N := some 17) (v := ?_) (a' := ?_) #[true, true, true, true, true, true, true, true, true, true, true, true, true, true, false] rfl rfl (by kernel_rfl) (fun _ _ _ h => h) (Or.inl ⟨by rfl, ?_⟩) ?_ ?_
        rotate_left
        · intro w'
          go_simp
          with_reducible rfl
        rotate_left
        · simp only [Act.put, List.setIfInBounds_toArray, List.set_cons_zero, List.set_cons_succ, i64_w, i32_w]
          rfl
        exact norm_ (by simp only [putAll, Act.put, List.setIfInBounds_toArray, List.set_cons_zero, List.set_cons_succ]) (hCont (Wb.heap.size + 1, .slice (some ⟨Wb.heap.size, 0, none⟩) 0 0, .slice A7 n7 c7) _ ⟨hHeld.1, HZa.out, by omega, HOa.out, _, _, _, rfl⟩)
    · skip
      refine value_ (w1 := ?_) (v := ?_) (by rfl) rfl ?_ ?_
      rotate_left 2
      · go_simp
        constructor
        · rfl
        · rfl
      refine hK.out _ _ ⟨hHeld.1.alloc hHeld.1.size _, pw_cell_below (hHeld.1.alloc hHeld.1.size _) Q0.out, pw_cell_below (hHeld.1.alloc hHeld.1.size _) Q1.out, pw_cell_below (hHeld.1.alloc hHeld.1.size _) Q2.out, pw_cell_below (hHeld.1.alloc hHeld.1.size _) Q3.out, pw_cell_below (hHeld.1.alloc hHeld.1.size _) Q5.out⟩ (fun hHeld => ?_)
      clear hK K
      refine norm_ (a' := ?_) ?_ ?_
      rotate_left
      · show Act.put _ (some 3) _ = _
        simp only [Act.put, List.setIfInBounds_toArray, List.set_cons_zero, List.set_cons_succ, i64_w, i32_w]
        rfl
      refine one_ (i := 8) (N := some 13) #[true, true, true, true, true, true, true, true, true, true, true, false, false, true, false] rfl rfl (by kernel_rfl) (by decide) (fun K hK => ?_)
      refine value_ (w1 := ?_) (v := ?_) (by rfl) rfl ?_ ?_
      rotate_left 2
      · go_simp
        constructor
        · rfl
        · rfl
      refine hK.out _ _ ⟨hHeld.1.alloc hHeld.1.size _, pw_cell_below (hHeld.1.alloc hHeld.1.size _) Q0.out, pw_cell_below (hHeld.1.alloc hHeld.1.size _) Q1.out, pw_cell_below (hHeld.1.alloc hHeld.1.size _) Q2.out, pw_cell_below (hHeld.1.alloc hHeld.1.size _) Q3.out, pw_cell_below (hHeld.1.alloc hHeld.1.size _) Q5.out⟩ (fun hHeld => ?_)
      clear hK K
      refine norm_ (a' := ?_) ?_ ?_
      rotate_left
      · show Act.put _ (some 13) _ = _
        simp only [Act.put, List.setIfInBounds_toArray, List.set_cons_zero, List.set_cons_succ, i64_w, i32_w]
        rfl
      refine one_ (i := 11) (N := some 16) #[true, true, true, true, true, true, true, true, true, true, true, true, false, true, false] rfl rfl (by kernel_rfl) (by decide) (fun K hK => ?_)
      refine app_nums_step rfl (.tmp 13) (.tmp 15) 23 rfl Try.underlying23 (.slice (some ⟨Wb.heap.size + 1, 0, none⟩) 0 0) _ [] found rfl rfl (HL2.out) (HF.out.below hHeld.1) (by simp only [List.length_nil]; omega) ?_
      intro va wa oa ga
      rw [List.nil_append] at oa
      obtain ⟨A7, n7, c7, rfl, h7⟩ := oa.slice
      have HOa := Lib.hid oa
      have HZa : Hid (wa.heap[Wb.heap.size]? = some (.cells #[.string ⟨#[]⟩, .string ⟨#[]⟩, .int .i64 0, .int .i64 0, .slice none 0 0, .slice none 0 0] 25 (0, 0))) := (ga.block _ (blk_lt HNB.out) (by simp only [Value.ownBlock]; intro h; injection h with h; omega)).trans HNB.out
      clear oa ga h7
      refine hK.out _ _ ⟨HOa.out.below, pw_cell_below (HOa.out.below) Q0.out, pw_cell_below (HOa.out.below) Q1.out, pw_cell_below (HOa.out.below) Q2.out, pw_cell_below (HOa.out.below) Q3.out, pw_cell_below (HOa.out.below) Q5.out⟩ (fun hHeld => ?_)
      clear hK K
      refine norm_ (a' := ?_) ?_ ?_
      rotate_left
      · show Act.put _ (some 16) _ = _
        simp only [Act.put, List.setIfInBounds_toArray, List.set_cons_zero, List.set_cons_succ, i64_w, i32_w]
        rfl
      refine pure_ (i := 12) (N := some 17) (v := ?_) (a' := ?_) #[true, true, true, true, true, true, true, true, true, true, true, true, true, true, false] rfl rfl (by kernel_rfl) (fun _ _ _ h => h) (Or.inl ⟨by rfl, ?_⟩) ?_ ?_
      rotate_left
      · intro w'
        go_simp
        with_reducible rfl
      rotate_left
      · simp only [Act.put, List.setIfInBounds_toArray, List.set_cons_zero, List.set_cons_succ, i64_w, i32_w]
        rfl
      exact norm_ (by simp only [putAll, Act.put, List.setIfInBounds_toArray, List.set_cons_zero, List.set_cons_succ]) (hCont (Wb.heap.size, .slice (some ⟨Wb.heap.size + 1, 0, none⟩) 0 0, .slice A7 n7 c7) _ ⟨hHeld.1, HZa.out, Nat.le_refl _, HOa.out, _, _, _, rfl⟩)
  rintro ⟨g, v13, va⟩ wz ⟨hF1, hF2, hF3, hF4, A7, n7, c7, hF5⟩
  simp only at hF2 hF3 hF4 hF5
  subst hF5
  have hHeld : Below Wb.heap.size Wb wz ∧ wz.cell? ⟨w.heap.size, 0, none⟩ = some (.string out) ∧ wz.cell? ⟨w.heap.size, 1, none⟩ = some (.string cmd) ∧ wz.cell? ⟨w.heap.size, 2, none⟩ = some (.int .i64 time) ∧ wz.cell? ⟨w.heap.size, 3, none⟩ = some (.int .i64 mark) ∧ wz.cell? ⟨w.heap.size, 5, none⟩ = some (.slice AF found.length cF) := ⟨hF1, pw_cell_below (hF1) Q0.out, pw_cell_below (hF1) Q1.out, pw_cell_below (hF1) Q2.out, pw_cell_below (hF1) Q3.out, pw_cell_below (hF1) Q5.out⟩
  have HZ := Lib.hid hF2
  have HG := Lib.hid hF3
  have HOa := Lib.hid hF4
  clear hF1 hF2 hF3 hF4
  refine norm_ (a' := ?_) ?_ ?_
  rotate_left
  · simp only [putAll, Act.put, List.setIfInBounds_toArray, List.set_cons_zero, List.set_cons_succ]
    rfl
  refine one_ (i := 14) (N := none) #[true, true, true, true, true, true, true, true, true, true, true, true, true, true, true] rfl rfl (by kernel_rfl) (by decide) (fun K hK => ?_)
  refine store_row_step rfl rfl 25 (.tmp 3) (.tmp 17) rfl g _ rfl rfl 25 _ HZ.out (by kernel_rfl) rfl (by simp [Value.oneCell']) ?_
  refine hK.out _ _ ⟨set_below hHeld.1 HG.out _, pw_cell_below (set_below hHeld.1 HG.out _) Q0.out, pw_cell_below (set_below hHeld.1 HG.out _) Q1.out, pw_cell_below (set_below hHeld.1 HG.out _) Q2.out, pw_cell_below (set_below hHeld.1 HG.out _) Q3.out, pw_cell_below (set_below hHeld.1 HG.out _) Q5.out⟩ (fun hHeld => ?_)
  clear hK K
  refine done_ (by kernel_rfl) ?_
  obtain ⟨W2, hW2⟩ : ∃ W2, W2 = wz.setRow g #[.string out, .string cmd, .int .i64 time, .int .i64 mark, .slice none 0 0, .slice A7 n7 c7] := ⟨_, rfl⟩
  have HG2 : Hid (W2.heap[g]? = some (.cells #[.string out, .string cmd, .int .i64 time, .int .i64 mark, .slice none 0 0, .slice A7 n7 c7] 25 (0, 0))) := by show _ = _; rw [hW2]; exact setRow_heap _ _ _ _ _ _ HZ.out
  have HO2 : Hid (Oi Wb W2 (.slice A7 n7 c7) found) := by show Oi _ _ _ _; rw [hW2]; exact oi_only HOa.out ((Only.refl g wz).setRow _) HZ.out (by decide) HG.out
  rw [← hW2]
  clear hHeld HOa HZ
  clear hW2
  --S1
  go_wp2
  go_loopw [4] (fun i wr => ∃ (k : Nat) (vi : Value), k ≤ ins.length ∧ i = .int .i64 k ∧ Hid (wr.heap[g]? = some (.cells #[.string out, .string cmd, .int .i64 time, .int .i64 mark, vi, .slice A7 n7 c7] 25 (0, 0))) ∧ Hid (Ri 46 wr Wb.heap.size vi (ins.take k)) ∧ Hid (Oi Wb wr (.slice A7 n7 c7) found)) (fun i _ => ins.length - (intOf i).toNat)
  case atStart => exact ⟨0, .slice none 0 0, by omega, rfl, HG2.out, Kd.R_nil _ _ _ _ _, HO2.out⟩
  case round =>
    clear HG2 HO2
    obtain ⟨k, vi, hk, rfl, HC, HR, HO⟩ := hrel
    obtain ⟨A6, c6, e6, _, _⟩ := (ri_is HR.out).len
    obtain ⟨n6, hn6⟩ : ∃ n6, n6 = (ins.take k).length := ⟨_, rfl⟩
    rw [← hn6] at e6
    subst e6
    clear hn6
    have f4 := pw_cell_below HO.out.below Q4.out
    by_cases l1 : k < ins.length
    · obtain ⟨ad, e1, q1, q2⟩ := HI.out.get k l1
      cases e1
      have hin : ins.take (k + 1) = ins.take k ++ [ins.getD k (ByteArray.empty, 0)] := by
        rw [List.take_add_one, List.getElem?_eq_getElem l1, List.getD_eq_getElem?_getD, List.getElem?_eq_getElem l1]; rfl
      have HIN := Lib.hid hin
      clear hin
      generalize ins.getD k (ByteArray.empty, 0) = pk at q1 q2 HIN
      obtain ⟨nm, tm⟩ := pk
      simp only at q1 q2
      have P1 := Lib.hid q1
      have P2 := Lib.hid (second_cell q2)
      have HBR := Lib.hid HO.out.below.drew
      have HOD := Lib.hid (HO.out.step (below_drew (Below.refl _ _)))
      have HRD : Hid (Ri 46 wr.drew Wb.heap.size (.slice A6 n6 c6) (ins.take k)) := Kd.R_step HR.out (fun _ _ _ => rfl)
      clear q1 q2
      go_wp2
      --S2
      refine start_ (n := 19) (S := fun w' => Below Wb.heap.size Wb w' ∧ w'.cell? ⟨g, 4, none⟩ = some (.slice A6 n6 c6) ∧ w'.cell? ⟨w.heap.size, 4, none⟩ = some (.slice (some ad) ins.length cI) ∧ w'.cell? (ad.add (k * 2)) = some (.string nm) ∧ w'.cell? ⟨(ad.add (k * 2)).block, (ad.add (k * 2)).off + 1, none⟩ = some (.int .i64 tm)) (ds := [18]) #[false, false, false, false, false, false, false, false, false, false, false, false, false, false, false, false, false, false, false] (by kernel_rfl) rfl rfl ⟨HBR.out, blk_cell HC.out 4, f4, pw_cell_below HO.out.below P1.out, pw_cell_below HO.out.below P2.out⟩ (fun hHeld => ?_)
      refine pure_ (i := 0) (N := some 25) (v := ?_) (a' := ?_) #[true, false, false, false, false, false, false, false, false, false, false, false, false, false, false, false, false, false, false] rfl rfl (by kernel_rfl) (fun _ _ _ h => h) (Or.inl ⟨by rfl, ?_⟩) ?_ ?_
      rotate_left
      · intro w'
        go_simp
        with_reducible rfl
      rotate_left
      · simp only [Act.put, List.setIfInBounds_toArray, List.set_cons_zero, List.set_cons_succ, i64_w, i32_w]
        rfl
      refine pure_ (i := 2) (N := some 27) (v := ?_) (a' := ?_) #[true, false, true, false, false, false, false, false, false, false, false, false, false, false, false, false, false, false, false] rfl rfl (by kernel_rfl) (fun _ _ _ h => h) (Or.inl ⟨by rfl, ?_⟩) ?_ ?_
      rotate_left
      · intro w'
        go_simp
        with_reducible rfl
      rotate_left
      · simp only [Act.put, List.setIfInBounds_toArray, List.set_cons_zero, List.set_cons_succ, i64_w, i32_w]
        rfl
      refine pure_ (i := 4) (N := some 29) (v := ?_) (a' := ?_) #[true, false, true, false, true, false, false, false, false, false, false, false, false, false, false, false, false, false, false] rfl rfl (by kernel_rfl) (fun _ _ _ h => h) (Or.inl ⟨by rfl, ?_⟩) ?_ ?_
      rotate_left
      · intro w'
        go_simp
        with_reducible rfl
      rotate_left
      · simp only [Act.put, List.setIfInBounds_toArray, List.set_cons_zero, List.set_cons_succ, i64_w, i32_w]
        rfl
      refine pure_ (i := 8) (N := some 33) (v := ?_) (a' := ?_) #[true, false, true, false, true, false, false, false, true, false, false, false, false, false, false, false, false, false, false] rfl rfl (by kernel_rfl) (fun _ _ _ h => h) (Or.inl ⟨by rfl, ?_⟩) ?_ ?_
      rotate_left
      · intro w'
        go_simp
        with_reducible rfl
      rotate_left
      · simp only [Act.put, List.setIfInBounds_toArray, List.set_cons_zero, List.set_cons_succ, i64_w, i32_w]
        rfl
      refine pure_ (i := 10) (N := some 35) (v := ?_) (a' := ?_) #[true, false, true, false, true, false, false, false, true, false, true, false, false, false, false, false, false, false, false] rfl rfl (by kernel_rfl) (fun _ _ _ h => h) (Or.inl ⟨by rfl, ?_⟩) ?_ ?_
      rotate_left
      · intro w'
        go_simp
        with_reducible rfl
      rotate_left
      · simp only [Act.put, List.setIfInBounds_toArray, List.set_cons_zero, List.set_cons_succ, i64_w, i32_w]
        rfl
      refine take_ (i := 1) (N := some 26) (v := ?_) (a' := ?_) #[true, true, true, false, true, false, false, false, true, false, true, false, false, false, false, false, false, false, false] rfl rfl (by kernel_rfl) (fun _ _ _ h => h) (Or.inl ⟨by rfl, ?_⟩) hHeld ?_ ?_
      rotate_left
      · rintro w' ⟨s0, s1, s2, s3, s4⟩
        go_simp
        with_reducible rfl
      rotate_left
      · simp only [Act.put, List.setIfInBounds_toArray, List.set_cons_zero, List.set_cons_succ, i64_w, i32_w]
        rfl
      refine take_ (i := 3) (N := some 28) (v := ?_) (a' := ?_) #[true, true, true, true, true, false, false, false, true, false, true, false, false, false, false, false, false, false, false] rfl rfl (by kernel_rfl) (fun _ _ _ h => h) (Or.inl ⟨by rfl, ?_⟩) hHeld ?_ ?_
      rotate_left
      · rintro w' ⟨s0, s1, s2, s3, s4⟩
        go_simp
        with_reducible rfl
      rotate_left
      · simp only [Act.put, List.setIfInBounds_toArray, List.set_cons_zero, List.set_cons_succ, i64_w, i32_w]
        rfl
      refine pure_ (i := 5) (N := some 30) (v := ?_) (a' := ?_) #[true, true, true, true, true, true, false, false, true, false, true, false, false, false, false, false, false, false, false] rfl rfl (by kernel_rfl) (fun _ _ _ h => h) (Or.inl ⟨by rfl, ?_⟩) ?_ ?_
      rotate_left
      · intro w'
        go_simp
        with_reducible rfl
      rotate_left
      · simp only [Act.put, List.setIfInBounds_toArray, List.set_cons_zero, List.set_cons_succ, i64_w, i32_w]
        rfl
      refine pure_ (i := 6) (N := some 31) (v := ?_) (a' := ?_) #[true, true, true, true, true, true, true, false, true, false, true, false, false, false, false, false, false, false, false] rfl rfl (by kernel_rfl) (fun _ _ _ h => h) (Or.inl ⟨by rfl, ?_⟩) ?_ ?_
      rotate_left
      · intro w'
        go_simp
        with_reducible rfl
      rotate_left
      · simp only [Act.put, List.setIfInBounds_toArray, List.set_cons_zero, List.set_cons_succ, i64_w, i32_w]
        rfl
      refine take_ (i := 7) (N := some 32) (v := ?_) (a' := ?_) #[true, true, true, true, true, true, true, true, true, false, true, false, false, false, false, false, false, false, false] rfl rfl (by kernel_rfl) (fun _ _ _ h => h) (Or.inl ⟨by rfl, ?_⟩) hHeld ?_ ?_
      rotate_left
      · rintro w' ⟨s0, s1, s2, s3, s4⟩
        go_simp
        with_reducible rfl
      rotate_left
      · simp only [Act.put, List.setIfInBounds_toArray, List.set_cons_zero, List.set_cons_succ, i64_w, i32_w]
        rfl
      refine take_ (i := 9) (N := some 34) (v := ?_) (a' := ?_) #[true, true, true, true, true, true, true, true, true, true, true, false, false, false, false, false, false, false, false] rfl rfl (by kernel_rfl) (fun _ _ _ h => h) (Or.inl ⟨by rfl, ?_⟩) hHeld ?_ ?_
      rotate_left
      · rintro w' ⟨s0, s1, s2, s3, s4⟩
        go_simp
        with_reducible rfl
      rotate_left
      · simp only [Act.put, List.setIfInBounds_toArray, List.set_cons_zero, List.set_cons_succ, i64_w, i32_w]
        rfl
      refine pure_ (i := 11) (N := some 36) (v := ?_) (a' := ?_) #[true, true, true, true, true, true, true, true, true, true, true, true, false, false, false, false, false, false, false] rfl rfl (by kernel_rfl) (fun _ _ _ h => h) (Or.inl ⟨by rfl, ?_⟩) ?_ ?_
      rotate_left
      · intro w'
        go_simp
        with_reducible rfl
      rotate_left
      · simp only [Act.put, List.setIfInBounds_toArray, List.set_cons_zero, List.set_cons_succ, i64_w, i32_w]
        rfl
      refine pure_ (i := 12) (N := some 37) (v := ?_) (a' := ?_) #[true, true, true, true, true, true, true, true, true, true, true, true, true, false, false, false, false, false, false] rfl rfl (by kernel_rfl) (fun _ _ _ h => h) (Or.inl ⟨by rfl, ?_⟩) ?_ ?_
      rotate_left
      · intro w'
        go_simp
        with_reducible rfl
      rotate_left
      · simp only [Act.put, List.setIfInBounds_toArray, List.set_cons_zero, List.set_cons_succ, i64_w, i32_w]
        rfl
      refine take_ (i := 13) (N := some 38) (v := ?_) (a' := ?_) #[true, true, true, true, true, true, true, true, true, true, true, true, true, true, false, false, false, false, false] rfl rfl (by kernel_rfl) (fun _ _ _ h => h) (Or.inl ⟨by rfl, ?_⟩) hHeld ?_ ?_
      rotate_left
      · rintro w' ⟨s0, s1, s2, s3, s4⟩
        go_simp
        with_reducible rfl
      rotate_left
      · simp only [Act.put, List.setIfInBounds_toArray, List.set_cons_zero, List.set_cons_succ, i64_w, i32_w]
        rfl
      refine pure_ (i := 14) (N := some 39) (v := ?_) (a' := ?_) #[true, true, true, true, true, true, true, true, true, true, true, true, true, true, true, false, false, false, false] rfl rfl (by kernel_rfl) (fun _ _ _ h => h) (Or.inl ⟨by rfl, ?_⟩) ?_ ?_
      rotate_left
      · intro w'
        go_simp
        with_reducible rfl
      rotate_left
      · simp only [Act.put, List.setIfInBounds_toArray, List.set_cons_zero, List.set_cons_succ, i64_w, i32_w]
        rfl
      refine one_ (i := 15) (N := some 40) #[true, true, true, true, true, true, true, true, true, true, true, true, true, true, true, true, false, false, false] rfl rfl (by kernel_rfl) (by decide) (fun K hK => ?_)
      refine value_ (w1 := ?_) (v := ?_) (by rfl) rfl ?_ ?_
      rotate_left 2
      · go_simp
        constructor
        · rfl
        · rfl
      refine hK.out _ _ ⟨hHeld.1.alloc hHeld.1.size _, pw_cell_below (below_alloc (Below.refl _ _) _) hHeld.2.1, pw_cell_below (hHeld.1.alloc hHeld.1.size _) Q4.out, pw_cell_below (hHeld.1.alloc hHeld.1.size _) P1.out, pw_cell_below (hHeld.1.alloc hHeld.1.size _) P2.out⟩ (fun hHeld => ?_)
      clear hK K
      refine norm_ (a' := ?_) ?_ ?_
      rotate_left
      · show Act.put _ (some 40) _ = _
        simp only [Act.put, List.setIfInBounds_toArray, List.set_cons_zero, List.set_cons_succ, i64_w, i32_w]
        rfl
      refine one_ (i := 16) (N := some 41) #[true, true, true, true, true, true, true, true, true, true, true, true, true, true, true, true, true, false, false] rfl rfl (by kernel_rfl) (by decide) (fun K hK => ?_)
      --S4
      refine Kd.R_append_step kin (w0 := Wb) (W := wr.drew) Wb.heap.size rfl (.tmp 26) (.tmp 40) 22 46 (.agg #[.string ⟨#[]⟩, .int .i64 0]) 24 rfl Try.underlying22 (by kernel_rfl) rfl (by decide) (by decide) (.slice A6 n6 c6) (ins.take k) (nm, tm) [.string nm, .int .i64 tm] (fun _ => True) (fun _ => False) rfl rfl (ri_m _ _ _ _) (fun _ hk => hk.elim) (fun _ _ => trivial) HRD.out HBR.out HBR.out.size (by have := List.length_take (i := k) (l := ins); omega) ?_
      --S5
      intro v1 w1 r1 b1 g1 _
      have HR1 := Lib.hid r1
      have HC1 : Hid (w1.heap[g]? = some (.cells #[.string out, .string cmd, .int .i64 time, .int .i64 mark, .slice A6 n6 c6, .slice A7 n7 c7] 25 (0, 0))) := (g1.block g (blk_lt HC.out) (Kd.R_ne HR.out HC.out (by decide))).trans HC.out
      have HO1 : Hid (Oi Wb w1 (.slice A7 n7 c7) found) := oi_grown HOD.out g1 b1 (fun k' hk' => by obtain ⟨cells, hc⟩ := own_typed HOD.out.own k' hk'; exact Kd.R_ne HRD.out hc (by decide))
      have x1 := blk_frozen HC1.out 4
      have x2 := blk_cell HC1.out 4
      obtain ⟨A5, c5, e5, _, _⟩ := (ri_is r1).len
      obtain ⟨n5, hn5⟩ : ∃ n5, n5 = (ins.take k ++ [(nm, tm)]).length := ⟨_, rfl⟩
      rw [← hn5] at e5
      subst e5
      clear hn5 g1 r1
      --S6
      refine hK.out _ _ ⟨b1, x2, pw_cell_below (b1) Q4.out, pw_cell_below (b1) P1.out, pw_cell_below (b1) P2.out⟩ (fun hHeld => ?_)
      clear hK K
      refine norm_ (a' := ?_) ?_ ?_
      rotate_left
      · show Act.put _ (some 41) _ = _
        simp only [Act.put, List.setIfInBounds_toArray, List.set_cons_zero, List.set_cons_succ, i64_w, i32_w]
        rfl
      refine pure_ (i := 17) (N := some 42) (v := ?_) (a' := ?_) #[true, true, true, true, true, true, true, true, true, true, true, true, true, true, true, true, true, true, false] rfl rfl (by kernel_rfl) (fun _ _ _ h => h) (Or.inl ⟨by rfl, ?_⟩) ?_ ?_
      rotate_left
      · intro w'
        go_simp
        with_reducible rfl
      rotate_left
      · simp only [Act.put, List.setIfInBounds_toArray, List.set_cons_zero, List.set_cons_succ, i64_w, i32_w]
        rfl
      refine last_ (i := 18) (N := none) #[true, true, true, true, true, true, true, true, true, true, true, true, true, true, true, true, true, true, true] rfl rfl (by kernel_rfl) (by decide) (fun K hK => ?_)
      refine skip_ (w1 := ?_) (by rfl) rfl ?_ ?_
      rotate_left
      · go_simp
        rfl
      refine hK.out _ _ ?_
      clear hK K
      refine done_ (by kernel_rfl) ?_
      --S7
      have HC2 : Hid ((w1.setCell ⟨g, 4, none⟩ (.slice A5 n5 c5)).heap[g]? = some (.cells #[.string out, .string cmd, .int .i64 time, .int .i64 mark, .slice A5 n5 c5, .slice A7 n7 c7] 25 (0, 0))) := blk_set HC1.out 4 _
      --S8
      have HR2 : Hid (Ri 46 (w1.setCell ⟨g, 4, none⟩ (.slice A5 n5 c5)) Wb.heap.size (.slice A5 n5 c5) (ins.take (k + 1))) := by
        show Ri _ _ _ _ _
        rw [HIN.out]
        exact Kd.R_set HR1.out HC1.out (by decide) 4 _
      --S9
      have HO2 : Hid (Oi Wb (w1.setCell ⟨g, 4, none⟩ (.slice A5 n5 c5)) (.slice A7 n7 c7) found) := oi_only HO1.out ((Only.refl g w1).setCell 4 _) HC1.out (by decide) HG.out
      clear HR1 HC1 HO1 HC HR HO x1 x2 hHeld
      --S10
      obtain ⟨W3, hW3⟩ : ∃ W3, W3 = w1.setCell ⟨g, 4, none⟩ (.slice A5 n5 c5) := ⟨_, rfl⟩
      rw [← hW3] at HC2 HR2 HO2 ⊢
      clear hW3
      --S11
      go_wp2
      --S12
      go_roundw
      --S13
      case rel => exact ⟨k + 1, _, by omega, by go_num, HC2.out, HR2.out, HO2.out⟩
      case measure => simp [intOf]; omega
      --S14
    · have hk2 : k = ins.length := by omega
      have HRe : Hid (Ri 46 wr Wb.heap.size (.slice A6 n6 c6) ins) := by have h := HR.out; rw [hk2, List.take_length] at h; exact h
      have HX : Hid (wr.heap[w.heap.size + 1]? = some (.cells #[.string ⟨#[]⟩, .string ⟨#[]⟩, .int .i64 0, .int .i64 0, .slice none 0 0, .slice none 0 0] 25 (0, 0))) := (HO.out.below.block _ (by rw [HSZ.out]; omega)).trans HRS.out
      clear hk2 HR
      --S15
      go_wp2_with (with_reducible refine gate_ (.load 25 (.tmp 3)) rfl ?_; refine Held.of ?_)
      --S3
      refine Held.out (wpList_load_row rfl 25 (.tmp 3) rfl g rfl 25 _ (0, 0) _ HC.out Try.underlying25 rfl (by kernel_rfl) ?_)
      go_wp2_with (with_reducible refine gate_ (.store 25 (.tmp 2) (.tmp 43)) rfl ?_; refine Held.of ?_)
      refine Held.out (wpList_plain rfl fun K hK => wp_store_row 25 (.tmp 2) (.tmp 43) rfl (w.heap.size + 1) _ rfl rfl 25 _ HX.out (by kernel_rfl) rfl (by simp [Value.oneCell']) (hK _ _ ?_))
      have HY := Lib.hid (setRow_heap wr (w.heap.size + 1) _ (#[.string out, .string cmd, .int .i64 time, .int .i64 mark, .slice A6 n6 c6, .slice A7 n7 c7]) _ _ HX.out)
      go_wp2
      (try simp only [Exit.inBlock, Exit.then])
      refine bodyPost_ret (results_cell_row rfl _ _ (w.heap.size + 1) 25 _ (0, 0) _ rfl HY.out Try.underlying25 rfl (by kernel_rfl)) rfl ?_
      have hon := (Only.refl (w.heap.size + 1) wr).setRow (#[.string out, .string cmd, .int .i64 time, .int .i64 mark, .slice A6 n6 c6, .slice A7 n7 c7])
      refine ⟨_, rfl, ⟨_, _, rfl, Kd.R_lower (Kd.R_mono (Kd.R_step (Kd.R_types HRe.out HX.out (by decide)) fun k' hk' hlt => hon.block k' hlt hk'.2) fun _ _ => trivial) (by rw [HSZ.out]; omega), ?_⟩, (HB0.out.trans (HO.out.below.mono (by rw [HSZ.out]; omega))).trans (hon.below (by omega) (by have := HO.out.below.size; rw [HSZ.out] at this; omega))⟩
      refine own_move (own_weaken HO.out.own (by rw [HSZ.out]; omega)) fun k' hk' => ?_
      have hbs := own_base HO.out.own k' hk'
      have hlt := own_lt HO.out.own k' hk'
      exact hon.block k' hlt (by rw [HSZ.out] at hbs; omega)
    theorem told_any (v : Value) (r : RunV) (w : World) (h : RunIs w v r) (hi5 : r.ins.length ≤ 10000) (hf6 : r.found.length ≤ 10000) :
        Calls Try.prog 21 #[v] w fun e w' => ∃ v', e = .returned v' ∧ RunIs w' v' r ∧ Below w.heap.size w w' :=
      (told_any_own v r w h hi5 hf6).mono fun _ _ ⟨v', h1, h2, h3⟩ => ⟨v', h1, h2.is, h3⟩
--END WALK
end Go.Proofs.Ytehndlafbbpofaa.Run
