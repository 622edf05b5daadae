/- The reference's put (walk). -/
import Derived.Test.YtinonkakpgiblaaNamRefBook
namespace Go.Proofs.Ytinonkakpgiblaa.Nam
open Go.RowKit Go.Proofs.YtinonkakpgiblaaW.PrintWords Go.Proofs.YtinonkakpgiblaaW.PrintLast Go.Proofs.Ytinonkakpgiblaa.Base Go.Proofs.Ytinonkakpgiblaa.Pack Go.Maps
set_option linter.unusedVariables false
set_option linter.unusedSimpArgs false

/-- A row of what was found, read, of whatever type. -/
theorem kd_dz {e base : Nat} {ok : Nat → Prop} {w : World} {v : Value} {l : List DepV} (h : kdep.R e w base ok v (l.map DepV.x)) : Dz w v l := by
  obtain ⟨A, c, rfl, hc, hr⟩ := Kd.R_reads h
  rw [List.length_map] at *
  refine ⟨A, c, rfl, hc, hr.2.1, fun hp => ?_⟩
  obtain ⟨ad, e, hcell⟩ := hr.2.2 hp
  refine ⟨ad, e, fun i hi => ?_⟩
  have hd : (l.map DepV.x)[i]? = some (l.getD i zdep).x := by
    rw [List.getElem?_map, List.getElem?_eq_getElem hi, List.getD_eq_getElem?_getD, List.getElem?_eq_getElem hi]
    rfl
  obtain ⟨cs, _, hk, hcs⟩ := hcell i _ hd
  obtain ⟨c0, c1, rfl, e0, c2, c3, rfl, e2, e3⟩ := hk
  have e0 : c0 = [.string (l.getD i zdep).out] := e0
  have e2 : c2 = [.int .i64 (l.getD i zdep).time] := e2
  obtain ⟨A', c', rfl, hc', hC⟩ := e3
  subst e0 e2
  refine ⟨_, hcs 0 _ rfl, hcs 1 _ rfl, hcs 2 _ rfl, ?_⟩
  have h1 := Kd.reads_of_C (enc := Value.string) (d := ByteArray.empty) hC
  exact ⟨A', c', rfl, hc', h1.2.1, h1.2.2⟩
theorem dep_zero : (Try.prog.info? 24).map (fun i => (i.zero, i.size, i.bytes)) = some (some (.agg #[.string ⟨#[]⟩, .int .i64 0, .slice none 0 0]), 3, 48) := by kernel_rfl
section
variable {ops : Array Oper} {rest : List Oper} {o : Oper} {a : Act} {Q : Exit → Act → World → Prop} {K : Act → World → Prop} {E : Prop}
/-- row[j] = d, as a step. -/
theorem store_elem_step {W : World} (hgd : o.guard = none) (hN : o.dst = none) (p x : Operand) (ho : o.op = .store 24 p x) {q n cap : Nat} (j : Nat) (L : List DepV) (d : DepV) (vd : Value) (ok okp : Nat → Prop)
    (haddr : a.eval p = .pointer (some ⟨q, j * 3, none⟩)) (hx : a.eval x = .agg #[.string d.out, .int .i64 d.time, vd])
    (HO : kdep.R 24 W 0 ok (.slice (some ⟨q, 0, none⟩) n cap) (L.map DepV.x)) (hj : j < n) (hd : Kd.string.R 9 W 0 okp vd d.deps) (hokp : ∀ k, okp k → ok k ∧ k ≠ q)
    (h : ∀ w1, kdep.R 24 w1 0 ok (.slice (some ⟨q, 0, none⟩) n cap) ((L.set j d).map DepV.x) → W.grownBy w1 (some q) → K a w1) :
    if Region.wanted o (yielded ops a.tmps) = true then Oper.wp Try.prog o a W K Q else E := by
  have hw : Region.wanted o (yielded ops a.tmps) = true := by simp [Region.wanted, hgd]
  rw [if_pos hw]
  obtain ⟨hnx, hnc, hC⟩ := Kd.R_reads' HO
  rw [List.length_map] at hnx hC
  obtain ⟨ad, e1, hcell⟩ := hC.2.2 (by omega)
  injection e1 with e1
  subst e1
  obtain ⟨c, hcl, _, hcc⟩ := hcell j (L.getD j zdep).x (by rw [List.getElem?_map, List.getElem?_eq_getElem (by omega), List.getD_eq_getElem?_getD, List.getElem?_eq_getElem (by omega)]; rfl)
  have hcc2 : ∀ i u, c[i]? = some u → W.cell? ⟨q, (j : Int).toNat * kdep.sz + i, none⟩ = some u := fun i u hu => by
    have h2 := hcc i u hu
    have h3 : (⟨q, 0, none⟩ : Addr).add (j * kdep.sz + i) = ⟨q, (j : Int).toNat * kdep.sz + i, none⟩ := by
      unfold Addr.add
      by_cases hz : j * kdep.sz + i = 0
      · rw [if_pos hz, Int.toNat_natCast, hz]
      · rw [if_neg hz, Int.toNat_natCast]
        simp
    rw [h3] at h2
    exact h2
  have hcl3 : c.length = 3 := hcl
  have hM : kdep.M W 0 okp d.x (c.take 0 ++ [.string d.out, .int .i64 d.time, vd] ++ c.drop (0 + [Value.string d.out, .int .i64 d.time, vd].length)) := by
    have : c.drop (0 + [Value.string d.out, .int .i64 d.time, vd].length) = [] := List.drop_of_length_le (by rw [hcl3]; simp)
    rw [this]
    exact kdep_M hd
  obtain ⟨hrow, hg⟩ := Kd.R_seg HO (j : Int) (by omega) (by omega) hcl hcc2 (j := 0) (seg := [.string d.out, .int .i64 d.time, vd]) (by show 0 + 3 ≤ 3; omega) hM hokp
  obtain ⟨A', c', ev⟩ := Kd.R_slice hd
  obtain ⟨_, inner, hown, _⟩ := HO
  have hrun : (Instr.storeAt 24 (.pointer (some ⟨q, j * 3, none⟩)) (.agg #[.string d.out, .int .i64 d.time, vd])).run Try.prog W = .ok () (W.setCells q (j * 3) [.string d.out, .int .i64 d.time, vd]) := by
    rcases hown.2 with ⟨hv, _⟩ | ⟨g', cap', cur, hv, _, hh, hnc', hcm, hcs, _⟩
    · cases hv
    simp only [Value.slice.injEq, Option.some.injEq, Addr.mk.injEq] at hv
    obtain ⟨⟨hg', _⟩, _, hc⟩ := hv
    subst hg'; subst hc
    have hcs : cur.size = cap * 3 := hcs
    have hsz : (Try.prog.info? 24).map (·.size) = some 3 := by kernel_rfl
    exact run_store_run 24 (.agg #[.string d.out, .int .i64 d.time, vd]) [.string d.out, .int .i64 d.time, vd] hh (by simp [Value.cells]) hsz (by simp only [List.length_cons, List.length_nil]; omega) (by rw [ev]; intro u hu; simp only [List.mem_cons, List.not_mem_nil, or_false] at hu; rcases hu with rfl | rfl | rfl <;> rfl)
  have hrow2 : kdep.R 24 (W.setCells q (j * 3) [.string d.out, .int .i64 d.time, vd]) 0 ok (.slice (some ⟨q, 0, none⟩) n cap) ((L.set j d).map DepV.x) := by
    rw [List.map_set]
    exact hrow
  have hg2 : W.grownBy (W.setCells q (j * 3) [.string d.out, .int .i64 d.time, vd]) (some q) := hg
  unfold Oper.wp execOp
  simp only [ho, haddr, hx, Sem.run_bind, Sem.run_pure, Result.andThen_ok, hrun]
  show K (a.put o.dst undef) _
  rw [hN]
  exact h _ hrow2 hg2
/-- append(v, l...), as a step. -/
theorem app_rdeps_step {W : World} (hgd : o.guard = none) (s x : Operand)
    (ho : o.op = .call { callee := .builtin .append, args := #[s, x], argTypes := #[30, 30] })
    (v : Value) (l m : List DepV) (A : Option Addr) (n c : Nat) (ok okp : Nat → Prop) (hs : a.eval s = v) (hx : a.eval x = .slice A n c)
    (HO : kdep.R 24 W 0 ok v (l.map DepV.x)) (HR : ReadsRow (kdep.M W 0 okp) 3 W A n (m.map DepV.x)) (hokp : ∀ k, okp k → ok k ∧ some k ≠ v.ownBlock) (hfresh : ∀ k, W.heap.size ≤ k → ok k) (hl : (l.length + n) * 48 ≤ 140737488355328)
    (h : ∀ v1 w1, kdep.R 24 w1 0 ok v1 ((l ++ m).map DepV.x) → W.grownBy w1 v.ownBlock → (v1.ownBlock = v.ownBlock ∨ ∃ b, v1.ownBlock = some b ∧ W.heap.size ≤ b) → K (a.put o.dst v1) w1) :
    if Region.wanted o (yielded ops a.tmps) = true then Oper.wp Try.prog o a W K Q else E := by
  have hw : Region.wanted o (yielded ops a.tmps) = true := by simp [Region.wanted, hgd]
  have hK := Kd.R_append_rows_step kdep (P := Try.prog) (Kc := K) (Q := Q) (ops := ops) (o := o) (a := a) (Rr := kdep.M W 0 okp) (w0 := W) (W := W) 0 hw s x 30 24 _ 48 ho Try.underlying30 dep_zero rfl (by decide) (by decide) v (l.map DepV.x) (m.map DepV.x) A n c ok okp hs hx HO HR (fun _ _ h => h) hokp hfresh (Below.refl _ _) (Nat.zero_le _) (by rw [List.length_map]; exact hl) (fun v1 w1 h1 _ h3 h4 => h v1 w1 (by rw [List.map_append]; exact h1) h3 h4)
  rw [if_pos hw] at hK ⊢
  exact hK
theorem app_rdeps {W : World} (hgd : o.guard = none) (s x : Operand)
    (ho : o.op = .call { callee := .builtin .append, args := #[s, x], argTypes := #[30, 30] })
    (v : Value) (l m : List DepV) (A : Option Addr) (n c : Nat) (ok okp : Nat → Prop) (hs : a.eval s = v) (hx : a.eval x = .slice A n c)
    (HO : kdep.R 24 W 0 ok v (l.map DepV.x)) (HR : ReadsRow (kdep.M W 0 okp) 3 W A n (m.map DepV.x)) (hokp : ∀ k, okp k → ok k ∧ some k ≠ v.ownBlock) (hfresh : ∀ k, W.heap.size ≤ k → ok k) (hl : (l.length + n) * 48 ≤ 140737488355328)
    (h : ∀ v1 w1, kdep.R 24 w1 0 ok v1 ((l ++ m).map DepV.x) → W.grownBy w1 v.ownBlock → (v1.ownBlock = v.ownBlock ∨ ∃ b, v1.ownBlock = some b ∧ W.heap.size ≤ b) → wpList Try.prog ops Q rest (a.put o.dst v1) w1) :
    wpList Try.prog ops Q (o :: rest) a W :=
  Kd.R_append_rows kdep (P := Try.prog) (Q := Q) (ops := ops) (o := o) (a := a) (Rr := kdep.M W 0 okp) (w0 := W) (W := W) 0 hgd s x 30 24 _ 48 ho Try.underlying30 dep_zero rfl (by decide) (by decide) v (l.map DepV.x) (m.map DepV.x) A n c ok okp hs hx HO HR (fun _ _ h => h) hokp hfresh (Below.refl _ _) (Nat.zero_le _) (by rw [List.length_map]; exact hl) (fun v1 w1 h1 _ h3 h4 => h v1 w1 (by rw [List.map_append]; exact h1) h3 h4)
/-- append(v, d), as a step. -/
theorem app_rdep_step {W : World} (hgd : o.guard = none) (s x : Operand)
    (ho : o.op = .call { callee := .builtin .append, args := #[s, x], argTypes := #[30, 30] })
    (v : Value) (l : List DepV) (d : DepV) (vd : Value) (ok okp : Nat → Prop) (hs : a.eval s = v) (hx : a.eval x = .slice (some ⟨W.heap.size, 0, none⟩) 1 1)
    (HO : kdep.R 24 W 0 ok v (l.map DepV.x)) (HD : Kd.string.R 9 W 0 okp vd d.deps) (hokp : ∀ k, okp k → ok k ∧ some k ≠ v.ownBlock) (hfresh : ∀ k, W.heap.size ≤ k → ok k) (hl : (l.length + 1) * 48 ≤ 140737488355328)
    (h : ∀ v1 w1, kdep.R 24 w1 0 ok v1 ((l ++ [d]).map DepV.x) → W.grownBy w1 v.ownBlock → (v1.ownBlock = v.ownBlock ∨ ∃ b, v1.ownBlock = some b ∧ W.heap.size ≤ b) → K (a.put o.dst v1) w1) :
    if Region.wanted o (yielded ops a.tmps) = true then Oper.wp Try.prog o a (W.alloc (.cells #[.string d.out, .int .i64 d.time, vd] 24)) K Q else E := by
  have hw : Region.wanted o (yielded ops a.tmps) = true := by simp [Region.wanted, hgd]
  have hK := Kd.R_append_step kdep (P := Try.prog) (Kc := K) (Q := Q) (ops := ops) (o := o) (a := a) (w0 := W) (W := W) 0 hw s x 30 24 _ 48 ho Try.underlying30 dep_zero rfl (by decide) (by decide) v (l.map DepV.x) d.x _ ok okp hs hx (kdep_M HD) hokp hfresh HO (Below.refl _ _) (Nat.zero_le _) (by rw [List.length_map]; exact hl) (fun v1 w1 h1 _ h3 h4 => h v1 w1 (by rw [List.map_append]; exact h1) h3 h4)
  rw [if_pos hw] at hK ⊢
  exact hK
end
theorem rdeps_nil (W : World) (ok : Nat → Prop) (hok : ok W.heap.size) : kdep.R 24 (W.alloc (.cells #[] 24)) 0 ok (.slice (some ⟨W.heap.size, 0, none⟩) 0 0) (([] : List DepV).map DepV.x) := by
  refine ⟨fun k hk => ?_, [], ⟨rfl, .inr ⟨W.heap.size, 0, #[], rfl, Nat.zero_le _, blk_new W _, Nat.le_refl _, Nat.zero_le _, rfl, rfl⟩⟩, Reps.none _ _⟩
  have : W.heap.size = k := by simpa [Value.ownBlock] using hk
  rw [← this]; exact hok
theorem box_reads {W : World} {bb t : Nat} {d : DepV} {vd : Value} {okp : Nat → Prop} (h : W.heap[bb]? = some (.cells #[.string d.out, .int .i64 d.time, vd] t (0, 0))) (hd : Kd.string.R 9 W 0 okp vd d.deps) : ReadsRow (kdep.M W 0 okp) 3 W (some ⟨bb, 0, none⟩) 1 ([d].map DepV.x) := by
  refine ⟨rfl, by decide, fun _ => ⟨_, rfl, fun j q hj => ?_⟩⟩
  have hj0 : j = 0 := by
    have := (List.getElem?_eq_some_iff.1 hj).1
    simp at this
    exact this
  subst hj0
  simp only [List.map_cons, List.map_nil, List.getElem?_cons_zero, Option.some.injEq] at hj
  subst hj
  refine ⟨[.string d.out, .int .i64 d.time, vd], rfl, kdep_M hd, fun i u hu => ?_⟩
  have h2 := blk_cell h i
  have h3 : (⟨bb, 0, none⟩ : Addr).add (0 * 3 + i) = ⟨bb, i, none⟩ := by
    unfold Addr.add
    by_cases hz : 0 * 3 + i = 0
    · rw [if_pos hz, show i = 0 by omega]
    · rw [if_neg hz]; simp
  rw [h3, h2, ← hu]
  simp
theorem new_blk {v v1 : Value} {h W : Nat} (hat : v1.ownBlock = v.ownBlock ∨ ∃ b, v1.ownBlock = some b ∧ W ≤ b) (hv : ∀ k, v.ownBlock = some k → h ≤ k) (hW : h ≤ W) : ∀ k, v1.ownBlock = some k → h ≤ k := by
  intro k hk
  rcases hat with e | ⟨b, e, hb⟩
  · exact hv k (e ▸ hk)
  · rw [e] at hk
    cases hk
    omega
--BEGIN WALK
set_option maxRecDepth 100000 in
set_option maxHeartbeats 4000000 in
theorem put_any (T U : Nat → Prop) (g : Nat) (ns : List ByteArray) (L : List DepV) (d : DepV) (vd : Value) (w : World) (h : RBk T w g ns L) (hd : Kd.string.R 9 w 0 U vd d.deps) (hU : ∀ k, U k → k < w.heap.size ∧ ¬ T k) (hl : L.length ≤ 1000000) :
    Calls Try.prog 47 #[.pointer (some ⟨g, 0, none⟩), .agg #[.string d.out, .int .i64 d.time, vd]] w fun e w' => e = .returned (.tuple #[]) ∧ RBk (fun k => T k ∨ U k ∨ (w.heap.size ≤ k ∧ k < w'.heap.size)) w' g ns (putV L d) ∧ Foot T w w' := by
  obtain ⟨Ad, cd, ev⟩ := Kd.R_slice hd
  obtain ⟨nd, hnd⟩ : ∃ nd, nd = d.deps.length := ⟨_, rfl⟩
  rw [← hnd] at ev
  subst ev
  obtain ⟨hlt, htg, vn, vl, h1, hN, hL⟩ := h
  obtain ⟨T0, hT0⟩ : ∃ T0 : Nat → Prop, T0 = fun k => T k ∧ some k ≠ vn.ownBlock := ⟨_, rfl⟩
  rw [← hT0] at hL
  have HT0 : Hid (∀ k, T0 k → T k) := fun k hk => by rw [hT0] at hk; exact hk.1
  have HVN : Hid (∀ k, (T0 k ∨ U k ∨ w.heap.size ≤ k) → some k ≠ vn.ownBlock) := by
    rintro k (h | h | h)
    · rw [hT0] at h
      exact h.2
    · exact fun e => (hU k h).2 (hN.1 k e.symm)
    · exact fun e => by have := hlt k (hN.1 k e.symm); omega
  clear hT0
  obtain ⟨A, c, ev⟩ := Kd.R_slice hL
  rw [List.length_map] at ev
  obtain ⟨n, hn⟩ : ∃ n, n = L.length := ⟨_, rfl⟩
  rw [← hn] at ev hl
  subst ev
  obtain ⟨x, hx⟩ : ∃ x, w.heap.size = x := ⟨_, rfl⟩
  obtain ⟨Wb, hWb⟩ : ∃ Wb, Wb = w.alloc (.cells #[.string d.out, .int .i64 d.time, .slice Ad nd cd] 24) := ⟨_, rfl⟩
  have hb0 : Below w.heap.size w Wb := by rw [hWb]; exact below_alloc (Below.refl _ _) _
  have hXb : Wb.heap[x]? = some (.cells #[.string d.out, .int .i64 d.time, .slice Ad nd cd] 24 (0, 0)) := by rw [hWb, ← hx]; exact blk_new w _
  have hws : Wb.heap.size = x + 1 := by rw [hWb, ← hx]; simp
  have HB0 := Lib.hid hb0
  have XB := Lib.hid hXb
  have HWS := Lib.hid hws
  have HX := Lib.hid hx
  have HWB := Lib.hid hWb
  have HN := Lib.hid hn
  have HLT := Lib.hid hlt
  have HTG := Lib.hid htg
  have HU := Lib.hid hU
  have XG := Lib.hid ((hb0.block _ (blk_lt h1)).trans h1)
  have HNS := Lib.hid (Kd.R_below hN hb0)
  have HL := Lib.hid (Kd.R_below hL hb0)
  have HD := Lib.hid (Kd.R_below hd hb0)
  have HDZ := Lib.hid (kd_dz (Kd.R_below hL hb0))
  clear hnd hlt htg h1 hN hL hd hU hb0 hXb hws hWb hn
  go_enter Try.func47, Try.ntmps47
  go_upto_region 1 with (fail)
  rw [← HWB.out]
  try rw [hx]
  clear hx
  go_wp2
  --S1
  go_loopw [4] (fun i wr => ∃ j : Nat, j ≤ n ∧ i = .int .i64 j ∧ Hid (∀ q, q < j → dlt (L.getD q zdep).out d.out = true) ∧ Hid (Below Wb.heap.size Wb wr)) (fun i _ => n - (intOf i).toNat)
  case atStart => exact ⟨0, by omega, rfl, fun q hq => absurd hq (Nat.not_lt_zero _), Below.refl _ _⟩
  case round =>
    obtain ⟨j, hj, rfl, HJ, HB⟩ := hrel
    have C1 : wr.cell? ⟨g, 1, none⟩ = some (.slice A n c) := blk_cell ((HB.out.block _ (blk_lt XG.out)).trans XG.out) 1
    have B0 : wr.cell? ⟨x, 0, none⟩ = some (.string d.out) := blk_cell ((HB.out.block _ (blk_lt XB.out)).trans XB.out) 0
    by_cases l1 : j < n
    · have hjl : j < L.length := by rw [← HN.out]; exact l1
      obtain ⟨ad, vq, e1, q0, _, _, _⟩ := (HDZ.out.below HB.out).get j hjl
      subst e1
      obtain ⟨so, hso⟩ : ∃ so, so = (L.getD j zdep).out := ⟨_, rfl⟩
      rw [← hso] at q0
      have HSO := Lib.hid hso
      clear hjl hso
      cases hb : Op.bytesLess so.toList d.out.toList with
      | true =>
        have HJ2 : Hid (∀ q, q < j + 1 → dlt (L.getD q zdep).out d.out = true) := fun q hq => by
          rcases Nat.lt_succ_iff_lt_or_eq.1 hq with h | h
          · exact HJ.out q h
          · rw [h, ← HSO.out]; exact hb
        go_wp2
        go_quiet (fail)
        have HN5 : Hid (Below Wb.heap.size Wb (wr.drewN nq)) := pw_below_drewN HB.out _
        go_wp2
        go_roundw
        case rel => exact ⟨j + 1, by omega, by go_num, HJ2.out, HN5.out⟩
        case measure => simp [intOf]; omega
      | false =>
        have hK : putK L d.out = j := putK_is HJ.out (by rw [← HN.out]; exact hj) (fun _ => by rw [← HSO.out]; exact hb)
        have HK := Lib.hid hK
        clear hK
        by_cases hs : so = d.out
        · have he : (so.toList == d.out.toList) = true := by rw [str_eqb]; exact decide_eq_true hs
          have HPV : Hid (putV L d = L.set j d) := by
            show _ = _
            unfold putV
            rw [HK.out, if_pos ⟨by rw [← HN.out]; exact l1, by rw [← HSO.out]; exact hs⟩]
          clear hs
          go_wp2
          go_quiet (fail)
          have HBq : Hid (Below Wb.heap.size Wb (wr.drewN nq)) := pw_below_drewN HB.out _
          obtain ⟨wq, hwq⟩ : ∃ wq, wq = wr.drewN nq := ⟨_, rfl⟩
          rw [← hwq] at HBq ⊢
          have C1q : wq.cell? ⟨g, 1, none⟩ = some (.slice (some ad) n c) := by rw [hwq]; exact C1
          have B0q : wq.cell? ⟨x, 0, none⟩ = some (.string d.out) := by rw [hwq]; exact B0
          have q0q : wq.cell? (ad.add (j * 3)) = some (.string so) := by rw [hwq]; exact q0
          clear C1 B0 q0 hwq
          go_wp2
          go_quiet (fail)
          have HB2 : Hid (Below Wb.heap.size Wb (wq.drewN nq)) := pw_below_drewN HBq.out _
          obtain ⟨w2, hw2⟩ : ∃ w2, w2 = wq.drewN nq := ⟨_, rfl⟩
          rw [← hw2] at HB2 ⊢
          clear hw2 C1q B0q q0q
          have hform := Kd.R_form HL.out (by rw [List.length_map, ← HN.out]; omega)
          obtain ⟨q, cap, e, _, _, _⟩ := hform
          simp only [Value.slice.injEq, Option.some.injEq] at e
          obtain ⟨ead, en1, en2⟩ := e
          subst ead
          clear en1 en2
          --S2
          have XG2 := Lib.hid ((HB2.out.block _ (blk_lt XG.out)).trans XG.out)
          have XB2 := Lib.hid ((HB2.out.block _ (blk_lt XB.out)).trans XB.out)
          have Q0 := Lib.hid (show w2.cell? ⟨g, 1, none⟩ = some (.slice (some ⟨q, 0, none⟩) n c) from blk_cell XG2.out 1)
          have Q1 := Lib.hid (show w2.cell? ⟨x, 0, none⟩ = some (.string d.out) from blk_cell XB2.out 0)
          have Q2 := Lib.hid (show w2.cell? ⟨x, 1, none⟩ = some (.int .i64 d.time) from blk_cell XB2.out 1)
          have Q3 := Lib.hid (show w2.cell? ⟨x, 2, none⟩ = some (.slice Ad nd cd) from blk_cell XB2.out 2)
          have HLd : Hid (kdep.R 24 w2.drew 0 (fun k => T0 k ∨ U k ∨ w.heap.size ≤ k) (.slice (some ⟨q, 0, none⟩) n c) (L.map DepV.x)) := Kd.R_mono (Kd.R_drew (Kd.R_below HL.out HB2.out)) (fun _ h => .inl h)
          have HDd : Hid (Kd.string.R 9 w2.drew 0 U (.slice Ad nd cd) d.deps) := Kd.R_drew (Kd.R_below HD.out HB2.out)
          have HTQ : Hid (T q) := HT0.out q (HL.out.1 q (by simp [Value.ownBlock]))
          go_wp2
          refine start_ (n := 8) (S := fun w' => Below w2.heap.size w2 w' ∧ w'.cell? ⟨g, 1, none⟩ = some (.slice (some ⟨q, 0, none⟩) n c) ∧ w'.cell? ⟨x, 0, none⟩ = some (.string d.out) ∧ w'.cell? ⟨x, 1, none⟩ = some (.int .i64 d.time) ∧ w'.cell? ⟨x, 2, none⟩ = some (.slice Ad nd cd)) (ds := [7]) #[false, false, false, false, false, false, false, false] (by kernel_rfl) rfl rfl ⟨Below.drew (Below.refl _ _), Q0.out, Q1.out, Q2.out, Q3.out⟩ (fun hHeld => ?_)
          refine pure_ (i := 0) (N := some 48) (v := ?_) (a' := ?_) #[true, false, false, false, false, false, false, false] rfl rfl (by kernel_rfl) (fun _ _ _ h => h) (Or.inl ⟨by rfl, ?_⟩) ?_ ?_
          rotate_left
          · intro w'
            go_simp
            with_reducible rfl
          rotate_left
          · simp only [Act.put, List.setIfInBounds_toArray, List.set_cons_zero, List.set_cons_succ, i64_w, i32_w]
            rfl
          refine pure_ (i := 1) (N := some 49) (v := ?_) (a' := ?_) #[true, true, false, false, false, false, false, false] rfl rfl (by kernel_rfl) (fun _ _ _ h => h) (Or.inl ⟨by rfl, ?_⟩) ?_ ?_
          rotate_left
          · intro w'
            go_simp
            with_reducible rfl
          rotate_left
          · simp only [Act.put, List.setIfInBounds_toArray, List.set_cons_zero, List.set_cons_succ, i64_w, i32_w]
            rfl
          refine pure_ (i := 2) (N := some 50) (v := ?_) (a' := ?_) #[true, true, true, false, false, false, false, false] rfl rfl (by kernel_rfl) (fun _ _ _ h => h) (Or.inl ⟨by rfl, ?_⟩) ?_ ?_
          rotate_left
          · intro w'
            go_simp
            with_reducible rfl
          rotate_left
          · simp only [Act.put, List.setIfInBounds_toArray, List.set_cons_zero, List.set_cons_succ, i64_w, i32_w]
            rfl
          refine pure_ (i := 4) (N := some 52) (v := ?_) (a' := ?_) #[true, true, true, false, true, false, false, false] rfl rfl (by kernel_rfl) (fun _ _ _ h => h) (Or.inl ⟨by rfl, ?_⟩) ?_ ?_
          rotate_left
          · intro w'
            go_simp
            with_reducible rfl
          rotate_left
          · simp only [Act.put, List.setIfInBounds_toArray, List.set_cons_zero, List.set_cons_succ, i64_w, i32_w]
            rfl
          refine take_ (i := 3) (N := some 51) (v := ?_) (a' := ?_) #[true, true, true, true, true, false, false, false] rfl rfl (by kernel_rfl) (fun _ _ _ h => h) (Or.inl ⟨by rfl, ?_⟩) hHeld ?_ ?_
          rotate_left
          · rintro w' ⟨s0, s1, s2, s3, s4⟩
            go_simp
            with_reducible rfl
          rotate_left
          · simp only [Act.put, List.setIfInBounds_toArray, List.set_cons_zero, List.set_cons_succ, i64_w, i32_w]
            rfl
          refine take_ (i := 5) (N := some 53) (v := ?_) (a' := ?_) #[true, true, true, true, true, true, false, false] rfl rfl (by kernel_rfl) (fun _ _ _ h => h) (Or.inl ⟨by rfl, ?_⟩) hHeld ?_ ?_
          rotate_left
          · rintro w' ⟨s0, s1, s2, s3, s4⟩
            go_simp
            with_reducible rfl
          rotate_left
          · simp only [Act.put, List.setIfInBounds_toArray, List.set_cons_zero, List.set_cons_succ, i64_w, i32_w]
            rfl
          refine pure_ (i := 6) (N := some 54) (v := ?_) (a' := ?_) #[true, true, true, true, true, true, true, false] rfl rfl (by kernel_rfl) (fun _ _ _ h => h) (Or.inl ⟨by rfl, ?_⟩) ?_ ?_
          rotate_left
          · intro w'
            go_simp
            with_reducible rfl
          rotate_left
          · simp only [Act.put, List.setIfInBounds_toArray, List.set_cons_zero, List.set_cons_succ, i64_w, i32_w]
            rfl
          refine last_ (i := 7) (N := none) #[true, true, true, true, true, true, true, true] rfl rfl (by kernel_rfl) (by decide) (fun K hK => ?_)
          refine store_elem_step rfl rfl (.tmp 54) (.tmp 53) rfl j L d (.slice Ad nd cd) (fun k => T0 k ∨ U k ∨ w.heap.size ≤ k) U rfl rfl HLd.out l1 HDd.out (fun k hk => ⟨.inr (.inl hk), fun e => (HU.out k hk).2 (e ▸ HTQ.out)⟩) ?_
          intro w3 r3 g3
          have HR3 := Lib.hid r3
          have HG3 := Lib.hid g3
          clear r3 g3
          refine hK.out _ _ ?_
          clear hK K
          refine done_ (by kernel_rfl) ?_
          --S3
          clear hHeld
          have hbw : Below w.heap.size w w2.drew := (HB0.out.trans (HB2.out.mono HB0.out.size)).trans (Below.drew (Below.refl _ _))
          have hfoot : Foot T w w3 := (Foot.of_below hbw).trans (Foot.of_grown HG3.out (fun k e => by cases e; exact HTQ.out))
          have HF := Lib.hid hfoot
          have hsz := hfoot.size
          have XG3 : Hid (w3.heap[g]? = some (.cells #[vn, .slice (some ⟨q, 0, none⟩) n c] 55 (0, 0))) := blk_grown (show w2.drew.heap[g]? = _ from XG2.out) HG3.out (by have h := Kd.R_ne HLd.out (show w2.drew.heap[g]? = _ from XG2.out) (by decide); simpa [Value.ownBlock] using h)
          have HN3 : Hid (Kd.string.R 9 w3 0 T vn ns) := by
            obtain ⟨cells, hcq⟩ := Kd.R_typed HLd.out q (by simp [Value.ownBlock])
            exact R_row (Kd.R_drew (Kd.R_below HNS.out HB2.out)) HG3.out (fun k e t ht => by cases e; exact not_cells hcq (by intro he; subst he; revert ht; decide))
          have HLT3 : Hid (∀ k, (T k ∨ U k ∨ (w.heap.size ≤ k ∧ k < w3.heap.size)) → k < w3.heap.size) := by
            rintro k (h | h | h)
            · exact Nat.lt_of_lt_of_le (HLT.out k h) hsz
            · exact Nat.lt_of_lt_of_le (HU.out k h).1 hsz
            · exact h.2
          clear hbw hfoot hsz
          go_wp2
          (try simp only [Exit.inBlock, Exit.then])
          refine bodyPost_ret (results_none rfl _ _ _) rfl ?_
          refine ⟨rfl, ⟨HLT3.out, .inl HTG.out, vn, _, XG3.out, Kd.R_mono HN3.out (fun _ h => .inl h), ?_⟩, HF.out⟩
          rw [HPV.out]
          refine Kd.R_mono (Kd.R_bound HR3.out) (fun k hk => ?_)
          refine ⟨?_, HVN.out k hk.1⟩
          rcases hk.1 with h | h | h
          · exact .inl (HT0.out k h)
          · exact .inr (.inl h)
          · exact .inr (.inr ⟨h, hk.2.2.1⟩)
        · --S4
          have HPV : Hid (putV L d = L.take j ++ d :: L.drop j) := by
            show _ = _
            unfold putV
            rw [HK.out, if_neg]
            rintro ⟨_, h⟩
            exact hs (HSO.out.trans h)
          have he : (so.toList == d.out.toList) = false := by rw [str_eqb]; exact decide_eq_false hs
          clear hs
          go_wp2
          go_quiet (fail)
          have HBq : Hid (Below Wb.heap.size Wb (wr.drewN nq)) := pw_below_drewN HB.out _
          obtain ⟨wq, hwq⟩ : ∃ wq, wq = wr.drewN nq := ⟨_, rfl⟩
          rw [← hwq] at HBq ⊢
          have C1q : wq.cell? ⟨g, 1, none⟩ = some (.slice (some ad) n c) := by rw [hwq]; exact C1
          have B0q : wq.cell? ⟨x, 0, none⟩ = some (.string d.out) := by rw [hwq]; exact B0
          have q0q : wq.cell? (ad.add (j * 3)) = some (.string so) := by rw [hwq]; exact q0
          clear C1 B0 q0 hwq
          go_wp2
          go_quiet (fail)
          have HBX : Hid (Below Wb.heap.size Wb (wq.drewN nq)) := pw_below_drewN HBq.out _
          clear C1q B0q q0q
          obtain ⟨A, hA⟩ : ∃ A, A = some ad := ⟨_, rfl⟩
          rw [← hA] at HL XG ⊢
          clear hA
          --S6
          obtain ⟨w2, hw2⟩ : ∃ w2, w2 = wq.drewN nq := ⟨_, rfl⟩
          rw [← hw2] at HBX ⊢
          clear hw2
          have XG2 := Lib.hid ((HBX.out.block _ (blk_lt XG.out)).trans XG.out)
          have XB2 := Lib.hid ((HBX.out.block _ (blk_lt XB.out)).trans XB.out)
          have Q0 := Lib.hid (show w2.cell? ⟨g, 1, none⟩ = some (.slice A n c) from blk_cell XG2.out 1)
          have Q1 := Lib.hid (show w2.cell? ⟨x, 0, none⟩ = some (.string d.out) from blk_cell XB2.out 0)
          have Q2 := Lib.hid (show w2.cell? ⟨x, 1, none⟩ = some (.int .i64 d.time) from blk_cell XB2.out 1)
          have Q3 := Lib.hid (show w2.cell? ⟨x, 2, none⟩ = some (.slice Ad nd cd) from blk_cell XB2.out 2)
          have HL2 : Hid (kdep.R 24 w2 0 T0 (.slice A n c) (L.map DepV.x)) := Kd.R_below HL.out HBX.out
          have HD2 : Hid (Kd.string.R 9 w2 0 U (.slice Ad nd cd) d.deps) := Kd.R_below HD.out HBX.out
          have hncc : n ≤ c ∧ (L.map DepV.x).length = n := by
            obtain ⟨h1, h2, _⟩ := Kd.R_reads' HL.out
            rw [List.length_map] at *
            exact ⟨h2, h1.symm⟩
          obtain ⟨i0, hi0, hz0⟩ := Option.map_eq_some_iff.1 dep_zero
          simp only [Prod.mk.injEq] at hz0
          have cutA : ∀ W : World, (Instr.slice 30 (.slice A n c) none (some (.int .i64 (j : Int))) none).run Try.prog W = .ok (.slice A j c) W := by
            have h := Go.Proofs.YtinonkakpgiblaaW.PrintWords.cut_to 30 24 .i64 Try.underlying30 hi0 A n c (j : Int) (by omega) (by omega) hncc.1
            rw [Int.toNat_natCast] at h
            exact h
          obtain ⟨A9, hA9⟩ : ∃ A9, A9 = (if c = j then A else A.map (·.add (j * 3))) := ⟨_, rfl⟩
          have cutB : ∀ W : World, (Instr.slice 30 (.slice A n c) (some (.int .i64 (j : Int))) none none).run Try.prog W = .ok (.slice A9 (n - j) (c - j)) W := by
            have h := Go.Proofs.YtinonkakpgiblaaW.PrintWords.cut_from 30 24 .i64 Try.underlying30 hi0 3 hz0.2.1 A n c (j : Int) (by omega) (by omega)
            rw [Int.toNat_natCast, ← hA9] at h
            exact h
          have HCB := Lib.hid cutB
          have HA9 := Lib.hid hA9
          have HNC := Lib.hid hncc
          have hbw2 : Hid (Below w.heap.size w w2) := HB0.out.trans (HBX.out.mono HB0.out.size)
          clear hi0 hz0 cutB hA9 hncc
          have HRD : Hid (∀ W, Below w2.heap.size w2 W → ReadsRow (kdep.M W 0 T0) 3 W A j ((L.take j).map DepV.x)) := fun W hb => by
            obtain ⟨A7, c7, e7, _, hrd⟩ := (Kd.R_take (Kd.R_below HL2.out hb) (m := j) (by rw [HNC.out.2]; omega)).2.reads
            rw [List.length_take, HNC.out.2, Nat.min_eq_left (by omega)] at e7 hrd
            simp only [Value.slice.injEq, true_and] at e7
            obtain ⟨e71, _⟩ := e7
            subst e71
            rw [← List.map_take] at hrd
            exact hrd.imp_ (Below.refl _ _) (fun q cs hM => kdep.M_mono (fun k hk => hk.1) hM)
          have HRD2 : Hid (∀ W, Below w2.heap.size w2 W → ReadsRow (kdep.M W 0 T0) 3 W A9 (n - j) ((L.drop j).map DepV.x)) := fun W hb => by
            obtain ⟨A7, c7, e7, _, hrd⟩ := (Kd.R_below HL2.out hb).2.reads
            rw [HNC.out.2] at e7 hrd
            simp only [Value.slice.injEq, true_and] at e7
            obtain ⟨e71, e72⟩ := e7
            subst e71
            have h2 := reads_drop (m := j) (c := c) (by rw [HNC.out.2]; exact hrd) (by rw [HNC.out.2]; omega) (by rw [HNC.out.2]; exact HNC.out.1)
            rw [List.length_drop, HNC.out.2, ← List.map_drop] at h2
            have h3 : (if c = j then A else A.map (·.add (j * kdep.sz))) = A9 := HA9.out.symm
            rw [h3] at h2
            exact h2.imp_ (Below.refl _ _) (fun q cs hM => kdep.M_mono (fun k hk => hk.1) hM)
          have HOKE : Hid (∀ b, w2.heap.size ≤ b → ∀ k, T0 k → (T0 k ∨ U k ∨ w.heap.size ≤ k) ∧ some k ≠ some b) := fun b hb k hk => ⟨.inl hk, fun e => by
            have h1 := HLT.out k (HT0.out k hk)
            have h2 := hbw2.out.size
            injection e with e
            omega⟩
          have HFR : Hid (∀ W : World, Below w2.heap.size w2 W → ∀ k, W.heap.size ≤ k → (T0 k ∨ U k ∨ w.heap.size ≤ k)) := fun W hb k hk => .inr (.inr (Nat.le_trans hbw2.out.size (Nat.le_trans hb.size hk)))
          have HE0 : Hid (kdep.R 24 (w2.drew.alloc (.cells #[] 24)) 0 (fun k => T0 k ∨ U k ∨ w.heap.size ≤ k) (.slice (some ⟨w2.heap.size, 0, none⟩) 0 0) (([] : List DepV).map DepV.x)) := rdeps_nil w2.drew _ (.inr (.inr hbw2.out.size))
          have HE1 : Hid (kdep.R 24 ((w2.drew.alloc (.cells #[] 24)).alloc (.cells #[.string d.out, .int .i64 d.time, .slice Ad nd cd] 24)) 0 (fun k => T0 k ∨ U k ∨ w.heap.size ≤ k) (.slice (some ⟨w2.heap.size, 0, none⟩) 0 0) (([] : List DepV).map DepV.x)) := Kd.R_alloc HE0.out _
          have hs1 : (w2.drew.alloc (.cells #[.string d.out, .int .i64 d.time, .slice Ad nd cd] 24)).heap.size = w2.heap.size + 1 := by simp
          have hs2 : (w2.drew.alloc (.cells #[] 24)).heap.size = w2.heap.size + 1 := by simp
          have HE2 : Hid (kdep.R 24 ((w2.drew.alloc (.cells #[.string d.out, .int .i64 d.time, .slice Ad nd cd] 24)).alloc (.cells #[] 24)) 0 (fun k => T0 k ∨ U k ∨ w.heap.size ≤ k) (.slice (some ⟨w2.heap.size + 1, 0, none⟩) 0 0) (([] : List DepV).map DepV.x)) := by
            have h := rdeps_nil (w2.drew.alloc (.cells #[.string d.out, .int .i64 d.time, .slice Ad nd cd] 24)) (fun k => T0 k ∨ U k ∨ w.heap.size ≤ k) (.inr (.inr (by have := hbw2.out.size; rw [hs1]; omega)))
            rw [hs1] at h
            exact h
          have HX1 : Hid (((w2.drew.alloc (.cells #[] 24)).alloc (.cells #[.string d.out, .int .i64 d.time, .slice Ad nd cd] 24)).heap[w2.heap.size + 1]? = some (.cells #[.string d.out, .int .i64 d.time, .slice Ad nd cd] 24 (0, 0))) := by
            have h := blk_new (w2.drew.alloc (.cells #[] 24)) (.cells #[.string d.out, .int .i64 d.time, .slice Ad nd cd] 24)
            rw [hs2] at h
            exact h
          have HX2 : Hid (((w2.drew.alloc (.cells #[.string d.out, .int .i64 d.time, .slice Ad nd cd] 24)).alloc (.cells #[] 24)).heap[w2.heap.size]? = some (.cells #[.string d.out, .int .i64 d.time, .slice Ad nd cd] 24 (0, 0))) := by
            have h : (w2.drew.alloc (.cells #[.string d.out, .int .i64 d.time, .slice Ad nd cd] 24)).heap[w2.heap.size]? = some (.cells #[.string d.out, .int .i64 d.time, .slice Ad nd cd] 24 (0, 0)) := blk_new w2.drew (.cells #[.string d.out, .int .i64 d.time, .slice Ad nd cd] 24)
            exact ((below_alloc (Below.refl _ _) _).block _ (blk_lt h)).trans h
          clear hs1 hs2
          go_wp2
          refine start_ (n := 12) (S := fun w' => Below w2.heap.size w2 w' ∧ w'.cell? ⟨g, 1, none⟩ = some (.slice A n c) ∧ w'.cell? ⟨x, 0, none⟩ = some (.string d.out) ∧ w'.cell? ⟨x, 1, none⟩ = some (.int .i64 d.time) ∧ w'.cell? ⟨x, 2, none⟩ = some (.slice Ad nd cd)) (ds := []) #[false, false, false, false, false, false, false, false, false, false, false, false] (by kernel_rfl) rfl rfl ⟨Below.drew (Below.refl _ _), Q0.out, Q1.out, Q2.out, Q3.out⟩ (fun hHeld => ?_)
          refine pure_ (i := 1) (N := some 56) (v := ?_) (a' := ?_) #[false, true, false, false, false, false, false, false, false, false, false, false] rfl rfl (by kernel_rfl) (fun _ _ _ h => h) (Or.inl ⟨by rfl, ?_⟩) ?_ ?_
          rotate_left
          · intro w'
            go_simp
            with_reducible rfl
          rotate_left
          · simp only [Act.put, List.setIfInBounds_toArray, List.set_cons_zero, List.set_cons_succ, i64_w, i32_w]
            rfl
          refine pure_ (i := 2) (N := some 57) (v := ?_) (a' := ?_) #[false, true, true, false, false, false, false, false, false, false, false, false] rfl rfl (by kernel_rfl) (fun _ _ _ h => h) (Or.inl ⟨by rfl, ?_⟩) ?_ ?_
          rotate_left
          · intro w'
            go_simp
            with_reducible rfl
          rotate_left
          · simp only [Act.put, List.setIfInBounds_toArray, List.set_cons_zero, List.set_cons_succ, i64_w, i32_w]
            rfl
          refine pure_ (i := 3) (N := some 58) (v := ?_) (a' := ?_) #[false, true, true, true, false, false, false, false, false, false, false, false] rfl rfl (by kernel_rfl) (fun _ _ _ h => h) (Or.inl ⟨by rfl, ?_⟩) ?_ ?_
          rotate_left
          · intro w'
            go_simp
            with_reducible rfl
          rotate_left
          · simp only [Act.put, List.setIfInBounds_toArray, List.set_cons_zero, List.set_cons_succ, i64_w, i32_w]
            rfl
          refine pure_ (i := 5) (N := some 60) (v := ?_) (a' := ?_) #[false, true, true, true, false, true, false, false, false, false, false, false] rfl rfl (by kernel_rfl) (fun _ _ _ h => h) (Or.inl ⟨by rfl, ?_⟩) ?_ ?_
          rotate_left
          · intro w'
            go_simp
            with_reducible rfl
          rotate_left
          · simp only [Act.put, List.setIfInBounds_toArray, List.set_cons_zero, List.set_cons_succ, i64_w, i32_w]
            rfl
          refine take_ (i := 4) (N := some 59) (v := ?_) (a' := ?_) #[false, true, true, true, true, true, false, false, false, false, false, false] rfl rfl (by kernel_rfl) (fun _ _ _ h => h) (Or.inl ⟨by rfl, ?_⟩) hHeld ?_ ?_
          rotate_left
          · rintro w' ⟨s0, s1, s2, s3, s4⟩
            go_simp
            with_reducible rfl
          rotate_left
          · simp only [Act.put, List.setIfInBounds_toArray, List.set_cons_zero, List.set_cons_succ, i64_w, i32_w]
            rfl
          refine pure_ (i := 6) (N := some 61) (v := ?_) (a' := ?_) #[false, true, true, true, true, true, true, false, false, false, false, false] rfl rfl (by kernel_rfl) (fun _ _ _ h => h) (Or.inl ⟨by rfl, ?_⟩) ?_ ?_
          rotate_left
          · intro w'
            go_simp
            with_reducible rfl
          rotate_left
          · simp only [Act.put, List.setIfInBounds_toArray, List.set_cons_zero, List.set_cons_succ, i64_w, i32_w]
            rfl
          refine take_ (i := 8) (N := some 63) (v := ?_) (a' := ?_) #[false, true, true, true, true, true, true, false, true, false, false, false] rfl rfl (by kernel_rfl) (fun _ _ _ h => h) (Or.inl ⟨by rfl, ?_⟩) hHeld ?_ ?_
          rotate_left
          · rintro w' ⟨s0, s1, s2, s3, s4⟩
            go_simp
            with_reducible rfl
          rotate_left
          · simp only [Act.put, List.setIfInBounds_toArray, List.set_cons_zero, List.set_cons_succ, i64_w, i32_w]
            rfl
          refine join_ (σ := Value × Value × Nat) 2 #[true, true, true, true, true, true, true, true, true, true, false, false] (fun s => [(55, s.1), (62, s.2.1), (64, .slice (some ⟨s.2.2, 0, none⟩) 1 1)]) (fun s w' => Below w2.heap.size w2 w' ∧ kdep.R 24 w' 0 (fun k => T0 k ∨ U k ∨ w.heap.size ≤ k) s.2.1 ((L.take j).map DepV.x) ∧ w'.heap[s.2.2]? = some (.cells #[.string d.out, .int .i64 d.time, .slice Ad nd cd] 24 (0, 0)) ∧ ∀ k', s.2.1.ownBlock = some k' → w2.heap.size ≤ k') ?_ ?_
          rotate_left
          · intro hCont
            refine two_ (i := 0) (j := 9) (Ni := some 55) (Nj := some 64) #[true, true, true, true, true, true, true, false, true, false, false, false] #[false, true, true, true, true, true, true, false, true, true, false, false] rfl rfl rfl rfl (by kernel_rfl) (by decide) (by decide) (fun K hK => ?_) (fun K hK => ?_)
            · skip
              refine value_ (w1 := ?_) (v := ?_) (by rfl) rfl ?_ ?_
              rotate_left 2
              · go_simp
                constructor
                · rfl
                · rfl
              refine hK.out _ _ ⟨hHeld.1.alloc hHeld.1.size _, pw_cell_below (hHeld.1.alloc hHeld.1.size _) Q0.out, pw_cell_below (hHeld.1.alloc hHeld.1.size _) Q1.out, pw_cell_below (hHeld.1.alloc hHeld.1.size _) Q2.out, pw_cell_below (hHeld.1.alloc hHeld.1.size _) Q3.out⟩ (fun hHeld => ?_)
              clear hK K
              refine norm_ (a' := ?_) ?_ ?_
              rotate_left
              · show Act.put _ (some 55) _ = _
                simp only [Act.put, List.setIfInBounds_toArray, List.set_cons_zero, List.set_cons_succ, i64_w, i32_w]
                rfl
              refine two_ (i := 7) (j := 9) (Ni := some 62) (Nj := some 64) #[true, true, true, true, true, true, true, true, true, false, false, false] #[true, true, true, true, true, true, true, false, true, true, false, false] rfl rfl rfl rfl (by kernel_rfl) (by decide) (by decide) (fun K hK => ?_) (fun K hK => ?_)
              · skip
                refine app_rdeps_step rfl (.tmp 55) (.tmp 61) rfl (.slice (some ⟨w2.heap.size, 0, none⟩) 0 0) [] (L.take j) A j c (fun k => T0 k ∨ U k ∨ w.heap.size ≤ k) T0 rfl rfl HE0.out (HRD.out _ (below_alloc (below_drew (Below.refl w2.heap.size w2)) _)) (HOKE.out (w2.heap.size) (by omega)) (HFR.out _ (below_alloc (below_drew (Below.refl w2.heap.size w2)) _)) (by simp only [List.length_nil]; omega) ?_
                intro va wa ra ga hat
                rw [List.nil_append] at ra
                have HRA := Lib.hid ra
                have hza : Below w2.heap.size w2 wa := pw_below_grown (below_alloc (below_drew (Below.refl w2.heap.size w2)) _) _ (below_alloc (below_drew (Below.refl w2.heap.size w2)) _).size ga (fun k' hk' => by simp only [Value.ownBlock] at hk'; injection hk' with hk'; omega)
                have HZA := Lib.hid hza
                have HVB : Hid (∀ k', va.ownBlock = some k' → w2.heap.size ≤ k') := new_blk hat (fun k' hk' => by simp only [Value.ownBlock] at hk'; injection hk' with hk'; omega) (below_alloc (below_drew (Below.refl w2.heap.size w2)) _).size
                clear hat ra ga
                refine hK.out _ _ ⟨hza, pw_cell_below (hza) Q0.out, pw_cell_below (hza) Q1.out, pw_cell_below (hza) Q2.out, pw_cell_below (hza) Q3.out⟩ (fun hHeld => ?_)
                clear hK K
                refine norm_ (a' := ?_) ?_ ?_
                rotate_left
                · show Act.put _ (some 62) _ = _
                  simp only [Act.put, List.setIfInBounds_toArray, List.set_cons_zero, List.set_cons_succ, i64_w, i32_w]
                  rfl
                refine one_ (i := 9) (N := some 64) #[true, true, true, true, true, true, true, true, true, true, false, false] rfl rfl (by kernel_rfl) (by decide) (fun K hK => ?_)
                refine value_ (w1 := ?_) (v := ?_) (by rfl) rfl ?_ ?_
                rotate_left 2
                · go_simp
                  constructor
                  · rfl
                  · rfl
                refine hK.out _ _ ⟨hHeld.1.alloc hHeld.1.size _, pw_cell_below (hHeld.1.alloc hHeld.1.size _) Q0.out, pw_cell_below (hHeld.1.alloc hHeld.1.size _) Q1.out, pw_cell_below (hHeld.1.alloc hHeld.1.size _) Q2.out, pw_cell_below (hHeld.1.alloc hHeld.1.size _) Q3.out⟩ (fun hHeld => ?_)
                clear hK K
                refine norm_ (a' := ?_) ?_ ?_
                rotate_left
                · show Act.put _ (some 64) _ = _
                  simp only [Act.put, List.setIfInBounds_toArray, List.set_cons_zero, List.set_cons_succ, i64_w, i32_w]
                  rfl
                exact norm_ (by simp only [putAll, Act.put, List.setIfInBounds_toArray, List.set_cons_zero, List.set_cons_succ]) (hCont (.slice (some ⟨w2.heap.size, 0, none⟩) 0 0, va, wa.heap.size) _ ⟨hHeld.1, Kd.R_below HRA.out (below_alloc (Below.refl _ _) _), heap_alloc_new wa _, HVB.out⟩)
              · skip
                refine value_ (w1 := ?_) (v := ?_) (by rfl) rfl ?_ ?_
                rotate_left 2
                · go_simp
                  constructor
                  · rfl
                  · rfl
                refine hK.out _ _ ⟨hHeld.1.alloc hHeld.1.size _, pw_cell_below (hHeld.1.alloc hHeld.1.size _) Q0.out, pw_cell_below (hHeld.1.alloc hHeld.1.size _) Q1.out, pw_cell_below (hHeld.1.alloc hHeld.1.size _) Q2.out, pw_cell_below (hHeld.1.alloc hHeld.1.size _) Q3.out⟩ (fun hHeld => ?_)
                clear hK K
                refine norm_ (a' := ?_) ?_ ?_
                rotate_left
                · show Act.put _ (some 64) _ = _
                  simp only [Act.put, List.setIfInBounds_toArray, List.set_cons_zero, List.set_cons_succ, i64_w, i32_w]
                  rfl
                refine one_ (i := 7) (N := some 62) #[true, true, true, true, true, true, true, true, true, true, false, false] rfl rfl (by kernel_rfl) (by decide) (fun K hK => ?_)
                refine app_rdeps_step rfl (.tmp 55) (.tmp 61) rfl (.slice (some ⟨w2.heap.size, 0, none⟩) 0 0) [] (L.take j) A j c (fun k => T0 k ∨ U k ∨ w.heap.size ≤ k) T0 rfl rfl HE1.out (HRD.out _ (below_alloc (below_alloc (below_drew (Below.refl w2.heap.size w2)) _) _)) (HOKE.out (w2.heap.size) (by omega)) (HFR.out _ (below_alloc (below_alloc (below_drew (Below.refl w2.heap.size w2)) _) _)) (by simp only [List.length_nil]; omega) ?_
                intro va wa ra ga hat
                rw [List.nil_append] at ra
                have HRA := Lib.hid ra
                have HZa : Hid (wa.heap[w2.heap.size + 1]? = some (.cells #[.string d.out, .int .i64 d.time, .slice Ad nd cd] 24 (0, 0))) := (ga.block _ (blk_lt HX1.out) (by simp only [Value.ownBlock]; intro h; injection h with h; omega)).trans HX1.out
                have hza : Below w2.heap.size w2 wa := pw_below_grown (below_alloc (below_alloc (below_drew (Below.refl w2.heap.size w2)) _) _) _ (below_alloc (below_alloc (below_drew (Below.refl w2.heap.size w2)) _) _).size ga (fun k' hk' => by simp only [Value.ownBlock] at hk'; injection hk' with hk'; omega)
                have HZA := Lib.hid hza
                have HVB : Hid (∀ k', va.ownBlock = some k' → w2.heap.size ≤ k') := new_blk hat (fun k' hk' => by simp only [Value.ownBlock] at hk'; injection hk' with hk'; omega) (below_alloc (below_alloc (below_drew (Below.refl w2.heap.size w2)) _) _).size
                clear hat ra ga
                refine hK.out _ _ ⟨hza, pw_cell_below (hza) Q0.out, pw_cell_below (hza) Q1.out, pw_cell_below (hza) Q2.out, pw_cell_below (hza) Q3.out⟩ (fun hHeld => ?_)
                clear hK K
                refine norm_ (a' := ?_) ?_ ?_
                rotate_left
                · show Act.put _ (some 62) _ = _
                  simp only [Act.put, List.setIfInBounds_toArray, List.set_cons_zero, List.set_cons_succ, i64_w, i32_w]
                  rfl
                exact norm_ (by simp only [putAll, Act.put, List.setIfInBounds_toArray, List.set_cons_zero, List.set_cons_succ]) (hCont (.slice (some ⟨w2.heap.size, 0, none⟩) 0 0, va, w2.heap.size + 1) _ ⟨hHeld.1, HRA.out, HZa.out, HVB.out⟩)
            · skip
              refine value_ (w1 := ?_) (v := ?_) (by rfl) rfl ?_ ?_
              rotate_left 2
              · go_simp
                constructor
                · rfl
                · rfl
              refine hK.out _ _ ⟨hHeld.1.alloc hHeld.1.size _, pw_cell_below (hHeld.1.alloc hHeld.1.size _) Q0.out, pw_cell_below (hHeld.1.alloc hHeld.1.size _) Q1.out, pw_cell_below (hHeld.1.alloc hHeld.1.size _) Q2.out, pw_cell_below (hHeld.1.alloc hHeld.1.size _) Q3.out⟩ (fun hHeld => ?_)
              clear hK K
              refine norm_ (a' := ?_) ?_ ?_
              rotate_left
              · show Act.put _ (some 64) _ = _
                simp only [Act.put, List.setIfInBounds_toArray, List.set_cons_zero, List.set_cons_succ, i64_w, i32_w]
                rfl
              refine one_ (i := 0) (N := some 55) #[true, true, true, true, true, true, true, false, true, true, false, false] rfl rfl (by kernel_rfl) (by decide) (fun K hK => ?_)
              refine value_ (w1 := ?_) (v := ?_) (by rfl) rfl ?_ ?_
              rotate_left 2
              · go_simp
                constructor
                · rfl
                · rfl
              refine hK.out _ _ ⟨hHeld.1.alloc hHeld.1.size _, pw_cell_below (hHeld.1.alloc hHeld.1.size _) Q0.out, pw_cell_below (hHeld.1.alloc hHeld.1.size _) Q1.out, pw_cell_below (hHeld.1.alloc hHeld.1.size _) Q2.out, pw_cell_below (hHeld.1.alloc hHeld.1.size _) Q3.out⟩ (fun hHeld => ?_)
              clear hK K
              refine norm_ (a' := ?_) ?_ ?_
              rotate_left
              · show Act.put _ (some 55) _ = _
                simp only [Act.put, List.setIfInBounds_toArray, List.set_cons_zero, List.set_cons_succ, i64_w, i32_w]
                rfl
              refine one_ (i := 7) (N := some 62) #[true, true, true, true, true, true, true, true, true, true, false, false] rfl rfl (by kernel_rfl) (by decide) (fun K hK => ?_)
              refine app_rdeps_step rfl (.tmp 55) (.tmp 61) rfl (.slice (some ⟨w2.heap.size + 1, 0, none⟩) 0 0) [] (L.take j) A j c (fun k => T0 k ∨ U k ∨ w.heap.size ≤ k) T0 rfl rfl HE2.out (HRD.out _ (below_alloc (below_alloc (below_drew (Below.refl w2.heap.size w2)) _) _)) (HOKE.out (w2.heap.size + 1) (by omega)) (HFR.out _ (below_alloc (below_alloc (below_drew (Below.refl w2.heap.size w2)) _) _)) (by simp only [List.length_nil]; omega) ?_
              intro va wa ra ga hat
              rw [List.nil_append] at ra
              have HRA := Lib.hid ra
              have HZa : Hid (wa.heap[w2.heap.size]? = some (.cells #[.string d.out, .int .i64 d.time, .slice Ad nd cd] 24 (0, 0))) := (ga.block _ (blk_lt HX2.out) (by simp only [Value.ownBlock]; intro h; injection h with h; omega)).trans HX2.out
              have hza : Below w2.heap.size w2 wa := pw_below_grown (below_alloc (below_alloc (below_drew (Below.refl w2.heap.size w2)) _) _) _ (below_alloc (below_alloc (below_drew (Below.refl w2.heap.size w2)) _) _).size ga (fun k' hk' => by simp only [Value.ownBlock] at hk'; injection hk' with hk'; omega)
              have HZA := Lib.hid hza
              have HVB : Hid (∀ k', va.ownBlock = some k' → w2.heap.size ≤ k') := new_blk hat (fun k' hk' => by simp only [Value.ownBlock] at hk'; injection hk' with hk'; omega) (below_alloc (below_alloc (below_drew (Below.refl w2.heap.size w2)) _) _).size
              clear hat ra ga
              refine hK.out _ _ ⟨hza, pw_cell_below (hza) Q0.out, pw_cell_below (hza) Q1.out, pw_cell_below (hza) Q2.out, pw_cell_below (hza) Q3.out⟩ (fun hHeld => ?_)
              clear hK K
              refine norm_ (a' := ?_) ?_ ?_
              rotate_left
              · show Act.put _ (some 62) _ = _
                simp only [Act.put, List.setIfInBounds_toArray, List.set_cons_zero, List.set_cons_succ, i64_w, i32_w]
                rfl
              exact norm_ (by simp only [putAll, Act.put, List.setIfInBounds_toArray, List.set_cons_zero, List.set_cons_succ]) (hCont (.slice (some ⟨w2.heap.size + 1, 0, none⟩) 0 0, va, w2.heap.size) _ ⟨hHeld.1, HRA.out, HZa.out, HVB.out⟩)
          rintro ⟨v55, va, bb⟩ wx ⟨hF1, hF2, hF3, hF5⟩
          simp only at hF2 hF3 hF5
          have hHeld : Below w2.heap.size w2 wx ∧ wx.cell? ⟨g, 1, none⟩ = some (.slice A n c) ∧ wx.cell? ⟨x, 0, none⟩ = some (.string d.out) ∧ wx.cell? ⟨x, 1, none⟩ = some (.int .i64 d.time) ∧ wx.cell? ⟨x, 2, none⟩ = some (.slice Ad nd cd) := ⟨hF1, pw_cell_below (hF1) Q0.out, pw_cell_below (hF1) Q1.out, pw_cell_below (hF1) Q2.out, pw_cell_below (hF1) Q3.out⟩
          have HRA := Lib.hid hF2
          have HBX2 := Lib.hid hF3
          have HVB := Lib.hid hF5
          clear hF1 hF2 hF3 hF5
          refine norm_ (a' := ?_) ?_ ?_
          rotate_left
          · simp only [putAll, Act.put, List.setIfInBounds_toArray, List.set_cons_zero, List.set_cons_succ]
            rfl
          refine one_ (i := 10) (N := some 65) #[true, true, true, true, true, true, true, true, true, true, true, false] rfl rfl (by kernel_rfl) (by decide) (fun K hK => ?_)
          refine app_rdeps_step rfl (.tmp 62) (.tmp 64) rfl va (L.take j) [d] (some ⟨bb, 0, none⟩) 1 1 (fun k => T0 k ∨ U k ∨ w.heap.size ≤ k) U rfl rfl HRA.out (box_reads HBX2.out (Kd.R_below HD2.out hHeld.1)) ?_ (HFR.out _ hHeld.1) (by have := List.length_take_le j L; have := HN.out; omega) ?_
          · intro k hk
            refine ⟨.inr (.inl hk), fun e => ?_⟩
            have h1 := (HU.out k hk).1
            have h2 := hbw2.out.size
            have h3 := HVB.out k e.symm
            omega
          intro vb wb rb gb hat
          have hzb : Below w2.heap.size w2 wb := pw_below_grown hHeld.1 _ hHeld.1.size gb (fun k' hk' => HVB.out k' hk')
          have HRB := Lib.hid rb
          have HZB := Lib.hid hzb
          have HVC : Hid (∀ k', vb.ownBlock = some k' → w2.heap.size ≤ k') := new_blk hat HVB.out hHeld.1.size
          clear rb gb hat
          refine hK.out _ _ ⟨hzb, pw_cell_below (hzb) Q0.out, pw_cell_below (hzb) Q1.out, pw_cell_below (hzb) Q2.out, pw_cell_below (hzb) Q3.out⟩ (fun hHeld => ?_)
          clear hK K
          refine norm_ (a' := ?_) ?_ ?_
          rotate_left
          · show Act.put _ (some 65) _ = _
            simp only [Act.put, List.setIfInBounds_toArray, List.set_cons_zero, List.set_cons_succ, i64_w, i32_w]
            rfl
          refine pure_ (i := 11) (N := some 5) (v := ?_) (a' := ?_) #[true, true, true, true, true, true, true, true, true, true, true, true] rfl rfl (by kernel_rfl) (fun _ _ _ h => h) (Or.inl ⟨by rfl, ?_⟩) ?_ ?_
          rotate_left
          · intro w'
            go_simp
            with_reducible rfl
          rotate_left
          · simp only [Act.put, List.setIfInBounds_toArray, List.set_cons_zero, List.set_cons_succ, i64_w, i32_w]
            rfl
          refine done_ (by kernel_rfl) ?_
          --S7
          clear hHeld HRA HBX2 HVB cutA
          obtain ⟨A8, c8, e8⟩ := Kd.R_slice HRB.out
          obtain ⟨n8, hn8⟩ : ∃ n8, n8 = ((L.take j ++ [d]).map DepV.x).length := ⟨_, rfl⟩
          rw [← hn8] at e8
          subst e8
          have hn8b : n8 ≤ n + 1 := by rw [hn8]; simp only [List.length_map, List.length_append, List.length_singleton, List.length_take]; have := HN.out; omega
          have HN8 := Lib.hid hn8b
          clear hn8 hn8b
          have XGb := Lib.hid ((HZB.out.block _ (blk_lt XG2.out)).trans XG2.out)
          have qb : wb.cell? ⟨g, 1, none⟩ = some (.slice A n c) := blk_cell XGb.out 1
          have cutB := HCB.out
          go_wp2_with (at_builtin; refine Held.of ?_)
          refine Held.out (app_rdeps rfl (.tmp 67) (.tmp 73) rfl (.slice A8 n8 c8) (L.take j ++ [d]) (L.drop j) A9 (n - j) (c - j) (fun k => T0 k ∨ U k ∨ w.heap.size ≤ k) T0 rfl rfl HRB.out (HRD2.out _ HZB.out) ?_ (HFR.out _ HZB.out) (by have h1 := List.length_take_le j L; have h2 := HN.out; rw [List.length_append, List.length_singleton]; omega) ?_)
          · intro k hk
            refine ⟨.inl hk, fun e => ?_⟩
            have h1 := HLT.out k (HT0.out k hk)
            have h2 := hbw2.out.size
            have h3 := HVC.out k e.symm
            omega
          intro vc wc rc gc _
          have hzc : Below w2.heap.size w2 wc := pw_below_grown HZB.out _ HZB.out.size gc (fun k' hk' => HVC.out k' hk')
          have HRC := Lib.hid rc
          have HZC := Lib.hid hzc
          obtain ⟨Ac, cc, ec⟩ := Kd.R_slice rc
          obtain ⟨nc, hnc⟩ : ∃ nc, nc = ((L.take j ++ [d] ++ L.drop j).map DepV.x).length := ⟨_, rfl⟩
          rw [← hnc] at ec
          subst ec
          have XGc := Lib.hid ((hzc.block _ (blk_lt XG2.out)).trans XG2.out)
          have fc := blk_frozen XGc.out 1
          have kc := blk_cell XGc.out 1
          clear rc gc hzc hnc qb cutB
          go_wp2
          go_end0
          have hfoot : Foot T w (wc.setCell ⟨g, 1, none⟩ (.slice Ac nc cc)) := (Foot.of_below (hbw2.out.trans (HZC.out.mono hbw2.out.size))).setCell HTG.out 1 _
          have hsz := hfoot.size
          refine ⟨rfl, ⟨?_, .inl HTG.out, vn, .slice Ac nc cc, blk_set XGc.out 1 _, ?_, ?_⟩, hfoot⟩
          · rintro k (h | h | h)
            · exact Nat.lt_of_lt_of_le (HLT.out k h) hsz
            · exact Nat.lt_of_lt_of_le (HU.out k h).1 hsz
            · exact h.2
          · exact Kd.R_mono (Kd.R_set (Kd.R_below (Kd.R_below HNS.out HBX.out) HZC.out) XGc.out (by decide) 1 _) (fun _ h => .inl h)
          · rw [HPV.out, show L.take j ++ d :: L.drop j = L.take j ++ [d] ++ L.drop j by simp]
            refine Kd.R_mono (Kd.R_bound (Kd.R_set HRC.out XGc.out (by decide) 1 _)) (fun k hk => ?_)
            refine ⟨?_, HVN.out k hk.1⟩
            rcases hk.1 with h | h | h
            · exact .inl (HT0.out k h)
            · exact .inr (.inl h)
            · exact .inr (.inr ⟨h, hk.2.2.1⟩)
    · --S5
      have hj2 : j = n := by omega
      have hK : putK L d.out = j := putK_is HJ.out (by rw [← HN.out]; exact hj) (fun h => by have := HN.out; omega)
      have HPV : Hid (putV L d = L.take j ++ d :: L.drop j) := by
        show _ = _
        unfold putV
        rw [hK, if_neg]
        rintro ⟨h, _⟩
        have := HN.out
        omega
      clear hj2 hK
      go_wp2
      go_quiet (fail)
      have HBq : Hid (Below Wb.heap.size Wb (wr.drewN nq)) := pw_below_drewN HB.out _
      obtain ⟨wq, hwq⟩ : ∃ wq, wq = wr.drewN nq := ⟨_, rfl⟩
      rw [← hwq] at HBq ⊢
      have C1q : wq.cell? ⟨g, 1, none⟩ = some (.slice A n c) := by rw [hwq]; exact C1
      have B0q : wq.cell? ⟨x, 0, none⟩ = some (.string d.out) := by rw [hwq]; exact B0
      clear C1 B0 hwq
      go_wp2
      go_quiet (fail)
      have HBX : Hid (Below Wb.heap.size Wb (wq.drewN nq)) := pw_below_drewN HBq.out _
      clear C1q B0q
      --S6
      obtain ⟨w2, hw2⟩ : ∃ w2, w2 = wq.drewN nq := ⟨_, rfl⟩
      rw [← hw2] at HBX ⊢
      clear hw2
      have XG2 := Lib.hid ((HBX.out.block _ (blk_lt XG.out)).trans XG.out)
      have XB2 := Lib.hid ((HBX.out.block _ (blk_lt XB.out)).trans XB.out)
      have Q0 := Lib.hid (show w2.cell? ⟨g, 1, none⟩ = some (.slice A n c) from blk_cell XG2.out 1)
      have Q1 := Lib.hid (show w2.cell? ⟨x, 0, none⟩ = some (.string d.out) from blk_cell XB2.out 0)
      have Q2 := Lib.hid (show w2.cell? ⟨x, 1, none⟩ = some (.int .i64 d.time) from blk_cell XB2.out 1)
      have Q3 := Lib.hid (show w2.cell? ⟨x, 2, none⟩ = some (.slice Ad nd cd) from blk_cell XB2.out 2)
      have HL2 : Hid (kdep.R 24 w2 0 T0 (.slice A n c) (L.map DepV.x)) := Kd.R_below HL.out HBX.out
      have HD2 : Hid (Kd.string.R 9 w2 0 U (.slice Ad nd cd) d.deps) := Kd.R_below HD.out HBX.out
      have hncc : n ≤ c ∧ (L.map DepV.x).length = n := by
        obtain ⟨h1, h2, _⟩ := Kd.R_reads' HL.out
        rw [List.length_map] at *
        exact ⟨h2, h1.symm⟩
      obtain ⟨i0, hi0, hz0⟩ := Option.map_eq_some_iff.1 dep_zero
      simp only [Prod.mk.injEq] at hz0
      have cutA : ∀ W : World, (Instr.slice 30 (.slice A n c) none (some (.int .i64 (j : Int))) none).run Try.prog W = .ok (.slice A j c) W := by
        have h := Go.Proofs.YtinonkakpgiblaaW.PrintWords.cut_to 30 24 .i64 Try.underlying30 hi0 A n c (j : Int) (by omega) (by omega) hncc.1
        rw [Int.toNat_natCast] at h
        exact h
      obtain ⟨A9, hA9⟩ : ∃ A9, A9 = (if c = j then A else A.map (·.add (j * 3))) := ⟨_, rfl⟩
      have cutB : ∀ W : World, (Instr.slice 30 (.slice A n c) (some (.int .i64 (j : Int))) none none).run Try.prog W = .ok (.slice A9 (n - j) (c - j)) W := by
        have h := Go.Proofs.YtinonkakpgiblaaW.PrintWords.cut_from 30 24 .i64 Try.underlying30 hi0 3 hz0.2.1 A n c (j : Int) (by omega) (by omega)
        rw [Int.toNat_natCast, ← hA9] at h
        exact h
      have HCB := Lib.hid cutB
      have HA9 := Lib.hid hA9
      have HNC := Lib.hid hncc
      have hbw2 : Hid (Below w.heap.size w w2) := HB0.out.trans (HBX.out.mono HB0.out.size)
      clear hi0 hz0 cutB hA9 hncc
      have HRD : Hid (∀ W, Below w2.heap.size w2 W → ReadsRow (kdep.M W 0 T0) 3 W A j ((L.take j).map DepV.x)) := fun W hb => by
        obtain ⟨A7, c7, e7, _, hrd⟩ := (Kd.R_take (Kd.R_below HL2.out hb) (m := j) (by rw [HNC.out.2]; omega)).2.reads
        rw [List.length_take, HNC.out.2, Nat.min_eq_left (by omega)] at e7 hrd
        simp only [Value.slice.injEq, true_and] at e7
        obtain ⟨e71, _⟩ := e7
        subst e71
        rw [← List.map_take] at hrd
        exact hrd.imp_ (Below.refl _ _) (fun q cs hM => kdep.M_mono (fun k hk => hk.1) hM)
      have HRD2 : Hid (∀ W, Below w2.heap.size w2 W → ReadsRow (kdep.M W 0 T0) 3 W A9 (n - j) ((L.drop j).map DepV.x)) := fun W hb => by
        obtain ⟨A7, c7, e7, _, hrd⟩ := (Kd.R_below HL2.out hb).2.reads
        rw [HNC.out.2] at e7 hrd
        simp only [Value.slice.injEq, true_and] at e7
        obtain ⟨e71, e72⟩ := e7
        subst e71
        have h2 := reads_drop (m := j) (c := c) (by rw [HNC.out.2]; exact hrd) (by rw [HNC.out.2]; omega) (by rw [HNC.out.2]; exact HNC.out.1)
        rw [List.length_drop, HNC.out.2, ← List.map_drop] at h2
        have h3 : (if c = j then A else A.map (·.add (j * kdep.sz))) = A9 := HA9.out.symm
        rw [h3] at h2
        exact h2.imp_ (Below.refl _ _) (fun q cs hM => kdep.M_mono (fun k hk => hk.1) hM)
      have HOKE : Hid (∀ b, w2.heap.size ≤ b → ∀ k, T0 k → (T0 k ∨ U k ∨ w.heap.size ≤ k) ∧ some k ≠ some b) := fun b hb k hk => ⟨.inl hk, fun e => by
        have h1 := HLT.out k (HT0.out k hk)
        have h2 := hbw2.out.size
        injection e with e
        omega⟩
      have HFR : Hid (∀ W : World, Below w2.heap.size w2 W → ∀ k, W.heap.size ≤ k → (T0 k ∨ U k ∨ w.heap.size ≤ k)) := fun W hb k hk => .inr (.inr (Nat.le_trans hbw2.out.size (Nat.le_trans hb.size hk)))
      have HE0 : Hid (kdep.R 24 (w2.drew.alloc (.cells #[] 24)) 0 (fun k => T0 k ∨ U k ∨ w.heap.size ≤ k) (.slice (some ⟨w2.heap.size, 0, none⟩) 0 0) (([] : List DepV).map DepV.x)) := rdeps_nil w2.drew _ (.inr (.inr hbw2.out.size))
      have HE1 : Hid (kdep.R 24 ((w2.drew.alloc (.cells #[] 24)).alloc (.cells #[.string d.out, .int .i64 d.time, .slice Ad nd cd] 24)) 0 (fun k => T0 k ∨ U k ∨ w.heap.size ≤ k) (.slice (some ⟨w2.heap.size, 0, none⟩) 0 0) (([] : List DepV).map DepV.x)) := Kd.R_alloc HE0.out _
      have hs1 : (w2.drew.alloc (.cells #[.string d.out, .int .i64 d.time, .slice Ad nd cd] 24)).heap.size = w2.heap.size + 1 := by simp
      have hs2 : (w2.drew.alloc (.cells #[] 24)).heap.size = w2.heap.size + 1 := by simp
      have HE2 : Hid (kdep.R 24 ((w2.drew.alloc (.cells #[.string d.out, .int .i64 d.time, .slice Ad nd cd] 24)).alloc (.cells #[] 24)) 0 (fun k => T0 k ∨ U k ∨ w.heap.size ≤ k) (.slice (some ⟨w2.heap.size + 1, 0, none⟩) 0 0) (([] : List DepV).map DepV.x)) := by
        have h := rdeps_nil (w2.drew.alloc (.cells #[.string d.out, .int .i64 d.time, .slice Ad nd cd] 24)) (fun k => T0 k ∨ U k ∨ w.heap.size ≤ k) (.inr (.inr (by have := hbw2.out.size; rw [hs1]; omega)))
        rw [hs1] at h
        exact h
      have HX1 : Hid (((w2.drew.alloc (.cells #[] 24)).alloc (.cells #[.string d.out, .int .i64 d.time, .slice Ad nd cd] 24)).heap[w2.heap.size + 1]? = some (.cells #[.string d.out, .int .i64 d.time, .slice Ad nd cd] 24 (0, 0))) := by
        have h := blk_new (w2.drew.alloc (.cells #[] 24)) (.cells #[.string d.out, .int .i64 d.time, .slice Ad nd cd] 24)
        rw [hs2] at h
        exact h
      have HX2 : Hid (((w2.drew.alloc (.cells #[.string d.out, .int .i64 d.time, .slice Ad nd cd] 24)).alloc (.cells #[] 24)).heap[w2.heap.size]? = some (.cells #[.string d.out, .int .i64 d.time, .slice Ad nd cd] 24 (0, 0))) := by
        have h : (w2.drew.alloc (.cells #[.string d.out, .int .i64 d.time, .slice Ad nd cd] 24)).heap[w2.heap.size]? = some (.cells #[.string d.out, .int .i64 d.time, .slice Ad nd cd] 24 (0, 0)) := blk_new w2.drew (.cells #[.string d.out, .int .i64 d.time, .slice Ad nd cd] 24)
        exact ((below_alloc (Below.refl _ _) _).block _ (blk_lt h)).trans h
      clear hs1 hs2
      go_wp2
      refine start_ (n := 12) (S := fun w' => Below w2.heap.size w2 w' ∧ w'.cell? ⟨g, 1, none⟩ = some (.slice A n c) ∧ w'.cell? ⟨x, 0, none⟩ = some (.string d.out) ∧ w'.cell? ⟨x, 1, none⟩ = some (.int .i64 d.time) ∧ w'.cell? ⟨x, 2, none⟩ = some (.slice Ad nd cd)) (ds := []) #[false, false, false, false, false, false, false, false, false, false, false, false] (by kernel_rfl) rfl rfl ⟨Below.drew (Below.refl _ _), Q0.out, Q1.out, Q2.out, Q3.out⟩ (fun hHeld => ?_)
      refine pure_ (i := 1) (N := some 56) (v := ?_) (a' := ?_) #[false, true, false, false, false, false, false, false, false, false, false, false] rfl rfl (by kernel_rfl) (fun _ _ _ h => h) (Or.inl ⟨by rfl, ?_⟩) ?_ ?_
      rotate_left
      · intro w'
        go_simp
        with_reducible rfl
      rotate_left
      · simp only [Act.put, List.setIfInBounds_toArray, List.set_cons_zero, List.set_cons_succ, i64_w, i32_w]
        rfl
      refine pure_ (i := 2) (N := some 57) (v := ?_) (a' := ?_) #[false, true, true, false, false, false, false, false, false, false, false, false] rfl rfl (by kernel_rfl) (fun _ _ _ h => h) (Or.inl ⟨by rfl, ?_⟩) ?_ ?_
      rotate_left
      · intro w'
        go_simp
        with_reducible rfl
      rotate_left
      · simp only [Act.put, List.setIfInBounds_toArray, List.set_cons_zero, List.set_cons_succ, i64_w, i32_w]
        rfl
      refine pure_ (i := 3) (N := some 58) (v := ?_) (a' := ?_) #[false, true, true, true, false, false, false, false, false, false, false, false] rfl rfl (by kernel_rfl) (fun _ _ _ h => h) (Or.inl ⟨by rfl, ?_⟩) ?_ ?_
      rotate_left
      · intro w'
        go_simp
        with_reducible rfl
      rotate_left
      · simp only [Act.put, List.setIfInBounds_toArray, List.set_cons_zero, List.set_cons_succ, i64_w, i32_w]
        rfl
      refine pure_ (i := 5) (N := some 60) (v := ?_) (a' := ?_) #[false, true, true, true, false, true, false, false, false, false, false, false] rfl rfl (by kernel_rfl) (fun _ _ _ h => h) (Or.inl ⟨by rfl, ?_⟩) ?_ ?_
      rotate_left
      · intro w'
        go_simp
        with_reducible rfl
      rotate_left
      · simp only [Act.put, List.setIfInBounds_toArray, List.set_cons_zero, List.set_cons_succ, i64_w, i32_w]
        rfl
      refine take_ (i := 4) (N := some 59) (v := ?_) (a' := ?_) #[false, true, true, true, true, true, false, false, false, false, false, false] rfl rfl (by kernel_rfl) (fun _ _ _ h => h) (Or.inl ⟨by rfl, ?_⟩) hHeld ?_ ?_
      rotate_left
      · rintro w' ⟨s0, s1, s2, s3, s4⟩
        go_simp
        with_reducible rfl
      rotate_left
      · simp only [Act.put, List.setIfInBounds_toArray, List.set_cons_zero, List.set_cons_succ, i64_w, i32_w]
        rfl
      refine pure_ (i := 6) (N := some 61) (v := ?_) (a' := ?_) #[false, true, true, true, true, true, true, false, false, false, false, false] rfl rfl (by kernel_rfl) (fun _ _ _ h => h) (Or.inl ⟨by rfl, ?_⟩) ?_ ?_
      rotate_left
      · intro w'
        go_simp
        with_reducible rfl
      rotate_left
      · simp only [Act.put, List.setIfInBounds_toArray, List.set_cons_zero, List.set_cons_succ, i64_w, i32_w]
        rfl
      refine take_ (i := 8) (N := some 63) (v := ?_) (a' := ?_) #[false, true, true, true, true, true, true, false, true, false, false, false] rfl rfl (by kernel_rfl) (fun _ _ _ h => h) (Or.inl ⟨by rfl, ?_⟩) hHeld ?_ ?_
      rotate_left
      · rintro w' ⟨s0, s1, s2, s3, s4⟩
        go_simp
        with_reducible rfl
      rotate_left
      · simp only [Act.put, List.setIfInBounds_toArray, List.set_cons_zero, List.set_cons_succ, i64_w, i32_w]
        rfl
      refine join_ (σ := Value × Value × Nat) 2 #[true, true, true, true, true, true, true, true, true, true, false, false] (fun s => [(55, s.1), (62, s.2.1), (64, .slice (some ⟨s.2.2, 0, none⟩) 1 1)]) (fun s w' => Below w2.heap.size w2 w' ∧ kdep.R 24 w' 0 (fun k => T0 k ∨ U k ∨ w.heap.size ≤ k) s.2.1 ((L.take j).map DepV.x) ∧ w'.heap[s.2.2]? = some (.cells #[.string d.out, .int .i64 d.time, .slice Ad nd cd] 24 (0, 0)) ∧ ∀ k', s.2.1.ownBlock = some k' → w2.heap.size ≤ k') ?_ ?_
      rotate_left
      · intro hCont
        refine two_ (i := 0) (j := 9) (Ni := some 55) (Nj := some 64) #[true, true, true, true, true, true, true, false, true, false, false, false] #[false, true, true, true, true, true, true, false, true, true, false, false] rfl rfl rfl rfl (by kernel_rfl) (by decide) (by decide) (fun K hK => ?_) (fun K hK => ?_)
        · skip
          refine value_ (w1 := ?_) (v := ?_) (by rfl) rfl ?_ ?_
          rotate_left 2
          · go_simp
            constructor
            · rfl
            · rfl
          refine hK.out _ _ ⟨hHeld.1.alloc hHeld.1.size _, pw_cell_below (hHeld.1.alloc hHeld.1.size _) Q0.out, pw_cell_below (hHeld.1.alloc hHeld.1.size _) Q1.out, pw_cell_below (hHeld.1.alloc hHeld.1.size _) Q2.out, pw_cell_below (hHeld.1.alloc hHeld.1.size _) Q3.out⟩ (fun hHeld => ?_)
          clear hK K
          refine norm_ (a' := ?_) ?_ ?_
          rotate_left
          · show Act.put _ (some 55) _ = _
            simp only [Act.put, List.setIfInBounds_toArray, List.set_cons_zero, List.set_cons_succ, i64_w, i32_w]
            rfl
          refine two_ (i := 7) (j := 9) (Ni := some 62) (Nj := some 64) #[true, true, true, true, true, true, true, true, true, false, false, false] #[true, true, true, true, true, true, true, false, true, true, false, false] rfl rfl rfl rfl (by kernel_rfl) (by decide) (by decide) (fun K hK => ?_) (fun K hK => ?_)
          · skip
            refine app_rdeps_step rfl (.tmp 55) (.tmp 61) rfl (.slice (some ⟨w2.heap.size, 0, none⟩) 0 0) [] (L.take j) A j c (fun k => T0 k ∨ U k ∨ w.heap.size ≤ k) T0 rfl rfl HE0.out (HRD.out _ (below_alloc (below_drew (Below.refl w2.heap.size w2)) _)) (HOKE.out (w2.heap.size) (by omega)) (HFR.out _ (below_alloc (below_drew (Below.refl w2.heap.size w2)) _)) (by simp only [List.length_nil]; omega) ?_
            intro va wa ra ga hat
            rw [List.nil_append] at ra
            have HRA := Lib.hid ra
            have hza : Below w2.heap.size w2 wa := pw_below_grown (below_alloc (below_drew (Below.refl w2.heap.size w2)) _) _ (below_alloc (below_drew (Below.refl w2.heap.size w2)) _).size ga (fun k' hk' => by simp only [Value.ownBlock] at hk'; injection hk' with hk'; omega)
            have HZA := Lib.hid hza
            have HVB : Hid (∀ k', va.ownBlock = some k' → w2.heap.size ≤ k') := new_blk hat (fun k' hk' => by simp only [Value.ownBlock] at hk'; injection hk' with hk'; omega) (below_alloc (below_drew (Below.refl w2.heap.size w2)) _).size
            clear hat ra ga
            refine hK.out _ _ ⟨hza, pw_cell_below (hza) Q0.out, pw_cell_below (hza) Q1.out, pw_cell_below (hza) Q2.out, pw_cell_below (hza) Q3.out⟩ (fun hHeld => ?_)
            clear hK K
            refine norm_ (a' := ?_) ?_ ?_
            rotate_left
            · show Act.put _ (some 62) _ = _
              simp only [Act.put, List.setIfInBounds_toArray, List.set_cons_zero, List.set_cons_succ, i64_w, i32_w]
              rfl
            refine one_ (i := 9) (N := some 64) #[true, true, true, true, true, true, true, true, true, true, false, false] rfl rfl (by kernel_rfl) (by decide) (fun K hK => ?_)
            refine value_ (w1 := ?_) (v := ?_) (by rfl) rfl ?_ ?_
            rotate_left 2
            · go_simp
              constructor
              · rfl
              · rfl
            refine hK.out _ _ ⟨hHeld.1.alloc hHeld.1.size _, pw_cell_below (hHeld.1.alloc hHeld.1.size _) Q0.out, pw_cell_below (hHeld.1.alloc hHeld.1.size _) Q1.out, pw_cell_below (hHeld.1.alloc hHeld.1.size _) Q2.out, pw_cell_below (hHeld.1.alloc hHeld.1.size _) Q3.out⟩ (fun hHeld => ?_)
            clear hK K
            refine norm_ (a' := ?_) ?_ ?_
            rotate_left
            · show Act.put _ (some 64) _ = _
              simp only [Act.put, List.setIfInBounds_toArray, List.set_cons_zero, List.set_cons_succ, i64_w, i32_w]
              rfl
            exact norm_ (by simp only [putAll, Act.put, List.setIfInBounds_toArray, List.set_cons_zero, List.set_cons_succ]) (hCont (.slice (some ⟨w2.heap.size, 0, none⟩) 0 0, va, wa.heap.size) _ ⟨hHeld.1, Kd.R_below HRA.out (below_alloc (Below.refl _ _) _), heap_alloc_new wa _, HVB.out⟩)
          · skip
            refine value_ (w1 := ?_) (v := ?_) (by rfl) rfl ?_ ?_
            rotate_left 2
            · go_simp
              constructor
              · rfl
              · rfl
            refine hK.out _ _ ⟨hHeld.1.alloc hHeld.1.size _, pw_cell_below (hHeld.1.alloc hHeld.1.size _) Q0.out, pw_cell_below (hHeld.1.alloc hHeld.1.size _) Q1.out, pw_cell_below (hHeld.1.alloc hHeld.1.size _) Q2.out, pw_cell_below (hHeld.1.alloc hHeld.1.size _) Q3.out⟩ (fun hHeld => ?_)
            clear hK K
            refine norm_ (a' := ?_) ?_ ?_
            rotate_left
            · show Act.put _ (some 64) _ = _
              simp only [Act.put, List.setIfInBounds_toArray, List.set_cons_zero, List.set_cons_succ, i64_w, i32_w]
              rfl
            refine one_ (i := 7) (N := some 62) #[true, true, true, true, true, true, true, true, true, true, false, false] rfl rfl (by kernel_rfl) (by decide) (fun K hK => ?_)
            refine app_rdeps_step rfl (.tmp 55) (.tmp 61) rfl (.slice (some ⟨w2.heap.size, 0, none⟩) 0 0) [] (L.take j) A j c (fun k => T0 k ∨ U k ∨ w.heap.size ≤ k) T0 rfl rfl HE1.out (HRD.out _ (below_alloc (below_alloc (below_drew (Below.refl w2.heap.size w2)) _) _)) (HOKE.out (w2.heap.size) (by omega)) (HFR.out _ (below_alloc (below_alloc (below_drew (Below.refl w2.heap.size w2)) _) _)) (by simp only [List.length_nil]; omega) ?_
            intro va wa ra ga hat
            rw [List.nil_append] at ra
            have HRA := Lib.hid ra
            have HZa : Hid (wa.heap[w2.heap.size + 1]? = some (.cells #[.string d.out, .int .i64 d.time, .slice Ad nd cd] 24 (0, 0))) := (ga.block _ (blk_lt HX1.out) (by simp only [Value.ownBlock]; intro h; injection h with h; omega)).trans HX1.out
            have hza : Below w2.heap.size w2 wa := pw_below_grown (below_alloc (below_alloc (below_drew (Below.refl w2.heap.size w2)) _) _) _ (below_alloc (below_alloc (below_drew (Below.refl w2.heap.size w2)) _) _).size ga (fun k' hk' => by simp only [Value.ownBlock] at hk'; injection hk' with hk'; omega)
            have HZA := Lib.hid hza
            have HVB : Hid (∀ k', va.ownBlock = some k' → w2.heap.size ≤ k') := new_blk hat (fun k' hk' => by simp only [Value.ownBlock] at hk'; injection hk' with hk'; omega) (below_alloc (below_alloc (below_drew (Below.refl w2.heap.size w2)) _) _).size
            clear hat ra ga
            refine hK.out _ _ ⟨hza, pw_cell_below (hza) Q0.out, pw_cell_below (hza) Q1.out, pw_cell_below (hza) Q2.out, pw_cell_below (hza) Q3.out⟩ (fun hHeld => ?_)
            clear hK K
            refine norm_ (a' := ?_) ?_ ?_
            rotate_left
            · show Act.put _ (some 62) _ = _
              simp only [Act.put, List.setIfInBounds_toArray, List.set_cons_zero, List.set_cons_succ, i64_w, i32_w]
              rfl
            exact norm_ (by simp only [putAll, Act.put, List.setIfInBounds_toArray, List.set_cons_zero, List.set_cons_succ]) (hCont (.slice (some ⟨w2.heap.size, 0, none⟩) 0 0, va, w2.heap.size + 1) _ ⟨hHeld.1, HRA.out, HZa.out, HVB.out⟩)
        · skip
          refine value_ (w1 := ?_) (v := ?_) (by rfl) rfl ?_ ?_
          rotate_left 2
          · go_simp
            constructor
            · rfl
            · rfl
          refine hK.out _ _ ⟨hHeld.1.alloc hHeld.1.size _, pw_cell_below (hHeld.1.alloc hHeld.1.size _) Q0.out, pw_cell_below (hHeld.1.alloc hHeld.1.size _) Q1.out, pw_cell_below (hHeld.1.alloc hHeld.1.size _) Q2.out, pw_cell_below (hHeld.1.alloc hHeld.1.size _) Q3.out⟩ (fun hHeld => ?_)
          clear hK K
          refine norm_ (a' := ?_) ?_ ?_
          rotate_left
          · show Act.put _ (some 64) _ = _
            simp only [Act.put, List.setIfInBounds_toArray, List.set_cons_zero, List.set_cons_succ, i64_w, i32_w]
            rfl
          refine one_ (i := 0) (N := some 55) #[true, true, true, true, true, true, true, false, true, true, false, false] rfl rfl (by kernel_rfl) (by decide) (fun K hK => ?_)
          refine value_ (w1 := ?_) (v := ?_) (by rfl) rfl ?_ ?_
          rotate_left 2
          · go_simp
            constructor
            · rfl
            · rfl
          refine hK.out _ _ ⟨hHeld.1.alloc hHeld.1.size _, pw_cell_below (hHeld.1.alloc hHeld.1.size _) Q0.out, pw_cell_below (hHeld.1.alloc hHeld.1.size _) Q1.out, pw_cell_below (hHeld.1.alloc hHeld.1.size _) Q2.out, pw_cell_below (hHeld.1.alloc hHeld.1.size _) Q3.out⟩ (fun hHeld => ?_)
          clear hK K
          refine norm_ (a' := ?_) ?_ ?_
          rotate_left
          · show Act.put _ (some 55) _ = _
            simp only [Act.put, List.setIfInBounds_toArray, List.set_cons_zero, List.set_cons_succ, i64_w, i32_w]
            rfl
          refine one_ (i := 7) (N := some 62) #[true, true, true, true, true, true, true, true, true, true, false, false] rfl rfl (by kernel_rfl) (by decide) (fun K hK => ?_)
          refine app_rdeps_step rfl (.tmp 55) (.tmp 61) rfl (.slice (some ⟨w2.heap.size + 1, 0, none⟩) 0 0) [] (L.take j) A j c (fun k => T0 k ∨ U k ∨ w.heap.size ≤ k) T0 rfl rfl HE2.out (HRD.out _ (below_alloc (below_alloc (below_drew (Below.refl w2.heap.size w2)) _) _)) (HOKE.out (w2.heap.size + 1) (by omega)) (HFR.out _ (below_alloc (below_alloc (below_drew (Below.refl w2.heap.size w2)) _) _)) (by simp only [List.length_nil]; omega) ?_
          intro va wa ra ga hat
          rw [List.nil_append] at ra
          have HRA := Lib.hid ra
          have HZa : Hid (wa.heap[w2.heap.size]? = some (.cells #[.string d.out, .int .i64 d.time, .slice Ad nd cd] 24 (0, 0))) := (ga.block _ (blk_lt HX2.out) (by simp only [Value.ownBlock]; intro h; injection h with h; omega)).trans HX2.out
          have hza : Below w2.heap.size w2 wa := pw_below_grown (below_alloc (below_alloc (below_drew (Below.refl w2.heap.size w2)) _) _) _ (below_alloc (below_alloc (below_drew (Below.refl w2.heap.size w2)) _) _).size ga (fun k' hk' => by simp only [Value.ownBlock] at hk'; injection hk' with hk'; omega)
          have HZA := Lib.hid hza
          have HVB : Hid (∀ k', va.ownBlock = some k' → w2.heap.size ≤ k') := new_blk hat (fun k' hk' => by simp only [Value.ownBlock] at hk'; injection hk' with hk'; omega) (below_alloc (below_alloc (below_drew (Below.refl w2.heap.size w2)) _) _).size
          clear hat ra ga
          refine hK.out _ _ ⟨hza, pw_cell_below (hza) Q0.out, pw_cell_below (hza) Q1.out, pw_cell_below (hza) Q2.out, pw_cell_below (hza) Q3.out⟩ (fun hHeld => ?_)
          clear hK K
          refine norm_ (a' := ?_) ?_ ?_
          rotate_left
          · show Act.put _ (some 62) _ = _
            simp only [Act.put, List.setIfInBounds_toArray, List.set_cons_zero, List.set_cons_succ, i64_w, i32_w]
            rfl
          exact norm_ (by simp only [putAll, Act.put, List.setIfInBounds_toArray, List.set_cons_zero, List.set_cons_succ]) (hCont (.slice (some ⟨w2.heap.size + 1, 0, none⟩) 0 0, va, w2.heap.size) _ ⟨hHeld.1, HRA.out, HZa.out, HVB.out⟩)
      rintro ⟨v55, va, bb⟩ wx ⟨hF1, hF2, hF3, hF5⟩
      simp only at hF2 hF3 hF5
      have hHeld : Below w2.heap.size w2 wx ∧ wx.cell? ⟨g, 1, none⟩ = some (.slice A n c) ∧ wx.cell? ⟨x, 0, none⟩ = some (.string d.out) ∧ wx.cell? ⟨x, 1, none⟩ = some (.int .i64 d.time) ∧ wx.cell? ⟨x, 2, none⟩ = some (.slice Ad nd cd) := ⟨hF1, pw_cell_below (hF1) Q0.out, pw_cell_below (hF1) Q1.out, pw_cell_below (hF1) Q2.out, pw_cell_below (hF1) Q3.out⟩
      have HRA := Lib.hid hF2
      have HBX2 := Lib.hid hF3
      have HVB := Lib.hid hF5
      clear hF1 hF2 hF3 hF5
      refine norm_ (a' := ?_) ?_ ?_
      rotate_left
      · simp only [putAll, Act.put, List.setIfInBounds_toArray, List.set_cons_zero, List.set_cons_succ]
        rfl
      refine one_ (i := 10) (N := some 65) #[true, true, true, true, true, true, true, true, true, true, true, false] rfl rfl (by kernel_rfl) (by decide) (fun K hK => ?_)
      refine app_rdeps_step rfl (.tmp 62) (.tmp 64) rfl va (L.take j) [d] (some ⟨bb, 0, none⟩) 1 1 (fun k => T0 k ∨ U k ∨ w.heap.size ≤ k) U rfl rfl HRA.out (box_reads HBX2.out (Kd.R_below HD2.out hHeld.1)) ?_ (HFR.out _ hHeld.1) (by have := List.length_take_le j L; have := HN.out; omega) ?_
      · intro k hk
        refine ⟨.inr (.inl hk), fun e => ?_⟩
        have h1 := (HU.out k hk).1
        have h2 := hbw2.out.size
        have h3 := HVB.out k e.symm
        omega
      intro vb wb rb gb hat
      have hzb : Below w2.heap.size w2 wb := pw_below_grown hHeld.1 _ hHeld.1.size gb (fun k' hk' => HVB.out k' hk')
      have HRB := Lib.hid rb
      have HZB := Lib.hid hzb
      have HVC : Hid (∀ k', vb.ownBlock = some k' → w2.heap.size ≤ k') := new_blk hat HVB.out hHeld.1.size
      clear rb gb hat
      refine hK.out _ _ ⟨hzb, pw_cell_below (hzb) Q0.out, pw_cell_below (hzb) Q1.out, pw_cell_below (hzb) Q2.out, pw_cell_below (hzb) Q3.out⟩ (fun hHeld => ?_)
      clear hK K
      refine norm_ (a' := ?_) ?_ ?_
      rotate_left
      · show Act.put _ (some 65) _ = _
        simp only [Act.put, List.setIfInBounds_toArray, List.set_cons_zero, List.set_cons_succ, i64_w, i32_w]
        rfl
      refine pure_ (i := 11) (N := some 5) (v := ?_) (a' := ?_) #[true, true, true, true, true, true, true, true, true, true, true, true] rfl rfl (by kernel_rfl) (fun _ _ _ h => h) (Or.inl ⟨by rfl, ?_⟩) ?_ ?_
      rotate_left
      · intro w'
        go_simp
        with_reducible rfl
      rotate_left
      · simp only [Act.put, List.setIfInBounds_toArray, List.set_cons_zero, List.set_cons_succ, i64_w, i32_w]
        rfl
      refine done_ (by kernel_rfl) ?_
      --S7
      clear hHeld HRA HBX2 HVB cutA
      obtain ⟨A8, c8, e8⟩ := Kd.R_slice HRB.out
      obtain ⟨n8, hn8⟩ : ∃ n8, n8 = ((L.take j ++ [d]).map DepV.x).length := ⟨_, rfl⟩
      rw [← hn8] at e8
      subst e8
      have hn8b : n8 ≤ n + 1 := by rw [hn8]; simp only [List.length_map, List.length_append, List.length_singleton, List.length_take]; have := HN.out; omega
      have HN8 := Lib.hid hn8b
      clear hn8 hn8b
      have XGb := Lib.hid ((HZB.out.block _ (blk_lt XG2.out)).trans XG2.out)
      have qb : wb.cell? ⟨g, 1, none⟩ = some (.slice A n c) := blk_cell XGb.out 1
      have cutB := HCB.out
      go_wp2_with (at_builtin; refine Held.of ?_)
      refine Held.out (app_rdeps rfl (.tmp 67) (.tmp 73) rfl (.slice A8 n8 c8) (L.take j ++ [d]) (L.drop j) A9 (n - j) (c - j) (fun k => T0 k ∨ U k ∨ w.heap.size ≤ k) T0 rfl rfl HRB.out (HRD2.out _ HZB.out) ?_ (HFR.out _ HZB.out) (by have h1 := List.length_take_le j L; have h2 := HN.out; rw [List.length_append, List.length_singleton]; omega) ?_)
      · intro k hk
        refine ⟨.inl hk, fun e => ?_⟩
        have h1 := HLT.out k (HT0.out k hk)
        have h2 := hbw2.out.size
        have h3 := HVC.out k e.symm
        omega
      intro vc wc rc gc _
      have hzc : Below w2.heap.size w2 wc := pw_below_grown HZB.out _ HZB.out.size gc (fun k' hk' => HVC.out k' hk')
      have HRC := Lib.hid rc
      have HZC := Lib.hid hzc
      obtain ⟨Ac, cc, ec⟩ := Kd.R_slice rc
      obtain ⟨nc, hnc⟩ : ∃ nc, nc = ((L.take j ++ [d] ++ L.drop j).map DepV.x).length := ⟨_, rfl⟩
      rw [← hnc] at ec
      subst ec
      have XGc := Lib.hid ((hzc.block _ (blk_lt XG2.out)).trans XG2.out)
      have fc := blk_frozen XGc.out 1
      have kc := blk_cell XGc.out 1
      clear rc gc hzc hnc qb cutB
      go_wp2
      go_end0
      have hfoot : Foot T w (wc.setCell ⟨g, 1, none⟩ (.slice Ac nc cc)) := (Foot.of_below (hbw2.out.trans (HZC.out.mono hbw2.out.size))).setCell HTG.out 1 _
      have hsz := hfoot.size
      refine ⟨rfl, ⟨?_, .inl HTG.out, vn, .slice Ac nc cc, blk_set XGc.out 1 _, ?_, ?_⟩, hfoot⟩
      · rintro k (h | h | h)
        · exact Nat.lt_of_lt_of_le (HLT.out k h) hsz
        · exact Nat.lt_of_lt_of_le (HU.out k h).1 hsz
        · exact h.2
      · exact Kd.R_mono (Kd.R_set (Kd.R_below (Kd.R_below HNS.out HBX.out) HZC.out) XGc.out (by decide) 1 _) (fun _ h => .inl h)
      · rw [HPV.out, show L.take j ++ d :: L.drop j = L.take j ++ [d] ++ L.drop j by simp]
        refine Kd.R_mono (Kd.R_bound (Kd.R_set HRC.out XGc.out (by decide) 1 _)) (fun k hk => ?_)
        refine ⟨?_, HVN.out k hk.1⟩
        rcases hk.1 with h | h | h
        · exact .inl (HT0.out k h)
        · exact .inr (.inl h)
        · exact .inr (.inr ⟨h, hk.2.2.1⟩)
--END WALK
end Go.Proofs.Ytinonkakpgiblaa.Nam
