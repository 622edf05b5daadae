/- The contract of the reference's Read of a run (a walk). -/
import Derived.Test.YtehndlafbbpofaaRunRead
import Derived.Test.YtehndlafbbpofaaCrcRef
namespace Go.Proofs.Ytehndlafbbpofaa.Run
open Go.RowKit Go.Proofs.YtehndlafbbpofaaW.PrintWords Go.Proofs.YtehndlafbbpofaaW.PrintLast Go.Proofs.Ytehndlafbbpofaa.Base Go.Proofs.Ytehndlafbbpofaa.Pack
set_option linter.unusedVariables false
set_option linter.unusedSimpArgs false

/-- The reference's Read under way: its reader (block g), its run. -/
structure Ry (w0 w : World) (g h q : Nat) (data : List Int) (s : RS) (r : RunV) (vi vf : Value) : Prop where
  rn : Rn 46 25 w0 w h q r vi vf
  rd : RRa w0 w g data s
  g1 : w0.heap.size ≤ g
  by_ : Bytes s.1
section
variable {w0 w w1 : World} {g h q : Nat} {data : List Int} {s s' : RS} {r : RunV} {vi vf : Value}
theorem Ry.op (x : Ry w0 w g h q data s r vi vf) (hr : RRa w0 w1 g data s') (ho : Only g w w1) (hb : Bytes s'.1) : Ry w0 w1 g h q data s' r vi vf := by
  obtain ⟨v, a, hc⟩ := x.rd.cell
  exact ⟨x.rn.only ho hc (by decide) x.g1, hr, x.g1, hb⟩
theorem Ry.below (x : Ry w0 w g h q data s r vi vf) (hb : Below w.heap.size w w1) : Ry w0 w1 g h q data s r vi vf := by
  obtain ⟨v, a, hc⟩ := x.rd.cell
  exact ⟨x.rn.below hb, x.rd.move (x.rd.below.trans (hb.mono x.rd.below.size)) (hb.block g (blk_lt hc)), x.g1, x.by_⟩
theorem Ry.put (x : Ry w0 w g h q data s r vi vf) (i : Nat) (u : Value) (r2 : RunV) (he : (rcells r vi vf).setIfInBounds i u = rcells r2 vi vf) (hi : r2.ins = r.ins) (hf : r2.found = r.found) : Ry w0 (w.setCell ⟨h, i, none⟩ u) g h q data s r2 vi vf := by
  obtain ⟨v, a, hc⟩ := x.rd.cell
  have ho := (Only.refl h w).setCell i u
  exact ⟨x.rn.put i u r2 he hi hf (by decide), x.rd.move (x.rd.below.trans (ho.below x.rn.h1 x.rd.below.size)) (ho.block g (blk_lt hc) (cells_ne hc x.rn.run (by decide))), x.g1, x.by_⟩
theorem Ry.app {p : ByteArray × Int} {v1 : Value} (x : Ry w0 w g h q data s r vi vf) (r1 : Ri 46 w1 w0.heap.size v1 (r.ins ++ [p])) (b1 : Below w0.heap.size w0 w1) (g1 : w.grownBy w1 vi.ownBlock) :
    w1.heap[h]? = some (.cells (rcells r vi vf) 25 (0, 0)) ∧ Ry w0 (w1.setCell ⟨h, 4, none⟩ v1) g h q data s { r with ins := r.ins ++ [p] } v1 vf := by
  obtain ⟨e1, hn⟩ := x.rn.app r1 b1 g1 (by decide)
  obtain ⟨v, a, hc⟩ := x.rd.cell
  have eg := g1.block g (blk_lt hc) (ri_ne x.rn.ins hc (by decide))
  have hc2 := eg.trans hc
  have ho := (Only.refl h w1).setCell 4 v1
  exact ⟨e1, hn, (x.rd.move b1 eg).move (b1.trans (ho.below x.rn.h1 b1.size)) (ho.block g (blk_lt hc2) (cells_ne hc2 e1 (by decide))), x.g1, x.by_⟩
theorem Ry.appF {p : Int} {v1 : Value} (x : Ry w0 w g h q data s r vi vf) (o1 : Oi w0 w1 v1 (r.found ++ [p])) (g1 : w.grownBy w1 vf.ownBlock) :
    w1.heap[h]? = some (.cells (rcells r vi vf) 25 (0, 0)) ∧ Ry w0 (w1.setCell ⟨h, 5, none⟩ v1) g h q data s { r with found := r.found ++ [p] } vi v1 := by
  obtain ⟨e1, hn⟩ := x.rn.appF o1 g1 (by decide)
  obtain ⟨v, a, hc⟩ := x.rd.cell
  have eg := g1.block g (blk_lt hc) (by
    intro e
    obtain ⟨cells', hc'⟩ := own_typed x.rn.fnd.own g e.symm
    exact cells_ne hc hc' (by decide) rfl)
  have hc2 := eg.trans hc
  have ho := (Only.refl h w1).setCell 5 v1
  exact ⟨e1, hn, (x.rd.move o1.below eg).move (o1.below.trans (ho.below x.rn.h1 o1.below.size)) (ho.block g (blk_lt hc2) (cells_ne hc2 e1 (by decide))), x.g1, x.by_⟩
end
section
variable {ops : Array Oper} {rest : List Oper} {o : Oper} {a : Act} {Q : Exit → Act → World → Prop}
theorem app_num2 {w0 W : World} (hgd : o.guard = none) (s x : Operand) (t : TypeId)
    (ho : o.op = .call { callee := .builtin .append, args := #[s, x], argTypes := #[t, t] })
    (ht : Try.prog.underlying t = some (.slice 3))
    (v : Value) (xs : List Int) (y : Int) (hs : a.eval s = v) (hx : a.eval x = .slice (some ⟨W.heap.size, 0, none⟩) 1 1)
    (HO : Oi w0 W v xs) (hl : xs.length + 1 ≤ 17592186044416)
    (h : ∀ v1 w1, Oi w0 w1 v1 (xs ++ [y]) → W.grownBy w1 v.ownBlock → wpList Try.prog ops Q rest (a.put o.dst v1) w1) :
    Held (wpList Try.prog ops Q (o :: rest) a (W.alloc (.cells #[.int .i64 y] 3))) := by
  refine Held.out (print_append_num w0.heap.size hgd s x t 3 .i64 8 ho ht info_int (by decide) v xs y hs hx HO.own HO.below HO.below.size (by omega) ?_)
  intro v1 w1 h1 h2 h3 _
  exact h v1 w1 ⟨h1, h2⟩ h3
end

--BEGIN WALK
set_option maxRecDepth 100000 in
set_option maxHeartbeats 8000000 in
theorem refread_any (v : Value) (xs : List Int) (w : World) (hv : Bs w v xs) (hb : Bytes xs) (hl : xs.length ≤ 1000000) :
    Calls Try.prog 19 #[v] w fun e w' => ∃ v', e = .returned (.tuple #[v', .bool (okB (raw xs))]) ∧ RunIs w' v' (readRun xs) ∧ Below w.heap.size w w' := by
  obtain ⟨A, c, rfl, hcc, hmm⟩ := hv.len
  obtain ⟨g, hg⟩ : ∃ g, g = w.heap.size + 1 := ⟨_, rfl⟩
  obtain ⟨Wb, hWb⟩ : ∃ Wb, Wb = (w.alloc (.cells zrun 25)).alloc (.cells #[.slice A xs.length c, .int .i64 0, .bool false] 102) := ⟨_, rfl⟩
  have hb0 : Below w.heap.size w Wb := by rw [hWb]; exact below_alloc (below_alloc (Below.refl _ _) _) _
  have hrs : Wb.heap[w.heap.size]? = some (.cells zrun 25 (0, 0)) := by rw [hWb]; exact (Below.heap_alloc _ _ _ (by rw [World.size_alloc']; omega)).trans (heap_alloc_new w _)
  have hrd : Wb.heap[g]? = some (.cells #[.slice A xs.length c, .int .i64 0, .bool false] 102 (0, 0)) := by
    rw [hWb, hg, ← World.size_alloc' w (.cells zrun 25)]
    exact heap_alloc_new _ _
  have HR0 : Hid (RRa w Wb g xs (xs, false)) := ⟨0, ⟨⟨_, hrd, hv⟩, hb0, by omega, by omega⟩, fun _ => rfl, fun h => by cases h⟩
  have HBY := Lib.hid hb
  have HB0 := Lib.hid hb0
  have HRS := Lib.hid hrs
  have HGE := Lib.hid hg
  have HWB : Hid (Wb = (w.alloc (.cells #[.string ⟨#[]⟩, .string ⟨#[]⟩, .int .i64 0, .int .i64 0, .slice none 0 0, .slice none 0 0] 25)).alloc (.cells #[.slice A xs.length c, .int .i64 0, .bool false] 102)) := hWb
  have h9 : xs.length ≤ 9223372036854775807 := by omega
  clear hv hb hb0 hrs hrd hWb hg
  go_enter Try.func19, Try.ntmps19
  go_wp2_with fail
  rw [← HWB.out, ← HGE.out]
  --S0
  refine (rnum_g w g xs (xs, false) _ 8 HR0.out h9 (by omega) HBY.out).mono ?_
  rintro e W3 ⟨rfl, hr3, ho3⟩
  obtain ⟨hs, hhs⟩ : ∃ hs, hs = num 8 (xs, false) := ⟨_, rfl⟩
  rw [← hhs]
  have HHS := Lib.hid hhs
  have HR3 : Hid (RRa w W3 g xs (rs1 xs)) := hr3
  have HO3 := Lib.hid ho3
  have HY1 : Hid (Bytes (rs1 xs).1) := numS_bytes HBY.out
  have hhr := num_range (s := (xs, false)) HBY.out (show 8 ≤ 8 by omega)
  rw [← hhs] at hhr
  clear hr3 ho3 hhs HR0
  go_wp2_with fail
  refine (rreft_g w g xs (rs1 xs) _ HR3.out h9 HBY.out).mono ?_
  rintro e W4 ⟨rfl, hr4, ho4⟩
  have HR4 : Hid (RRa w W4 g xs (rs2 xs)) := hr4
  have HO4 := Lib.hid (HO3.out.trans ho4)
  have HY2 : Hid (Bytes (rs2 xs).1) := txtS_bytes HY1.out
  obtain ⟨out, hout⟩ : ∃ out, out = txt (rs1 xs) := ⟨_, rfl⟩
  rw [← hout]
  have HOUT := Lib.hid hout
  clear hr4 ho4 hout HR3 HO3
  go_wp2_with fail
  refine (rreft_g w g xs (rs2 xs) _ HR4.out h9 HBY.out).mono ?_
  rintro e W5 ⟨rfl, hr5, ho5⟩
  have HR5 : Hid (RRa w W5 g xs (rs3 xs)) := hr5
  have HO5 := Lib.hid (HO4.out.trans ho5)
  have HY3 : Hid (Bytes (rs3 xs).1) := txtS_bytes HY2.out
  obtain ⟨cmd, hcmd⟩ : ∃ cmd, cmd = txt (rs2 xs) := ⟨_, rfl⟩
  rw [← hcmd]
  have HCMD := Lib.hid hcmd
  have hcs : cmd.size ≤ 65535 := by rw [hcmd]; exact (txt_size (rs2 xs) HY2.out).2
  clear hr5 ho5 hcmd HR4 HO4
  obtain ⟨h, hh⟩ : ∃ h, W5.heap.size = h := ⟨_, rfl⟩
  obtain ⟨W6, hW6⟩ : ∃ W6, W6 = W5.alloc (.cells #[.string out, .string cmd, .int .i64 0, .int .i64 0, .slice none 0 0, .slice none 0 0] 25) := ⟨_, rfl⟩
  have hb6 : Below W5.heap.size W5 W6 := by rw [hW6]; exact below_alloc (Below.refl _ _) _
  have hbw2 := HR5.out.below
  have X6 : Hid (Ry w W6 g h w.heap.size xs (rs3 xs) ⟨out, cmd, 0, 0, [], []⟩ (.slice none 0 0) (.slice none 0 0)) := by
    have hh6 : W6.heap[h]? = some (.cells #[.string out, .string cmd, .int .i64 0, .int .i64 0, .slice none 0 0, .slice none 0 0] 25 (0, 0)) := by rw [hW6, ← hh]; exact blk_new W5 _
    have hq5 : W5.heap[w.heap.size]? = some (.cells zrun 25 (0, 0)) := (HO5.out.block _ (blk_lt HRS.out) (by have := HGE.out; omega)).trans HRS.out
    obtain ⟨vv, aa, hcc⟩ := HR5.out.cell
    exact ⟨⟨hh6, (hb6.block _ (blk_lt hq5)).trans hq5, Kd.R_nil _ _ _ _ _, Oi.nil (hbw2.trans (hb6.mono hbw2.size)), by have := blk_lt hq5; omega, by have := hbw2.size; omega, Nat.le_refl _⟩, HR5.out.move (hbw2.trans (hb6.mono hbw2.size)) (hb6.block _ (blk_lt hcc)), by have := HGE.out; omega, HY3.out⟩
  have HW6 := Lib.hid hW6
  clear hb6 hbw2 hW6 HR5 HO5 HRS
  go_wp2_with fail
  rw [← HW6.out]
  try rw [hh]
  clear hh
  --S1
  refine (rnum_g w g xs (rs3 xs) _ 8 X6.out.rd h9 (by omega) HBY.out).mono ?_
  rintro e W7 ⟨rfl, hr, ho⟩
  obtain ⟨t, ht⟩ : ∃ t, t = num 8 (rs3 xs) := ⟨_, rfl⟩
  have htr := num_range X6.out.by_ (show 8 ≤ 8 by omega)
  rw [← ht] at htr ⊢
  have HT := Lib.hid ht
  have X7 : Hid (Ry w W7 g h w.heap.size xs (rs4 xs) ⟨out, cmd, 0, 0, [], []⟩ (.slice none 0 0) (.slice none 0 0)) := X6.out.op hr ho (numS_bytes X6.out.by_)
  clear ht hr ho X6
  go_wp2_with fail
  refine (rnum_g w g xs (rs4 xs) _ 8 X7.out.rd h9 (by omega) HBY.out).mono ?_
  rintro e W9 ⟨rfl, hr, ho⟩
  obtain ⟨m, hm⟩ : ∃ m, m = num 8 (rs4 xs) := ⟨_, rfl⟩
  have hmr := num_range X7.out.by_ (show 8 ≤ 8 by omega)
  rw [← hm] at hmr ⊢
  have HM := Lib.hid hm
  have X9 : Hid (Ry w W9 g h w.heap.size xs (rs5 xs) ⟨out, cmd, 0, 0, [], []⟩ (.slice none 0 0) (.slice none 0 0)) := X7.out.op hr ho (numS_bytes X7.out.by_)
  clear hm hr ho X7
  obtain ⟨lt0, hlt⟩ : ∃ lt0 : Bool, lt0 = (late t || late m) := ⟨_, rfl⟩
  have HLT := Lib.hid hlt
  clear hlt
  go_upto_region 7 with fail
  go_cut [5] from 30 (fun s5 wx => s5 = .bool lt0 ∧ W9 = wx)
  case first =>
    by_cases g1 : 4611686018427387904 ≤ t
    · have e1 : late t = true := decide_eq_true g1
      go_wp2
      go_meet
      case rel => exact ⟨by rw [HLT.out, e1]; rfl, rfl⟩
    · have e1 : late t = false := decide_eq_false g1
      by_cases g2 : 4611686018427387904 ≤ m
      · have e2 : late m = true := decide_eq_true g2
        go_wp2
        go_meet
        case rel => exact ⟨by rw [HLT.out, e1, e2]; rfl, rfl⟩
      · have e2 : late m = false := decide_eq_false g2
        go_wp2
        go_meet
        case rel => exact ⟨by rw [HLT.out, e1, e2]; rfl, rfl⟩
  case rest =>
    obtain ⟨rfl, rfl⟩ := hcut
    have f2 := blk_frozen X9.out.rn.run 2
    have q2 := blk_cell X9.out.rn.run 2
    have ha := X9.out.put 2 (.int .i64 (c2 t)) ⟨out, cmd, c2 t, 0, [], []⟩ rfl rfl rfl
    have f3 := blk_frozen ha.rn.run 3
    have q3 := blk_cell ha.rn.run 3
    have X10 := Lib.hid (ha.put 3 (.int .i64 (c2 m)) ⟨out, cmd, c2 t, c2 m, [], []⟩ rfl rfl rfl)
    obtain ⟨t0, t1⟩ := htr
    obtain ⟨m0, m1⟩ := hmr
    have u0 : 0 ≤ t % 4611686018427387904 := by omega
    have u1 : t % 4611686018427387904 < 4611686018427387904 := by omega
    have y0 : 0 ≤ m % 4611686018427387904 := by omega
    have y1 : m % 4611686018427387904 < 4611686018427387904 := by omega
    unfold c2 at f3 q3
    clear ha
    go_wp2_with fail
    obtain ⟨W10, hW10⟩ : ∃ W10, W10 = (W9.setCell ⟨h, 2, none⟩ (.int .i64 (c2 t))).setCell ⟨h, 3, none⟩ (.int .i64 (c2 m)) := ⟨_, rfl⟩
    rw [← hW10] at X10
    --S2
    rw [show (W9.setCell ⟨h, 2, none⟩ (.int .i64 (t % 4611686018427387904))).setCell ⟨h, 3, none⟩ (.int .i64 (m % 4611686018427387904)) = W10 from hW10.symm]
    clear hW10 f2 q2 f3 q3 X9 u0 u1 y0 y1
    refine (rnum_g w g xs (rs5 xs) _ 4 X10.out.rd h9 (by omega) HBY.out).mono ?_
    rintro e W11 ⟨rfl, hr, ho⟩
    have X11 := Lib.hid (X10.out.op hr ho (numS_bytes X10.out.by_))
    have hn4 := num4_range X10.out.by_
    obtain ⟨n, hn⟩ := Int.eq_ofNat_of_zero_le hn4.1
    rw [hn] at hn4 ⊢
    have HN : Hid ((num 4 (rs5 xs)).toNat = n) := by show _ = _; rw [hn]; rfl
    have hn3 : n < 4294967296 := by omega
    clear hr ho X10 hn hn4
    go_upto_block 0 with fail
    go_cut [5] from 46 (fun s5 wx => ∃ (acc : List (ByteArray × Int)) (s : RS) (u : Value), Hid (rI xs = (acc, s)) ∧ s5 = .bool (lt0 || acc.any (fun p => late p.2)) ∧ Hid (Ry w wx g h w.heap.size xs s ⟨out, cmd, c2 t, c2 m, acc.map fun p => (p.1, c2 p.2), []⟩ u (.slice none 0 0)))
    case first =>
      go_wp2_with fail
      --S3
      go_loopw [5, 11] (fun s5 si wr => ∃ (i k : Nat) (s : RS) (acc : List (ByteArray × Int)) (u : Value) (lt : Bool), i + k = n ∧ acc.length ≤ i ∧ si = .int .u64 i ∧ s5 = .bool lt ∧ Hid (lt = (lt0 || acc.any (fun p => late p.2))) ∧ Hid (Ry w wr g h w.heap.size xs s ⟨out, cmd, c2 t, c2 m, acc.map fun p => (p.1, c2 p.2), []⟩ u (.slice none 0 0)) ∧ Hid (insL n (numS 4 (rs5 xs)) = (acc ++ (insL k s).1, (insL k s).2))) (fun _ si _ => n - (intOf si).toNat)
      case atStart => exact ⟨0, n, numS 4 (rs5 xs), [], (.slice none 0 0), lt0, by omega, Nat.zero_le _, rfl, rfl, by show _ = _; simp, X11.out, by show _ = _; simp⟩
      case round =>
        obtain ⟨i, k, s, acc, u, lt, hik, hai, rfl, rfl, HL, X, HI⟩ := hrel
        clear X11
        obtain ⟨vb, ab, hcb⟩ := X.out.rd.cell
        have cb := blk_cell hcb 2
        clear hcb
        rcases Nat.eq_zero_or_pos k with hk0 | hk0
        · subst hk0
          have HE : Hid (insL n (numS 4 (rs5 xs)) = (acc, s)) := by
            show _ = _
            rw [HI.out, insL_stop 0 s (.inl rfl), List.append_nil]
          have g1 : ¬ (i < n) := by omega
          clear HI hik
          go_wp2
          have HIx : Hid (rI xs = (acc, s)) := by
            show insL _ _ = _
            rw [HN.out]
            exact HE.out
          go_meet
          case rel => exact ⟨acc, s, u, HIx, by rw [HL.out], X⟩
        · obtain ⟨k, rfl⟩ : ∃ j, k = j + 1 := ⟨k - 1, by omega⟩
          have g1 : i < n := by omega
          cases hs2 : s.2 with
          | true =>
            rw [hs2] at cb
            have HE : Hid (insL n (numS 4 (rs5 xs)) = (acc, s)) := by
              show _ = _
              rw [HI.out, insL_stop _ s (.inr hs2), List.append_nil]
            clear HI hs2 hik
            go_wp2
            have HIx : Hid (rI xs = (acc, s)) := by
              show insL _ _ = _
              rw [HN.out]
              exact HE.out
            go_meet
            case rel => exact ⟨acc, s, u, HIx, by rw [HL.out], X⟩
          | false =>
            rw [hs2] at cb
            have HS2 := Lib.hid hs2
            clear hs2
            go_wp2_with fail
            refine (rreft_g w g xs s _ X.out.rd h9 HBY.out).mono ?_
            rintro e W3' ⟨rfl, hr, ho⟩
            have X3 := Lib.hid (X.out.op hr ho (txtS_bytes X.out.by_))
            clear hr ho cb X
            go_wp2_with fail
            refine (rnum_g w g xs (txtS s) _ 8 X3.out.rd h9 (by omega) HBY.out).mono ?_
            rintro e W4' ⟨rfl, hr, ho⟩
            have X4 := Lib.hid (X3.out.op hr ho (numS_bytes X3.out.by_))
            obtain ⟨y, hy⟩ : ∃ y, y = num 8 (txtS s) := ⟨_, rfl⟩
            have hyr := num_range X3.out.by_ (show 8 ≤ 8 by omega)
            rw [← hy] at hyr ⊢
            have HYY := Lib.hid hy
            obtain ⟨z0, z1⟩ := hyr
            have u0 : 0 ≤ y % 4611686018427387904 := by omega
            have u1 : y % 4611686018427387904 < 4611686018427387904 := by omega
            clear hy hr ho X3
            have A6 : ∃ A n c, u = .slice A n c := by
              obtain ⟨A, c, e, _, _⟩ := (ri_is X4.out.rn.ins).len
              exact ⟨_, _, _, e⟩
            have hv4 : W4'.cell? ⟨h, 4, none⟩ = some (u) := blk_cell X4.out.rn.run 4
            rcases A6 with ⟨A6, n6, c6, rfl⟩
            cases lt with
            | true =>
              have HL2 : Hid (true = (lt0 || (acc ++ [(txt s, y)]).any (fun p => late p.2))) := by
                show _ = _
                rw [List.any_append, ← Bool.or_assoc, ← HL.out]
                simp
              go_wp2_with (at_builtin; refine Held.of ?_)
              refine Held.out (Kd.R_append kin (w0 := w) (W := W4') w.heap.size rfl (.tmp 68) (.tmp 74) 22 46 (.agg #[.string ⟨#[]⟩, .int .i64 0]) 24 rfl Try.underlying22 (by kernel_rfl) rfl (by decide) (by decide) (.slice A6 n6 c6) _ (txt s, c2 y) [.string (txt s), .int .i64 (c2 y)] (fun _ => True) (fun _ => False) rfl rfl (ri_m _ _ _ _) (fun _ hk => hk.elim) (fun _ _ => trivial) X4.out.rn.ins X4.out.rn.fnd.below X4.out.rn.fnd.below.size (by simp only [List.length_map]; omega) ?_)
              intro v1 w5 r1 b1 gr1 _
              obtain ⟨e5, x5⟩ := X4.out.app r1 b1 gr1
              obtain ⟨A5, c5, e6, _, _⟩ := (ri_is r1).len
              obtain ⟨n5, hn5⟩ : ∃ n5, n5 = ((acc.map fun p => (p.1, c2 p.2)) ++ [(txt s, c2 y)]).length := ⟨_, rfl⟩
              have e6' : v1 = .slice A5 n5 c5 := by rw [hn5]; exact e6
              clear e6
              subst e6'
              have X5 := Lib.hid x5
              have f5 := blk_frozen e5 4
              have c5' := blk_cell e5 4
              clear hn5 gr1 r1 x5
              have X6 : Hid (Ry w (w5.setCell ⟨h, 4, none⟩ (.slice A5 n5 c5)) g h w.heap.size xs (numS 8 (txtS s)) ⟨out, cmd, c2 t, c2 m, (acc ++ [(txt s, y)]).map fun p => (p.1, c2 p.2), []⟩ (.slice A5 n5 c5) (.slice none 0 0)) := by
                have hx := X5.out
                simp only [List.map_append, List.map_cons, List.map_nil] at hx ⊢
                exact hx
              have HI2 : Hid (insL n (numS 4 (rs5 xs)) = ((acc ++ [(txt s, y)]) ++ (insL k (numS 8 (txtS s))).1, (insL k (numS 8 (txtS s))).2)) := by
                show _ = _
                rw [HI.out, insL_go k s HS2.out, List.append_assoc, HYY.out]
                rfl
              obtain ⟨W6', hW6'⟩ : ∃ W6', W6' = w5.setCell ⟨h, 4, none⟩ (.slice A5 n5 c5) := ⟨_, rfl⟩
              rw [← hW6'] at X6
              go_wp2
              rw [← hW6']
              clear hW6' X5 X4 HI f5 c5' e5 HL
              go_roundw
              case rel => exact ⟨i + 1, k, _, _, _, _, by omega, by simp only [List.length_append, List.length_cons, List.length_nil]; omega, by go_num, rfl, HL2.out, X6.out, HI2.out⟩
              case measure => simp [intOf]; omega
            | false =>
              by_cases g2 : 4611686018427387904 ≤ y
              · have e2 : late y = true := decide_eq_true g2
                have HL2 : Hid (true = (lt0 || (acc ++ [(txt s, y)]).any (fun p => late p.2))) := by
                  show _ = _
                  rw [List.any_append, ← Bool.or_assoc, ← HL.out]
                  simp [e2]
                go_wp2_with (at_builtin; refine Held.of ?_)
                refine Held.out (Kd.R_append kin (w0 := w) (W := W4') w.heap.size rfl (.tmp 68) (.tmp 74) 22 46 (.agg #[.string ⟨#[]⟩, .int .i64 0]) 24 rfl Try.underlying22 (by kernel_rfl) rfl (by decide) (by decide) (.slice A6 n6 c6) _ (txt s, c2 y) [.string (txt s), .int .i64 (c2 y)] (fun _ => True) (fun _ => False) rfl rfl (ri_m _ _ _ _) (fun _ hk => hk.elim) (fun _ _ => trivial) X4.out.rn.ins X4.out.rn.fnd.below X4.out.rn.fnd.below.size (by simp only [List.length_map]; omega) ?_)
                intro v1 w5 r1 b1 gr1 _
                obtain ⟨e5, x5⟩ := X4.out.app r1 b1 gr1
                obtain ⟨A5, c5, e6, _, _⟩ := (ri_is r1).len
                obtain ⟨n5, hn5⟩ : ∃ n5, n5 = ((acc.map fun p => (p.1, c2 p.2)) ++ [(txt s, c2 y)]).length := ⟨_, rfl⟩
                have e6' : v1 = .slice A5 n5 c5 := by rw [hn5]; exact e6
                clear e6
                subst e6'
                have X5 := Lib.hid x5
                have f5 := blk_frozen e5 4
                have c5' := blk_cell e5 4
                clear hn5 gr1 r1 x5
                have X6 : Hid (Ry w (w5.setCell ⟨h, 4, none⟩ (.slice A5 n5 c5)) g h w.heap.size xs (numS 8 (txtS s)) ⟨out, cmd, c2 t, c2 m, (acc ++ [(txt s, y)]).map fun p => (p.1, c2 p.2), []⟩ (.slice A5 n5 c5) (.slice none 0 0)) := by
                  have hx := X5.out
                  simp only [List.map_append, List.map_cons, List.map_nil] at hx ⊢
                  exact hx
                have HI2 : Hid (insL n (numS 4 (rs5 xs)) = ((acc ++ [(txt s, y)]) ++ (insL k (numS 8 (txtS s))).1, (insL k (numS 8 (txtS s))).2)) := by
                  show _ = _
                  rw [HI.out, insL_go k s HS2.out, List.append_assoc, HYY.out]
                  rfl
                obtain ⟨W6', hW6'⟩ : ∃ W6', W6' = w5.setCell ⟨h, 4, none⟩ (.slice A5 n5 c5) := ⟨_, rfl⟩
                rw [← hW6'] at X6
                go_wp2
                rw [← hW6']
                clear hW6' X5 X4 HI f5 c5' e5 HL
                go_roundw
                case rel => exact ⟨i + 1, k, _, _, _, _, by omega, by simp only [List.length_append, List.length_cons, List.length_nil]; omega, by go_num, rfl, HL2.out, X6.out, HI2.out⟩
                case measure => simp [intOf]; omega
              · have e2 : late y = false := decide_eq_false g2
                have HL2 : Hid (decide (4611686018427387904 ≤ y) = (lt0 || (acc ++ [(txt s, y)]).any (fun p => late p.2))) := by
                  show _ = _
                  rw [List.any_append, ← Bool.or_assoc, ← HL.out]
                  simp [late]
                go_wp2_with (at_builtin; refine Held.of ?_)
                refine Held.out (Kd.R_append kin (w0 := w) (W := W4') w.heap.size rfl (.tmp 68) (.tmp 74) 22 46 (.agg #[.string ⟨#[]⟩, .int .i64 0]) 24 rfl Try.underlying22 (by kernel_rfl) rfl (by decide) (by decide) (.slice A6 n6 c6) _ (txt s, c2 y) [.string (txt s), .int .i64 (c2 y)] (fun _ => True) (fun _ => False) rfl rfl (ri_m _ _ _ _) (fun _ hk => hk.elim) (fun _ _ => trivial) X4.out.rn.ins X4.out.rn.fnd.below X4.out.rn.fnd.below.size (by simp only [List.length_map]; omega) ?_)
                intro v1 w5 r1 b1 gr1 _
                obtain ⟨e5, x5⟩ := X4.out.app r1 b1 gr1
                obtain ⟨A5, c5, e6, _, _⟩ := (ri_is r1).len
                obtain ⟨n5, hn5⟩ : ∃ n5, n5 = ((acc.map fun p => (p.1, c2 p.2)) ++ [(txt s, c2 y)]).length := ⟨_, rfl⟩
                have e6' : v1 = .slice A5 n5 c5 := by rw [hn5]; exact e6
                clear e6
                subst e6'
                have X5 := Lib.hid x5
                have f5 := blk_frozen e5 4
                have c5' := blk_cell e5 4
                clear hn5 gr1 r1 x5
                have X6 : Hid (Ry w (w5.setCell ⟨h, 4, none⟩ (.slice A5 n5 c5)) g h w.heap.size xs (numS 8 (txtS s)) ⟨out, cmd, c2 t, c2 m, (acc ++ [(txt s, y)]).map fun p => (p.1, c2 p.2), []⟩ (.slice A5 n5 c5) (.slice none 0 0)) := by
                  have hx := X5.out
                  simp only [List.map_append, List.map_cons, List.map_nil] at hx ⊢
                  exact hx
                have HI2 : Hid (insL n (numS 4 (rs5 xs)) = ((acc ++ [(txt s, y)]) ++ (insL k (numS 8 (txtS s))).1, (insL k (numS 8 (txtS s))).2)) := by
                  show _ = _
                  rw [HI.out, insL_go k s HS2.out, List.append_assoc, HYY.out]
                  rfl
                obtain ⟨W6', hW6'⟩ : ∃ W6', W6' = w5.setCell ⟨h, 4, none⟩ (.slice A5 n5 c5) := ⟨_, rfl⟩
                rw [← hW6'] at X6
                go_wp2
                rw [← hW6']
                clear hW6' X5 X4 HI f5 c5' e5 HL
                go_roundw
                case rel => exact ⟨i + 1, k, _, _, _, _, by omega, by simp only [List.length_append, List.length_cons, List.length_nil]; omega, by go_num, rfl, HL2.out, X6.out, HI2.out⟩
                case measure => simp [intOf]; omega
    case rest =>
      obtain ⟨acc, s, vi0, HI1, rfl, Xa⟩ := hcut
      obtain ⟨lt1, hlt1⟩ : ∃ lt1 : Bool, lt1 = (lt0 || (rI xs).1.any (fun p => late p.2)) := ⟨_, rfl⟩
      have Xb : Hid (Ry w wc g h w.heap.size xs (rI xs).2 ⟨out, cmd, c2 t, c2 m, (rI xs).1.map fun p => (p.1, c2 p.2), []⟩ vi0 (.slice none 0 0)) := by
        show Ry _ _ _ _ _ _ _ _ _ _
        rw [HI1.out]
        exact Xa.out
      have el : (lt0 || acc.any (fun p => late p.2)) = lt1 := by rw [hlt1, HI1.out]
      rw [el]
      have HLT1 := Lib.hid hlt1
      clear Xa hlt1 HI1 el acc s
      go_wp2_with fail
      refine (rnum_g w g xs (rI xs).2 _ 4 Xb.out.rd h9 (by omega) HBY.out).mono ?_
      rintro e W12 ⟨rfl, hr, ho⟩
      have X12 := Lib.hid (Xb.out.op hr ho (numS_bytes Xb.out.by_))
      have hn4 := num4_range Xb.out.by_
      obtain ⟨n, hn⟩ := Int.eq_ofNat_of_zero_le hn4.1
      rw [hn] at hn4 ⊢
      have HN2 : Hid ((num 4 (rI xs).2).toNat = n) := by show _ = _; rw [hn]; rfl
      have hn3 : n < 4294967296 := by omega
      clear hr ho Xb hn hn4
      go_upto_block 2 with fail
      go_cut [5] from 79 (fun s5 wx => ∃ (acc : List Int) (s : RS) (u : Value), Hid (rF xs = (acc, s)) ∧ s5 = .bool (lt1 || acc.any late) ∧ Hid (Ry w wx g h w.heap.size xs s ⟨out, cmd, c2 t, c2 m, (rI xs).1.map fun p => (p.1, c2 p.2), acc.map c2⟩ vi0 u))
      case first =>
        go_wp2_with fail
        --S4
        go_loopw [5, 14] (fun s5 si wr => ∃ (i k : Nat) (s : RS) (acc : List Int) (u : Value) (lt : Bool), i + k = n ∧ acc.length ≤ i ∧ si = .int .u64 i ∧ s5 = .bool lt ∧ Hid (lt = (lt1 || acc.any late)) ∧ Hid (Ry w wr g h w.heap.size xs s ⟨out, cmd, c2 t, c2 m, (rI xs).1.map fun p => (p.1, c2 p.2), acc.map c2⟩ vi0 u) ∧ Hid (fndL n (numS 4 (rI xs).2) = (acc ++ (fndL k s).1, (fndL k s).2))) (fun _ si _ => n - (intOf si).toNat)
        case atStart => exact ⟨0, n, numS 4 (rI xs).2, [], (.slice none 0 0), lt1, by omega, Nat.zero_le _, rfl, rfl, by show _ = _; simp, X12.out, by show _ = _; simp⟩
        case round =>
          obtain ⟨i, k, s, acc, u, lt, hik, hai, rfl, rfl, HL, X, HI⟩ := hrel
          clear X12
          obtain ⟨vb, ab, hcb⟩ := X.out.rd.cell
          have cb := blk_cell hcb 2
          clear hcb
          rcases Nat.eq_zero_or_pos k with hk0 | hk0
          · subst hk0
            have HE : Hid (fndL n (numS 4 (rI xs).2) = (acc, s)) := by
              show _ = _
              rw [HI.out, fndL_stop 0 s (.inl rfl), List.append_nil]
            have g1 : ¬ (i < n) := by omega
            clear HI hik
            go_wp2
            have HIx : Hid (rF xs = (acc, s)) := by
              show fndL _ _ = _
              rw [HN2.out]
              exact HE.out
            go_meet
            case rel => exact ⟨acc, s, u, HIx, by rw [HL.out], X⟩
          · obtain ⟨k, rfl⟩ : ∃ j, k = j + 1 := ⟨k - 1, by omega⟩
            have g1 : i < n := by omega
            cases hs2 : s.2 with
            | true =>
              rw [hs2] at cb
              have HE : Hid (fndL n (numS 4 (rI xs).2) = (acc, s)) := by
                show _ = _
                rw [HI.out, fndL_stop _ s (.inr hs2), List.append_nil]
              clear HI hs2 hik
              go_wp2
              have HIx : Hid (rF xs = (acc, s)) := by
                show fndL _ _ = _
                rw [HN2.out]
                exact HE.out
              go_meet
              case rel => exact ⟨acc, s, u, HIx, by rw [HL.out], X⟩
            | false =>
              rw [hs2] at cb
              have HS2 := Lib.hid hs2
              clear hs2
              have X3 := X
              clear X
              go_wp2_with fail
              clear cb
              refine (rnum_g w g xs (s) _ 8 X3.out.rd h9 (by omega) HBY.out).mono ?_
              rintro e W4' ⟨rfl, hr, ho⟩
              have X4 := Lib.hid (X3.out.op hr ho (numS_bytes X3.out.by_))
              obtain ⟨y, hy⟩ : ∃ y, y = num 8 (s) := ⟨_, rfl⟩
              have hyr := num_range X3.out.by_ (show 8 ≤ 8 by omega)
              rw [← hy] at hyr ⊢
              have HYY := Lib.hid hy
              obtain ⟨z0, z1⟩ := hyr
              have u0 : 0 ≤ y % 4611686018427387904 := by omega
              have u1 : y % 4611686018427387904 < 4611686018427387904 := by omega
              clear hy hr ho X3
              have A6 : ∃ A n c, u = .slice A n c := by
                obtain ⟨A, n, c, e, _⟩ := X4.out.rn.fnd.slice
                exact ⟨_, _, _, e⟩
              have hv4 : W4'.cell? ⟨h, 5, none⟩ = some (u) := blk_cell X4.out.rn.run 5
              rcases A6 with ⟨A6, n6, c6, rfl⟩
              cases lt with
              | true =>
                have HL2 : Hid (true = (lt1 || (acc ++ [y]).any late)) := by
                  show _ = _
                  rw [List.any_append, ← Bool.or_assoc, ← HL.out]
                  simp
                go_wp2_with (at_builtin; refine Held.of ?_)
                refine app_num2 (w0 := w) (W := W4') rfl (.tmp 99) (.tmp 103) 23 rfl Try.underlying23 (.slice A6 n6 c6) _ (c2 y) rfl rfl X4.out.rn.fnd (by simp only [List.length_map]; omega) ?_
                intro v1 w5 o1 gr1
                obtain ⟨e5, x5⟩ := X4.out.appF o1 gr1
                obtain ⟨A5, n5, c5, e6, hn5⟩ := o1.slice
                subst e6
                have r1 := trivial
                have X5 := Lib.hid x5
                have f5 := blk_frozen e5 5
                have c5' := blk_cell e5 5
                clear hn5 gr1 r1 x5
                have X6 : Hid (Ry w (w5.setCell ⟨h, 5, none⟩ (.slice A5 n5 c5)) g h w.heap.size xs (numS 8 s) ⟨out, cmd, c2 t, c2 m, (rI xs).1.map fun p => (p.1, c2 p.2), (acc ++ [y]).map c2⟩ vi0 (.slice A5 n5 c5)) := by
                  have hx := X5.out
                  simp only [List.map_append, List.map_cons, List.map_nil] at hx ⊢
                  exact hx
                have HI2 : Hid (fndL n (numS 4 (rI xs).2) = ((acc ++ [y]) ++ (fndL k (numS 8 s)).1, (fndL k (numS 8 s)).2)) := by
                  show _ = _
                  rw [HI.out, fndL_go k s HS2.out, List.append_assoc, HYY.out]
                  rfl
                obtain ⟨W6', hW6'⟩ : ∃ W6', W6' = w5.setCell ⟨h, 5, none⟩ (.slice A5 n5 c5) := ⟨_, rfl⟩
                rw [← hW6'] at X6
                go_wp2
                rw [← hW6']
                clear hW6' X5 X4 HI f5 c5' e5 HL
                go_roundw
                case rel => exact ⟨i + 1, k, _, _, _, _, by omega, by simp only [List.length_append, List.length_cons, List.length_nil]; omega, by go_num, rfl, HL2.out, X6.out, HI2.out⟩
                case measure => simp [intOf]; omega
              | false =>
                by_cases g2 : 4611686018427387904 ≤ y
                · have e2 : late y = true := decide_eq_true g2
                  have HL2 : Hid (true = (lt1 || (acc ++ [y]).any late)) := by
                    show _ = _
                    rw [List.any_append, ← Bool.or_assoc, ← HL.out]
                    simp [e2]
                  go_wp2_with (at_builtin; refine Held.of ?_)
                  refine app_num2 (w0 := w) (W := W4') rfl (.tmp 99) (.tmp 103) 23 rfl Try.underlying23 (.slice A6 n6 c6) _ (c2 y) rfl rfl X4.out.rn.fnd (by simp only [List.length_map]; omega) ?_
                  intro v1 w5 o1 gr1
                  obtain ⟨e5, x5⟩ := X4.out.appF o1 gr1
                  obtain ⟨A5, n5, c5, e6, hn5⟩ := o1.slice
                  subst e6
                  have r1 := trivial
                  have X5 := Lib.hid x5
                  have f5 := blk_frozen e5 5
                  have c5' := blk_cell e5 5
                  clear hn5 gr1 r1 x5
                  have X6 : Hid (Ry w (w5.setCell ⟨h, 5, none⟩ (.slice A5 n5 c5)) g h w.heap.size xs (numS 8 s) ⟨out, cmd, c2 t, c2 m, (rI xs).1.map fun p => (p.1, c2 p.2), (acc ++ [y]).map c2⟩ vi0 (.slice A5 n5 c5)) := by
                    have hx := X5.out
                    simp only [List.map_append, List.map_cons, List.map_nil] at hx ⊢
                    exact hx
                  have HI2 : Hid (fndL n (numS 4 (rI xs).2) = ((acc ++ [y]) ++ (fndL k (numS 8 s)).1, (fndL k (numS 8 s)).2)) := by
                    show _ = _
                    rw [HI.out, fndL_go k s HS2.out, List.append_assoc, HYY.out]
                    rfl
                  obtain ⟨W6', hW6'⟩ : ∃ W6', W6' = w5.setCell ⟨h, 5, none⟩ (.slice A5 n5 c5) := ⟨_, rfl⟩
                  rw [← hW6'] at X6
                  go_wp2
                  rw [← hW6']
                  clear hW6' X5 X4 HI f5 c5' e5 HL
                  go_roundw
                  case rel => exact ⟨i + 1, k, _, _, _, _, by omega, by simp only [List.length_append, List.length_cons, List.length_nil]; omega, by go_num, rfl, HL2.out, X6.out, HI2.out⟩
                  case measure => simp [intOf]; omega
                · have e2 : late y = false := decide_eq_false g2
                  have HL2 : Hid (decide (4611686018427387904 ≤ y) = (lt1 || (acc ++ [y]).any late)) := by
                    show _ = _
                    rw [List.any_append, ← Bool.or_assoc, ← HL.out]
                    simp [late]
                  go_wp2_with (at_builtin; refine Held.of ?_)
                  refine app_num2 (w0 := w) (W := W4') rfl (.tmp 99) (.tmp 103) 23 rfl Try.underlying23 (.slice A6 n6 c6) _ (c2 y) rfl rfl X4.out.rn.fnd (by simp only [List.length_map]; omega) ?_
                  intro v1 w5 o1 gr1
                  obtain ⟨e5, x5⟩ := X4.out.appF o1 gr1
                  obtain ⟨A5, n5, c5, e6, hn5⟩ := o1.slice
                  subst e6
                  have r1 := trivial
                  have X5 := Lib.hid x5
                  have f5 := blk_frozen e5 5
                  have c5' := blk_cell e5 5
                  clear hn5 gr1 r1 x5
                  have X6 : Hid (Ry w (w5.setCell ⟨h, 5, none⟩ (.slice A5 n5 c5)) g h w.heap.size xs (numS 8 s) ⟨out, cmd, c2 t, c2 m, (rI xs).1.map fun p => (p.1, c2 p.2), (acc ++ [y]).map c2⟩ vi0 (.slice A5 n5 c5)) := by
                    have hx := X5.out
                    simp only [List.map_append, List.map_cons, List.map_nil] at hx ⊢
                    exact hx
                  have HI2 : Hid (fndL n (numS 4 (rI xs).2) = ((acc ++ [y]) ++ (fndL k (numS 8 s)).1, (fndL k (numS 8 s)).2)) := by
                    show _ = _
                    rw [HI.out, fndL_go k s HS2.out, List.append_assoc, HYY.out]
                    rfl
                  obtain ⟨W6', hW6'⟩ : ∃ W6', W6' = w5.setCell ⟨h, 5, none⟩ (.slice A5 n5 c5) := ⟨_, rfl⟩
                  rw [← hW6'] at X6
                  go_wp2
                  rw [← hW6']
                  clear hW6' X5 X4 HI f5 c5' e5 HL
                  go_roundw
                  case rel => exact ⟨i + 1, k, _, _, _, _, by omega, by simp only [List.length_append, List.length_cons, List.length_nil]; omega, by go_num, rfl, HL2.out, X6.out, HI2.out⟩
                  case measure => simp [intOf]; omega
      case rest =>
        obtain ⟨acc, s, vf0, HF1, rfl, X⟩ := hcut
        have HRW : Hid (⟨out, cmd, c2 t, c2 m, (rI xs).1.map fun p => (p.1, c2 p.2), acc.map c2⟩ = clip c2 (raw xs).run) := by
          show _ = _
          unfold clip raw
          simp only
          rw [← HOUT.out, ← HCMD.out, ← HT.out, ← HM.out, HF1.out]
        have HLL : Hid ((lt1 || acc.any late) = lateR (raw xs).run) := by
          show _ = _
          unfold lateR raw
          simp only
          rw [← HT.out, ← HM.out, HF1.out, HLT1.out, HLT.out]
        have HST : Hid ((raw xs).st = s) := by show (rF xs).2 = _; rw [HF1.out]
        have HRC : Hid ((raw xs).run.cmd = cmd) := HCMD.out.symm
        have HRH : Hid ((raw xs).hash = hs) := HHS.out.symm
        obtain ⟨lf, hlf⟩ : ∃ lf : Bool, lf = (lt1 || acc.any late) := ⟨_, rfl⟩
        rw [← hlf] at HLL ⊢
        clear hlf
        obtain ⟨vb, ab, hcb⟩ := X.out.rd.cell
        have cb := blk_cell hcb 2
        clear hcb
        --S6
        cases lf with
        | true =>
          have HNO : Hid (okB (raw xs) = false) := by show _ = _; unfold okB; rw [← HLL.out]; rfl
          go_wp2_with (with_reducible refine gate_ (.store 25 (.tmp 2) (.tmp 126)) rfl ?_; refine Held.of ?_)
          refine Held.out (wpList_plain rfl fun K hK => wp_store_row 25 (.tmp 2) (.tmp 126) rfl w.heap.size zrun rfl rfl 25 _ X.out.rn.res (by kernel_rfl) rfl (by simp [zrun, Value.oneCell']) (hK _ _ ?_))
          have HY := Lib.hid (setRow_heap wc w.heap.size _ zrun _ _ X.out.rn.res)
          go_wp2
          (try simp only [Exit.inBlock, Exit.then])
          refine bodyPost_ret (results_cell_row_tmp rfl _ _ w.heap.size 25 _ (0, 0) _ rfl HY.out Try.underlying25 rfl (by kernel_rfl)) rfl ?_
          have hno : okB (raw xs) = false := HNO.out
          rw [hno]
          refine ⟨_, rfl, ?_, set_below X.out.rn.fnd.below (Nat.le_refl _) _⟩
          unfold readRun
          rw [if_neg (by rw [hno]; decide)]
          exact ⟨.slice none 0 0, .slice none 0 0, rfl, ⟨none, 0, rfl, Nat.le_refl _, by simp [zrunV], fun h => absurd h (Nat.lt_irrefl 0)⟩, ⟨none, 0, rfl, Nat.le_refl _, rfl, by simp [zrunV], fun h => absurd h (Nat.lt_irrefl 0)⟩⟩
        | false =>
          cases hs2 : s.2 with
          | true =>
            rw [hs2] at cb
            have HNO : Hid (okB (raw xs) = false) := by show _ = _; unfold okB; rw [HST.out, hs2]; simp
            clear hs2
            go_wp2_with (with_reducible refine gate_ (.store 25 (.tmp 2) (.tmp 126)) rfl ?_; refine Held.of ?_)
            refine Held.out (wpList_plain rfl fun K hK => wp_store_row 25 (.tmp 2) (.tmp 126) rfl w.heap.size zrun rfl rfl 25 _ X.out.rn.res (by kernel_rfl) rfl (by simp [zrun, Value.oneCell']) (hK _ _ ?_))
            have HY := Lib.hid (setRow_heap wc w.heap.size _ zrun _ _ X.out.rn.res)
            go_wp2
            (try simp only [Exit.inBlock, Exit.then])
            refine bodyPost_ret (results_cell_row_tmp rfl _ _ w.heap.size 25 _ (0, 0) _ rfl HY.out Try.underlying25 rfl (by kernel_rfl)) rfl ?_
            have hno : okB (raw xs) = false := HNO.out
            rw [hno]
            refine ⟨_, rfl, ?_, set_below X.out.rn.fnd.below (Nat.le_refl _) _⟩
            unfold readRun
            rw [if_neg (by rw [hno]; decide)]
            exact ⟨.slice none 0 0, .slice none 0 0, rfl, ⟨none, 0, rfl, Nat.le_refl _, by simp [zrunV], fun h => absurd h (Nat.lt_irrefl 0)⟩, ⟨none, 0, rfl, Nat.le_refl _, rfl, by simp [zrunV], fun h => absurd h (Nat.lt_irrefl 0)⟩⟩
          | false =>
            rw [hs2] at cb
            have HS2 := Lib.hid hs2
            clear hs2
            go_wp2_with fail
            refine (rleft_g w g xs s _ X.out.rd h9).mono ?_
            rintro e wd ⟨rfl, hdr⟩
            have X := Lib.hid (X.out.below hdr.below)
            clear hdr
            obtain ⟨ll, hll⟩ : ∃ ll, ll = s.1.length := ⟨_, rfl⟩
            rw [← hll]
            have HLN := Lib.hid hll
            clear hll
            by_cases g1 : 0 < ll
            · have HNO : Hid (okB (raw xs) = false) := by
                show _ = _
                unfold okB
                rw [HST.out, show decide (s.1.length = 0) = false from decide_eq_false (by rw [← HLN.out]; omega)]
                simp
              go_wp2_with (with_reducible refine gate_ (.store 25 (.tmp 2) (.tmp 126)) rfl ?_; refine Held.of ?_)
              refine Held.out (wpList_plain rfl fun K hK => wp_store_row 25 (.tmp 2) (.tmp 126) rfl w.heap.size zrun rfl rfl 25 _ X.out.rn.res (by kernel_rfl) rfl (by simp [zrun, Value.oneCell']) (hK _ _ ?_))
              have HY := Lib.hid (setRow_heap wd w.heap.size _ zrun _ _ X.out.rn.res)
              go_wp2
              (try simp only [Exit.inBlock, Exit.then])
              refine bodyPost_ret (results_cell_row_tmp rfl _ _ w.heap.size 25 _ (0, 0) _ rfl HY.out Try.underlying25 rfl (by kernel_rfl)) rfl ?_
              have hno : okB (raw xs) = false := HNO.out
              rw [hno]
              refine ⟨_, rfl, ?_, set_below X.out.rn.fnd.below (Nat.le_refl _) _⟩
              unfold readRun
              rw [if_neg (by rw [hno]; decide)]
              exact ⟨.slice none 0 0, .slice none 0 0, rfl, ⟨none, 0, rfl, Nat.le_refl _, by simp [zrunV], fun h => absurd h (Nat.lt_irrefl 0)⟩, ⟨none, 0, rfl, Nat.le_refl _, rfl, by simp [zrunV], fun h => absurd h (Nat.lt_irrefl 0)⟩⟩
            · have f1 : wd.cell? ⟨h, 1, none⟩ = some (.string cmd) := blk_cell X.out.rn.run 1
              obtain ⟨As, cs, ws, ks, hbs, hbws⟩ := bytes_conv wd cmd (by omega)
              have HBS := Lib.hid hbs
              have X2 := Lib.hid (X.out.below hbws)
              have HRH2 := Lib.hid (Crc.refHash_eq (bytesOf cmd) (bytesOf_bytes cmd))
              clear hbs hbws
              go_wp2_with fail
              refine (Crc.refhash_any _ _ _ HBS.out).mono ?_
              rintro e w' ⟨rfl, rfl⟩
              rw [HRH2.out]
              have X := X2
              by_cases g2 : hs = Crc.hashOf (bytesOf cmd)
              · have HOK : Hid (okB (raw xs) = true) := by
                  show _ = _
                  unfold okB
                  rw [HST.out, HRC.out, HRH.out, ← HLL.out, HS2.out, show decide (s.1.length = 0) = true from decide_eq_true (by rw [← HLN.out]; omega), show decide (hs = Crc.hashOf (bytesOf cmd)) = true from decide_eq_true g2]
                  rfl
                have g3 : (hs != Crc.hashOf (bytesOf cmd)) = false := by rw [g2]; simp
                have HLF : Hid (lateR (raw xs).run = false) := HLL.out.symm
                clear g2
                --S7
                go_wp2_with (with_reducible refine gate_ (.load 25 (.tmp 7)) rfl ?_; refine Held.of ?_)
                refine Held.out (wpList_load_row rfl 25 (.tmp 7) rfl h rfl 25 _ (0, 0) _ X.out.rn.run Try.underlying25 rfl (by kernel_rfl) ?_)
                go_wp2_with (with_reducible refine gate_ (.store 25 (.tmp 2) (.tmp 127)) rfl ?_; refine Held.of ?_)
                refine Held.out (wpList_plain rfl fun K hK => wp_store_row 25 (.tmp 2) (.tmp 127) rfl w.heap.size _ rfl rfl 25 _ X.out.rn.res (by kernel_rfl) rfl ?_ (hK _ _ ?_))
                · obtain ⟨Ai, ci, ei, _, _⟩ := (ri_is X.out.rn.ins).len
                  obtain ⟨Af, nf, cf, ef, _⟩ := X.out.rn.fnd.slice
                  rw [ei, ef]
                  simp [rcells, Value.oneCell']
                have HY := Lib.hid (setRow_heap ws w.heap.size _ (rcells ⟨out, cmd, c2 t, c2 m, (rI xs).1.map fun p => (p.1, c2 p.2), acc.map c2⟩ vi0 vf0) _ _ X.out.rn.res)
                go_wp2
                (try simp only [Exit.inBlock, Exit.then])
                refine bodyPost_ret (results_cell_row_tmp rfl _ _ w.heap.size 25 _ (0, 0) _ rfl HY.out Try.underlying25 rfl (by kernel_rfl)) rfl ?_
                rw [HOK.out]
                refine ⟨_, rfl, ?_, set_below X.out.rn.fnd.below (Nat.le_refl _) _⟩
                unfold readRun
                rw [if_pos HOK.out, ← clip2_id xs HBY.out HLF.out, ← HRW.out]
                have hon := (Only.refl w.heap.size ws).setRow (rcells ⟨out, cmd, c2 t, c2 m, (rI xs).1.map fun p => (p.1, c2 p.2), acc.map c2⟩ vi0 vf0)
                exact ⟨vi0, vf0, rfl, ri_is (Kd.R_mono (Kd.R_step (Kd.R_types X.out.rn.ins X.out.rn.res (by decide)) fun k' hk' hlt => hon.block k' hlt hk'.2) fun _ _ => trivial), (oi_only X.out.rn.fnd hon X.out.rn.res (by decide) (Nat.le_refl _)).fs⟩
              · have HNO : Hid (okB (raw xs) = false) := by
                  show _ = _
                  unfold okB
                  rw [HST.out, HRC.out, HRH.out, show decide (hs = Crc.hashOf (bytesOf cmd)) = false from decide_eq_false g2]
                  simp
                have g3 : (hs != Crc.hashOf (bytesOf cmd)) = true := by simp [g2]
                go_wp2_with (with_reducible refine gate_ (.store 25 (.tmp 2) (.tmp 126)) rfl ?_; refine Held.of ?_)
                refine Held.out (wpList_plain rfl fun K hK => wp_store_row 25 (.tmp 2) (.tmp 126) rfl w.heap.size zrun rfl rfl 25 _ X.out.rn.res (by kernel_rfl) rfl (by simp [zrun, Value.oneCell']) (hK _ _ ?_))
                have HY := Lib.hid (setRow_heap ws w.heap.size _ zrun _ _ X.out.rn.res)
                go_wp2
                (try simp only [Exit.inBlock, Exit.then])
                refine bodyPost_ret (results_cell_row_tmp rfl _ _ w.heap.size 25 _ (0, 0) _ rfl HY.out Try.underlying25 rfl (by kernel_rfl)) rfl ?_
                have hno : okB (raw xs) = false := HNO.out
                rw [hno]
                refine ⟨_, rfl, ?_, set_below X.out.rn.fnd.below (Nat.le_refl _) _⟩
                unfold readRun
                rw [if_neg (by rw [hno]; decide)]
                exact ⟨.slice none 0 0, .slice none 0 0, rfl, ⟨none, 0, rfl, Nat.le_refl _, by simp [zrunV], fun h => absurd h (Nat.lt_irrefl 0)⟩, ⟨none, 0, rfl, Nat.le_refl _, rfl, by simp [zrunV], fun h => absurd h (Nat.lt_irrefl 0)⟩⟩
--END WALK
end Go.Proofs.Ytehndlafbbpofaa.Run
