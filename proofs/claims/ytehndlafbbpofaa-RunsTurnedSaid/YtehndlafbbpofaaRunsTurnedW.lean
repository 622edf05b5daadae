/- RunsTurned: a record whose hash or length is turned is none (plain law and walk). -/
import Derived.Test.YtehndlafbbpofaaRunsBackW
import Derived.Test.YtehndlafbbpofaaReclogTurnedW
namespace Go.Proofs.Ytehndlafbbpofaa.Run
open Go.RowKit Go.Proofs.YtehndlafbbpofaaW.PrintWords Go.Proofs.YtehndlafbbpofaaW.PrintLast Go.Proofs.Ytehndlafbbpofaa.Base Go.Proofs.Ytehndlafbbpofaa.Pack
set_option linter.unusedVariables false
set_option linter.unusedSimpArgs false

theorem raw_same (xs ys : List Int) (h : rs1 xs = rs1 ys) : (raw xs).run = (raw ys).run ∧ (raw xs).st = (raw ys).st := by
  have h2 : rs2 xs = rs2 ys := by unfold rs2; rw [h]
  have h3 : rs3 xs = rs3 ys := by unfold rs3; rw [h2]
  have h4 : rs4 xs = rs4 ys := by unfold rs4; rw [h3]
  have h5 : rs5 xs = rs5 ys := by unfold rs5; rw [h4]
  have hI : rI xs = rI ys := by unfold rI; rw [h5]
  have hF : rF xs = rF ys := by unfold rF; rw [hI]
  unfold raw
  rw [h, h2, h3, h4, hI, hF]
  exact ⟨rfl, rfl⟩
theorem rs1_app (hb zs : List Int) (h : hb.length = 8) : rs1 (hb ++ zs) = (zs, false) := by
  unfold rs1 numS
  rw [if_neg (by simp only [Bool.false_eq_true, false_or, List.length_append]; omega)]
  simp only
  rw [List.drop_left' h]
theorem num_app (hb zs : List Int) (h : hb.length = 8) : num 8 (hb ++ zs, false) = leVal hb := by
  unfold num
  rw [if_neg (by simp only [Bool.false_eq_true, false_or, List.length_append]; omega)]
  simp only
  rw [List.take_left' h]
def tr (out cmd : ByteArray) : RunV := ⟨out, cmd, 7, 0, [(⟨#[97]⟩, 1)], []⟩
theorem tr_times (out cmd : ByteArray) : ∀ t ∈ timesOf (tr out cmd), 0 ≤ t ∧ t < 9223372036854775808 := by
  intro t ht
  simp [timesOf, tr] at ht
  omega
theorem tr_light (out cmd : ByteArray) (ho : out.size ≤ 300) (hc : cmd.size ≤ 300) : LightR (tr out cmd) :=
  ⟨Nat.le_trans ho (by decide), Nat.le_trans hc (by decide), (by show 1 ≤ 500; decide), (by show 0 ≤ 700; decide), fun p hp => by
    rw [List.mem_singleton.1 hp]; decide⟩
theorem tr_split (out cmd : ByteArray) : ∃ zs, runBytes (tr out cmd) = Pack.leBytes (Crc.hashOf (bytesOf cmd)) 8 ++ zs := by
  refine ⟨textBytes out ++ (textBytes cmd ++ (Pack.leBytes 7 8 ++ (Pack.leBytes 0 8 ++ (Pack.leBytes ((tr out cmd).ins.length : Int) 4 ++ (insBytes (tr out cmd).ins ++ (Pack.leBytes ((tr out cmd).found.length : Int) 4 ++ foundBytes (tr out cmd).found)))))), ?_⟩
  unfold runBytes headOf
  simp only [List.append_assoc]
  rfl
theorem tr_len (out cmd : ByteArray) : (runBytes (tr out cmd)).length = 47 + out.size + cmd.size := by
  unfold runBytes headOf
  simp only [List.length_append, textBytes_length, leBytes_length, foundBytes_len]
  have e : (insBytes (tr out cmd).ins).length = 11 := (by decide +kernel : (insBytes [((⟨#[97]⟩ : ByteArray), (1 : Int))]).length = 11)
  rw [e]
  show 8 + (out.size + 2) + (cmd.size + 2) + 8 + 8 + 4 + 11 + 4 + 8 * 0 = _
  omega
theorem tr_raw (out cmd : ByteArray) (ho : out.size ≤ 300) (hc : cmd.size ≤ 300) (zs : List Int) : raw (runBytes (tr out cmd) ++ zs) = ⟨Crc.hashOf (bytesOf cmd), tr out cmd, (zs, false)⟩ :=
  raw_tail (tr out cmd) zs (tr_times out cmd) (Nat.le_trans ho (by decide)) (Nat.le_trans hc (by decide)) (by show 1 < 4294967296; decide) (by show 0 < 4294967296; decide) (fun p hp => by rw [List.mem_singleton.1 hp]; decide)
theorem okB_st (xs : List Int) (h : okB (raw xs) = true) : (raw xs).st.1 = [] ∧ (raw xs).hash = Crc.hashOf (bytesOf (raw xs).run.cmd) := by
  unfold okB at h
  simp only [Bool.and_eq_true, decide_eq_true_eq] at h
  exact ⟨List.eq_nil_of_length_eq_zero h.1.2, h.2⟩
/-- The three records that RunsTurned reads are none. -/
theorem turned_none (out cmd : ByteArray) (ho : out.size ≤ 300) (hc : cmd.size ≤ 300) (k : Nat) (hk : k < 8) (y : Int) (y0 : 0 ≤ y) (y1 : y < 256) (hy : y ≠ rd (runBytes (tr out cmd)) k) :
    okB (raw ((runBytes (tr out cmd)).set k y)) = false ∧ okB (raw (((runBytes (tr out cmd)).set k y).take (46 + out.size + cmd.size))) = false ∧ okB (raw ((runBytes (tr out cmd)).set k y ++ [0])) = false := by
  obtain ⟨zs, e⟩ := tr_split out cmd
  have hl := tr_len out cmd
  have h0 := tr_raw out cmd ho hc []
  have h1 := tr_raw out cmd ho hc [0]
  have hby := runBytes_bytes (tr out cmd)
  have l8 := leBytes_length (Crc.hashOf (bytesOf cmd)) 8
  rw [List.append_nil] at h0
  obtain ⟨hb, hhb⟩ : ∃ hb, hb = Pack.leBytes (Crc.hashOf (bytesOf cmd)) 8 := ⟨_, rfl⟩
  rw [← hhb] at e l8
  have es : (runBytes (tr out cmd)).set k y = hb.set k y ++ zs := by rw [e, List.set_append_left _ _ (by omega)]
  have l8s : (hb.set k y).length = 8 := by rw [List.length_set]; exact l8
  have q0 := raw_same (hb.set k y ++ zs) (runBytes (tr out cmd)) (by rw [e, rs1_app _ _ l8s, rs1_app _ _ l8])
  have q1 := raw_same ((hb.set k y ++ zs) ++ [0]) (runBytes (tr out cmd) ++ [0]) (by rw [e, List.append_assoc, List.append_assoc, rs1_app _ _ l8s, rs1_app _ _ l8])
  rw [h0] at q0
  rw [h1] at q1
  have hbs : Bytes (hb.set k y) := by
    intro x hx
    rcases List.mem_or_eq_of_mem_set hx with hx | rfl
    · rw [hhb] at hx; exact leBytes_bytes _ _ x hx
    · exact ⟨y0, y1⟩
  have bs : Bytes (hb.set k y ++ zs) := by
    refine hbs.append ?_
    rw [e] at hby
    exact hby.right
  rw [es]
  refine ⟨?_, ?_, ?_⟩
  · cases hok : okB (raw (hb.set k y ++ zs)) with
    | false => rfl
    | true =>
      exfalso
      have h2 := (okB_st _ hok).2
      rw [q0.1] at h2
      have h3 : leVal (hb.set k y) = Crc.hashOf (bytesOf cmd) := by
        rw [← num_app (hb.set k y) zs l8s]
        exact h2
      have h4 := leBytes_leVal (hb.set k y) hbs
      rw [l8s, h3, ← hhb] at h4
      refine hy ?_
      have h5 : rd (runBytes (tr out cmd)) k = rd hb k := by
        unfold rd
        rw [e, Int.toNat_natCast, List.getD_eq_getElem?_getD, List.getD_eq_getElem?_getD, List.getElem?_append_left (by omega)]
      rw [h5, h4]
      unfold rd
      rw [Int.toNat_natCast, List.getD_eq_getElem?_getD, List.getElem?_set_self (by omega)]
      rfl
  · cases hok : okB (raw ((hb.set k y ++ zs).take (46 + out.size + cmd.size))) with
    | false => rfl
    | true =>
      exfalso
      have lx : (hb.set k y ++ zs).length = 47 + out.size + cmd.size := by rw [← es, List.length_set]; exact hl
      have bt : Bytes ((hb.set k y ++ zs).take (46 + out.size + cmd.size)) := bs.take _
      have lt : ((hb.set k y ++ zs).take (46 + out.size + cmd.size)).length ≤ 5000 := by rw [List.length_take]; omega
      obtain ⟨hL, hT⟩ := raw_light _ bt hok lt
      have hr := (raw_back _ bt hok).1
      have ht := raw_tail (raw ((hb.set k y ++ zs).take (46 + out.size + cmd.size))).run ((hb.set k y ++ zs).drop (46 + out.size + cmd.size)) hT (by have := hL.out; omega) (by have := hL.cmd; omega) (by have := hL.ins; omega) (by have := hL.found; omega) (fun p hp => by have := hL.names p hp; omega)
      rw [hr, List.take_append_drop] at ht
      have h2 := q0.2
      rw [ht] at h2
      have h3 : ((hb.set k y ++ zs).drop (46 + out.size + cmd.size)) = [] := congrArg Prod.fst h2
      have h4 := congrArg List.length h3
      rw [List.length_drop, lx] at h4
      simp at h4
      omega
  · cases hok : okB (raw (hb.set k y ++ zs ++ [0])) with
    | false => rfl
    | true =>
      exfalso
      have h2 := (okB_st _ hok).1
      rw [q1.2] at h2
      cases h2

theorem tr_write (out cmd : ByteArray) (ho : out.size ≤ 300) (hc : cmd.size ≤ 300) : writeRes (tr out cmd) = (runBytes (tr out cmd), 0) := by
  rw [writeRes_of _ (fun t ht => (tr_times out cmd t ht).1), if_neg (by rw [tr_len]; omega)]
theorem is_one (W : World) (s : ByteArray) (t : Int) (e : TypeId) : Is (W.alloc (.cells #[.string s, .int .i64 t] e)) (.slice (some ⟨W.heap.size, 0, none⟩) 1 1) [(s, t)] := by
  refine ⟨_, 1, rfl, Nat.le_refl _, by simp, fun _ => ⟨_, rfl, fun i hi => ?_⟩⟩
  have hi0 : i = 0 := by simp at hi; omega
  subst hi0
  rw [add_plain, add_plain, cell_of_row _ W.heap.size _ _ e (0, 0) (heap_alloc_new W _), cell_of_row _ W.heap.size _ _ e (0, 0) (heap_alloc_new W _)]
  exact ⟨rfl, rfl⟩
theorem turned_end {w Wb w9 : World} {n : Nat} {o : Obj} (h : Below w.heap.size w Wb) (k : Below ((Wb.alloc o).drewN n).heap.size ((Wb.alloc o).drewN n) w9) : Below w.heap.size w w9 :=
  have h1 : Below w.heap.size w ((Wb.alloc o).drewN n) := pw_below_drewN (h.alloc h.size o) n
  h1.trans (k.mono h1.size)
theorem HFN (W : World) : Fs W (.slice none 0 0) [] := ⟨none, 0, rfl, Nat.le_refl _, rfl, by simp, fun h => absurd h (Nat.lt_irrefl 0)⟩

set_option maxRecDepth 100000 in
set_option maxHeartbeats 4000000 in
theorem RunsTurned_any (out cmd : ByteArray) (a : Nat) (m : Int) (w : World) (a1 : a < 256) (m0 : 0 ≤ m) (m1 : m < 256) (ho9 : out.size ≤ 9223372036854775807) (hc9 : cmd.size ≤ 9223372036854775807) :
    Calls Try.prog 6 #[.agg #[.string out, .string cmd, .int .u8 a, .int .u8 m]] w fun e w' => e = .returned (.bool true) ∧ Below w.heap.size w w' := by
  obtain ⟨Wb, hWb⟩ : ∃ Wb, Wb = w.alloc (.cells #[.string out, .string cmd, .int .u8 a, .int .u8 m] 49) := ⟨_, rfl⟩
  have hb0 : Below w.heap.size w Wb := by rw [hWb]; exact below_alloc (Below.refl _ _) _
  have hbx : Wb.heap[w.heap.size]? = some (.cells #[.string out, .string cmd, .int .u8 a, .int .u8 m] 49 (0, 0)) := by rw [hWb]; exact blk_new w _
  have HB0 := Lib.hid hb0
  have HWB := Lib.hid hWb
  have c0 := blk_cell hbx 0
  have c1 := blk_cell hbx 1
  have c2 := blk_cell hbx 2
  have c3 := blk_cell hbx 3
  clear hb0 hbx hWb
  by_cases g1 : out.size ≤ 300
  case neg =>
    go_enter Try.func6, Try.ntmps6
    go_upto_region 1 with fail
    rw [← HWB.out]
    go_quiet (fail)
    go_wp2
    go_ret
    exact ⟨rfl, pw_below_drewN HB0.out _⟩
  by_cases g2 : cmd.size ≤ 300
  case neg =>
    go_enter Try.func6, Try.ntmps6
    go_upto_region 1 with fail
    rw [← HWB.out]
    go_quiet (fail)
    go_wp2
    go_ret
    exact ⟨rfl, pw_below_drewN HB0.out _⟩
  by_cases g3 : m = 0
  case pos =>
    have d2 : (m == 0) = true := beq_iff_eq.2 g3
    clear g3
    go_enter Try.func6, Try.ntmps6
    go_upto_region 1 with fail
    rw [← HWB.out]
    go_quiet (fail)
    go_wp2
    go_ret
    exact ⟨rfl, pw_below_drewN HB0.out _⟩
  have d2 : (m == 0) = false := beq_eq_false_iff_ne.2 g3
  have HM := Lib.hid g3
  clear g3
  obtain ⟨j, hj, hj8⟩ : ∃ j : Nat, (a : Int) % 8 = (j : Int) ∧ j < 8 := ⟨a % 8, by omega, Nat.mod_lt _ (by omega)⟩
  go_enter Try.func6, Try.ntmps6
  go_upto_region 1 with fail
  rw [← HWB.out]
  go_quiet (fail)
  have HBN := fun n => Lib.hid (pw_below_drewN HB0.out n)
  go_wp2_with fail
  clear c0 c1 c2 c3
  --S1
  refine (write_any _ (tr out cmd) _ ⟨_, _, rfl, is_one _ _ _ _, HFN _⟩ (tr_light out cmd g1 g2) (fun t ht => (tr_times out cmd t ht).2)).mono ?_
  rintro e w3 ⟨v3, rfl, o3⟩
  have HWR := Lib.hid (tr_write out cmd g1 g2)
  rw [HWR.out] at o3 ⊢
  have HNOx := Lib.hid (turned_none out cmd g1 g2 j hj8)
  have HLN := Lib.hid (tr_len out cmd)
  have HYX := Lib.hid (runBytes_bytes (tr out cmd))
  generalize runBytes (tr out cmd) = xs at o3 HNOx HLN HYX
  have hB3 := o3.below
  obtain ⟨g, cap, rfl, hg0, hg1⟩ := Rec.ow_form o3 (by rw [HLN.out]; omega)
  obtain ⟨hcell, hfroz⟩ := own_at (W := w3) (g := g) (cap := cap) o3.own (i := (j : Int)) (by omega) (by rw [HLN.out]; omega)
  rw [Int.toNat_natCast] at hcell hfroz
  have hxb : 0 ≤ rd xs (j : Int) ∧ rd xs (j : Int) < 256 := rd_byte HYX.out j (by rw [HLN.out]; omega)
  have HY := Lib.hid (Rec.xor_other (rd xs (j : Int)) m hxb.1 hxb.2 m0 m1 HM.out)
  have O2 := Lib.hid (Rec.ow_set o3 rfl hg0 j (Go.bits .xor .u8 (rd xs (j : Int)) m))
  obtain ⟨n3, hn3⟩ : ∃ n3, n3 = xs.length := ⟨_, rfl⟩
  rw [← hn3] at O2 ⊢
  have hn47 : 47 ≤ n3 ∧ n3 ≤ 1000 := by rw [hn3, HLN.out]; omega
  obtain ⟨hn4, hn5⟩ := hn47
  have HN3 := Lib.hid hn3
  clear o3 hn3 hxb
  go_wp2_with fail
  --S2
  obtain ⟨y, hy⟩ : ∃ y, Go.bits .xor .u8 (rd xs (j : Int)) m = y := ⟨_, rfl⟩
  rw [hy] at HY O2 ⊢
  obtain ⟨w4, hw4⟩ : ∃ w4, w3.setCell ⟨g, j, none⟩ (.int .u8 y) = w4 := ⟨_, rfl⟩
  rw [hw4] at O2 ⊢
  have HNO := Lib.hid (HNOx.out y HY.out.1 HY.out.2.1 (fun h => HY.out.2.2 h.symm))
  have HYS : Hid (Bytes (xs.set j y)) := by
    intro x hx
    rcases List.mem_or_eq_of_mem_set hx with hx | rfl
    · exact HYX.out x hx
    · exact ⟨HY.out.1, HY.out.2.1⟩
  have HLS : Hid ((xs.set j y).length = n3) := by show _ = _; rw [List.length_set]; exact HN3.out.symm
  have e46 : 46 + out.size + cmd.size = n3 - 1 := by rw [HN3.out, HLN.out]; omega
  rw [e46] at HNO
  clear hy hw4 hcell hfroz e46 HNOx
  refine (read_any _ (xs.set j y) _ O2.out.bs HYS.out (by rw [HLS.out]; omega)).mono ?_
  rintro e u1 ⟨vr, rfl, hr, hb⟩
  have he1 : readErr (xs.set j y) = 4 := by unfold readErr; rw [HNO.out.1]; rfl
  rw [he1]
  obtain ⟨vi, vf, rfl, hI, hF⟩ := hr
  obtain ⟨A5, c5, rfl, _, _⟩ := hI.len
  obtain ⟨A6, c6, rfl, _, _⟩ := hF.len
  generalize readRun (xs.set j y) = rr1
  generalize rr1.ins.length = ri1
  generalize rr1.found.length = rf1
  obtain ⟨x1, hx1⟩ : ∃ x, x = u1.alloc (.cells #[.string rr1.out, .string rr1.cmd, .int .i64 rr1.time, .int .i64 rr1.mark, .slice A5 ri1 c5, .slice A6 rf1 c6] 33) := ⟨_, rfl⟩
  have HU1 : Hid (Below w4.heap.size w4 x1) := by show Below _ _ _; rw [hx1]; exact hb.alloc hb.size _
  have HX1 := Lib.hid hx1
  have HZ1 : Hid (u1.heap.size + 1 = x1.heap.size) := by show _ = _; rw [hx1]; exact (World.size_alloc' _ _).symm
  clear he1 hI hF hb hx1
  have O3 : Hid (Ow _ x1 (.slice (some ⟨g, 0, none⟩) n3 cap) (xs.set j y)) := O2.out.step HU1.out
  obtain ⟨u, ku, hu⟩ := cut_to O3.out.bs (n3 - 1) (by rw [HLS.out]; omega)
  have ku' : ∀ W, (Instr.slice 27 (.slice (some ⟨g, 0, none⟩) n3 cap) none (some (.int .i64 ((n3 : Int) - 1))) none).run Try.prog W = .ok u W := by
    have e : ((n3 - 1 : Nat) : Int) = (n3 : Int) - 1 := by omega
    rw [← e]
    exact ku
  have HCU := Lib.hid hu
  obtain ⟨A7, n7, c7, rfl⟩ : ∃ A n c, u = .slice A n c := by
    obtain ⟨A, c, e, _, _⟩ := hu.len
    exact ⟨_, _, _, e⟩
  clear hu ku O2
  --S3
  go_wp2_with fail
  rw [← HX1.out]
  clear ku'
  refine (read_any _ ((xs.set j y).take (n3 - 1)) _ HCU.out (HYS.out.take _) (by rw [List.length_take, HLS.out]; omega)).mono ?_
  rintro e u2 ⟨vr, rfl, hr, hb⟩
  have he2 : readErr ((xs.set j y).take (n3 - 1)) = 4 := by unfold readErr; rw [HNO.out.2.1]; rfl
  rw [he2]
  obtain ⟨vi, vf, rfl, hI, hF⟩ := hr
  obtain ⟨A5, c5, rfl, _, _⟩ := hI.len
  obtain ⟨A6, c6, rfl, _, _⟩ := hF.len
  generalize readRun ((xs.set j y).take (n3 - 1)) = rr2
  generalize rr2.ins.length = ri2
  generalize rr2.found.length = rf2
  obtain ⟨x2, hx2⟩ : ∃ x, x = u2.alloc (.cells #[.string rr2.out, .string rr2.cmd, .int .i64 rr2.time, .int .i64 rr2.mark, .slice A5 ri2 c5, .slice A6 rf2 c6] 33) := ⟨_, rfl⟩
  have HU2 : Hid (Below x1.heap.size x1 x2) := by show Below _ _ _; rw [hx2]; exact hb.alloc hb.size _
  have HX2 := Lib.hid hx2
  have HZ2 : Hid (u2.heap.size + 1 = x2.heap.size) := by show _ = _; rw [hx2]; exact (World.size_alloc' _ _).symm
  clear he2 hI hF hb hx2
  have O4 : Hid (Ow _ x2 (.slice (some ⟨g, 0, none⟩) n3 cap) (xs.set j y)) := O3.out.step HU2.out
  clear O3 HCU
  go_wp2_with (at_builtin; refine Held.of ?_)
  rw [← HX2.out, HZ2.out]
  --S4
  refine app_byte rfl (.tmp 75) (.tmp 76) 27 rfl Try.underlying27 _ (xs.set j y) 0 rfl rfl O4.out (by rw [HLS.out]; omega) ?_
  intro va wa oa _
  obtain ⟨A8, n8, c8, rfl, hn8⟩ := oa.slice
  have HOA := Lib.hid oa
  clear oa hn8 O4
  go_wp2_with fail
  refine (read_any _ (xs.set j y ++ [0]) _ HOA.out.bs (HYS.out.append (fun x hx => by rw [List.mem_singleton.1 hx]; omega)) (by rw [List.length_append, HLS.out]; simp; omega)).mono ?_
  rintro e u3 ⟨vr, rfl, hr, hb⟩
  have he3 : readErr (xs.set j y ++ [0]) = 4 := by unfold readErr; rw [HNO.out.2.2]; rfl
  rw [he3]
  obtain ⟨vi, vf, rfl, hI, hF⟩ := hr
  obtain ⟨A5, c5, rfl, _, _⟩ := hI.len
  obtain ⟨A6, c6, rfl, _, _⟩ := hF.len
  generalize readRun (xs.set j y ++ [0]) = rr3
  generalize rr3.ins.length = ri3
  generalize rr3.found.length = rf3
  obtain ⟨x3, hx3⟩ : ∃ x, x = u3.alloc (.cells #[.string rr3.out, .string rr3.cmd, .int .i64 rr3.time, .int .i64 rr3.mark, .slice A5 ri3 c5, .slice A6 rf3 c6] 33) := ⟨_, rfl⟩
  have HU3 : Hid (Below wa.heap.size wa x3) := by show Below _ _ _; rw [hx3]; exact hb.alloc hb.size _
  have HX3 := Lib.hid hx3
  have HZ3 : Hid (u3.heap.size + 1 = x3.heap.size) := by show _ = _; rw [hx3]; exact (World.size_alloc' _ _).symm
  clear he3 hI hF hb hx3
  go_wp2_with fail
  rw [← HX3.out]
  refine (awake_any _).mono ?_
  rintro e w9 ⟨rfl, hb9⟩
  have HBE := Lib.hid (HOA.out.below.trans ((HU3.out.trans (hb9.mono HU3.out.size)).mono HOA.out.below.size))
  clear hb9
  go_wp2
  go_ret
  exact ⟨rfl, turned_end HB0.out HBE.out⟩
end Go.Proofs.Ytehndlafbbpofaa.Run
