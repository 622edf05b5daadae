/- The contract of runs.Write (a walk). -/
import Derived.Test.YtehndlafbbpofaaRunClos
import Derived.Test.YtehndlafbbpofaaCrcWalk
import Derived.Laws.IdiomStrings
namespace Go.Proofs.Ytehndlafbbpofaa.Run
open Go.RowKit Go.Proofs.YtehndlafbbpofaaW.PrintWords Go.Proofs.Ytehndlafbbpofaa.Base Go.Proofs.Ytehndlafbbpofaa.Pack
set_option linter.unusedVariables false
set_option linter.unusedSimpArgs false

/-- []byte(s): a row that is read. -/
theorem bytes_conv (W : World) (s : ByteArray) (hs : s.size ≤ 9223372036854775807) :
    ∃ A c W', (convert 9 27 (.string s)).run Try.prog W = .ok (.slice A s.size c) W' ∧ Bs W' (.slice A s.size c) (bytesOf s) ∧ Below W.heap.size W W' := by
  refine ⟨_, _, _, run_bytes_of_string W 9 27 5 s Try.underlying9 Try.underlying27 Try.underlying5, ?_, below_alloc (below_drew (Below.refl _ _)) _⟩
  have hl := bytesOf_length s
  refine ⟨_, _, by rw [hl], by rw [hl]; have := grownCap_ge W s.size 0 5; omega, hl.symm ▸ rfl, by rw [hl]; exact hs, fun hp => ⟨_, rfl, fun i hi => ?_⟩⟩
  rw [hl] at hi
  have hi2 : i < s.data.size := hi
  rw [add_plain, cell_of_row _ W.heap.size i _ _ _ (heap_alloc_new W.drew _)]
  rw [bytesRow_at s _ i hi2]
  have e : (bytesOf s).getD i 0 = (s.data[i].toNat : Int) := by
    unfold bytesOf
    rw [List.getD_eq_getElem?_getD, List.getElem?_map, Array.getElem?_toList, Array.getElem?_eq_getElem hi2]; rfl
  rw [e]
def headOf (r : RunV) : List Int := Pack.leBytes (Crc.hashOf (bytesOf r.cmd)) 8 ++ textBytes r.out ++ textBytes r.cmd ++ Pack.leBytes r.time 8 ++ Pack.leBytes r.mark 8 ++ Pack.leBytes r.ins.length 4
def insBytes (l : List (ByteArray × Int)) : List Int := l.flatMap fun p => textBytes p.1 ++ Pack.leBytes p.2 8
def foundBytes (l : List Int) : List Int := l.flatMap fun n => Pack.leBytes n 8
def runBytes (r : RunV) : List Int := headOf r ++ insBytes r.ins ++ Pack.leBytes r.found.length 4 ++ foundBytes r.found
def low (r : RunV) : Prop := ∃ t ∈ timesOf r, t < 0
/-- What Write answers: bytes (none at an error), and the error's number. -/
noncomputable def writeRes (r : RunV) : List Int × Int := by
  classical exact if low r then ([], 1) else if 4096 < (runBytes r).length then ([], 3) else (runBytes r, 0)

theorem lesser_neg (ys : List Int) : ∀ x, ys.foldl lesser x < 0 ↔ x < 0 ∨ ∃ t ∈ ys, t < 0 := by
  induction ys with
  | nil => intro x; simp
  | cons y ys ih =>
    intro x
    rw [List.foldl_cons, ih]
    have e : lesser x y < 0 ↔ x < 0 ∨ y < 0 := by unfold lesser; split <;> omega
    rw [e]
    simp only [List.mem_cons, exists_eq_or_imp]
    exact or_assoc
theorem least_neg (r : RunV) : leastOf (timesOf r) < 0 ↔ low r := by
  unfold low
  have e : timesOf r = r.time :: (r.mark :: (r.found ++ r.ins.map (·.2))) := by unfold timesOf; simp
  rw [e]
  show List.foldl lesser r.time _ < 0 ↔ _
  rw [lesser_neg, List.tail_cons]
  simp only [List.mem_cons, exists_eq_or_imp]
theorem writeRes_low (r : RunV) (h : leastOf (timesOf r) < 0) : writeRes r = ([], 1) := by
  unfold writeRes; rw [if_pos ((least_neg r).1 h)]
theorem not_low (r : RunV) (h : ¬ leastOf (timesOf r) < 0) : ∀ t ∈ timesOf r, 0 ≤ t := by
  intro t ht
  have := fun hl => h ((least_neg r).2 hl)
  rcases Int.lt_or_le t 0 with h1 | h1
  · exact absurd ⟨t, ht, h1⟩ this
  · exact h1
theorem writeRes_of (r : RunV) (h : ∀ t ∈ timesOf r, 0 ≤ t) : writeRes r = if 4096 < (runBytes r).length then ([], 3) else (runBytes r, 0) := by
  unfold writeRes
  rw [if_neg]
  rintro ⟨t, ht, h1⟩
  have := h t ht
  omega
theorem hashOf_range (xs : List Int) : 0 ≤ Crc.hashOf xs ∧ Crc.hashOf xs < 18446744073709551616 := by
  unfold Crc.hashOf
  have key : ∀ (l : List Int) (h : Int), 0 ≤ h ∧ h < 18446744073709551616 → 0 ≤ l.foldl Crc.hashed h ∧ l.foldl Crc.hashed h < 18446744073709551616 := by
    intro l
    induction l with
    | nil => intro h hh; exact hh
    | cons x l ih => intro h _; exact ih _ (Crc.hashed_range h x)
  exact key xs _ (by decide)

theorem wr_put {w0 W wu : World} {g1 g2 : Nat} {xs ys : List Int} {v : Value} (h : Wr w0 W g1 g2 xs) (o1 : Ow W wu v ys) :
    Wr w0 (wu.setCell ⟨g1, 0, none⟩ v) g1 g2 ys ∧ Only g1 W (wu.setCell ⟨g1, 0, none⟩ v) ∧ wu.frozen? ⟨g1, 0, none⟩ = false ∧ ∃ vb, wu.cell? ⟨g1, 0, none⟩ = some vb := by
  obtain ⟨vb, hc1, ho⟩ := h.c1
  have hc : wu.heap[g1]? = some (.cells #[vb] 27 (0, 0)) := (o1.below.block g1 (blk_lt hc1)).trans hc1
  have hc2 : wu.heap[g2]? = some (.cells #[.int .i64 0] 28 (0, 0)) := (o1.below.block g2 (blk_lt h.c2)).trans h.c2
  exact ⟨⟨⟨v, blk_set hc 0 v, ow_far (i := 0) (o1.lower ho.below) hc (by decide) h.b1⟩, (Below.heap_setCell _ _ _ _ (fun e => h.ne e.symm)).trans hc2, h.b1, h.b2, h.ne⟩,
    (Only.of_below o1.below).setCell 0 v, blk_frozen hc 0, vb, blk_cell hc 0⟩
theorem wr_below {w0 W W' : World} {g1 g2 : Nat} {xs : List Int} (h : Wr w0 W g1 g2 xs) (hb : Below W.heap.size W W') : Wr w0 W' g1 g2 xs := by
  obtain ⟨vb, hc1, ho⟩ := h.c1
  exact ⟨⟨vb, (hb.block g1 (blk_lt hc1)).trans hc1, ho.step hb⟩, (hb.block g2 (blk_lt h.c2)).trans h.c2, h.b1, h.b2, h.ne⟩
theorem wr_row {w0 W : World} {g1 g2 : Nat} {xs : List Int} (h : Wr w0 W g1 g2 xs) : ∃ A n c, W.cell? ⟨g1, 0, none⟩ = some (.slice A n c) ∧ n = xs.length ∧ Ow w0 W (.slice A n c) xs := by
  obtain ⟨vb, hc1, ho⟩ := h.c1
  obtain ⟨A, n, c, rfl, hn⟩ := ho.slice
  exact ⟨A, n, c, blk_cell hc1 0, hn, ho⟩
theorem ins_snoc (l : List (ByteArray × Int)) (k : Nat) (h : k < l.length) : l.take (k + 1) = l.take k ++ [l.getD k (ByteArray.empty, 0)] := by
  rw [List.take_add_one, List.getElem?_eq_getElem h, List.getD_eq_getElem?_getD, List.getElem?_eq_getElem h]; rfl
theorem insBytes_snoc (l : List (ByteArray × Int)) (p : ByteArray × Int) : insBytes (l ++ [p]) = insBytes l ++ textBytes p.1 ++ Pack.leBytes p.2 8 := by
  unfold insBytes
  rw [List.flatMap_append, List.flatMap_cons, List.flatMap_nil, List.append_nil, List.append_assoc]
theorem foundBytes_snoc (l : List Int) (n : Int) : foundBytes (l ++ [n]) = foundBytes l ++ Pack.leBytes n 8 := by
  unfold foundBytes
  rw [List.flatMap_append, List.flatMap_cons, List.flatMap_nil, List.append_nil]
theorem ins_part (l : List (ByteArray × Int)) (k : Nat) : (insBytes (l.take k)).length ≤ (insBytes l).length := by
  have e : insBytes l = insBytes (l.take k) ++ insBytes (l.drop k) := by unfold insBytes; rw [← List.flatMap_append, List.take_append_drop]
  rw [e, List.length_append]; omega
theorem found_part (l : List Int) (k : Nat) : (foundBytes (l.take k)).length ≤ (foundBytes l).length := by
  have e : foundBytes l = foundBytes (l.take k) ++ foundBytes (l.drop k) := by unfold foundBytes; rw [← List.flatMap_append, List.take_append_drop]
  rw [e, List.length_append]; omega
theorem head_length (r : RunV) (h : LightR r) : (headOf r).length ≤ 10032 := by
  have h1 := h.out
  have h2 := h.cmd
  unfold headOf
  simp only [List.length_append, leBytes_length, textBytes_length]
  omega
theorem writeRes_long (r : RunV) (h : ∀ t ∈ timesOf r, 0 ≤ t) (n : Nat) (h1 : 4096 < n) (h2 : n ≤ (runBytes r).length) : writeRes r = ([], 3) := by
  rw [writeRes_of r h, if_pos (by omega)]

theorem wr_bel {w0 W : World} {g1 g2 : Nat} {xs : List Int} (h : Wr w0 W g1 g2 xs) : Below w0.heap.size w0 W := by
  obtain ⟨vb, hc1, ho⟩ := h.c1
  exact ho.below
theorem wr_lt {w0 W : World} {g1 g2 : Nat} {xs : List Int} (h : Wr w0 W g1 g2 xs) : g1 < W.heap.size := by
  obtain ⟨vb, hc1, ho⟩ := h.c1
  exact blk_lt hc1
theorem run_part (r : RunV) (k : Nat) : (headOf r ++ insBytes (r.ins.take k)).length ≤ (runBytes r).length := by
  have h := ins_part r.ins k
  unfold runBytes
  simp only [List.length_append]
  omega
theorem run_part2 (r : RunV) (k : Nat) : (headOf r ++ insBytes r.ins ++ Pack.leBytes r.found.length 4 ++ foundBytes (r.found.take k)).length ≤ (runBytes r).length := by
  have h := found_part r.found k
  unfold runBytes
  simp only [List.length_append]
  omega

--BEGIN WALK
set_option maxRecDepth 100000 in
set_option maxHeartbeats 8000000 in
theorem write_any (v : Value) (r : RunV) (w : World) (h : RunIs w v r) (hL : LightR r) (hT : ∀ t ∈ timesOf r, t < 9223372036854775808) :
    Calls Try.prog 14 #[v] w fun e w' => ∃ v', e = .returned (.tuple #[v', .int .i64 (writeRes r).2]) ∧ Ow w w' v' (writeRes r).1 := by
  obtain ⟨vi, vf, rfl, hI, hF⟩ := h
  obtain ⟨AI, cI, rfl, hcI, hmI⟩ := hI.len
  obtain ⟨AF, cF, rfl, hcF, hmF⟩ := hF.len
  have HI := Lib.hid hI
  have HF := Lib.hid hF
  have HL := Lib.hid hL
  have HT := Lib.hid hT
  clear hI hF hL hT
  obtain ⟨out, cmd, time, mark, ins, found⟩ := r
  simp only at hcI hmI hcF hmF HI HF
  have hi5 : ins.length ≤ 500 := HL.out.ins
  have hf6 : found.length ≤ 700 := HL.out.found
  have ho5 : out.size ≤ 5000 := HL.out.out
  have hc5 : cmd.size ≤ 5000 := HL.out.cmd
  have hb0 := below_alloc (Below.refl w.heap.size w) (.cells #[.string out, .string cmd, .int .i64 time, .int .i64 mark, .slice AI ins.length cI, .slice AF found.length cF] 33)
  obtain ⟨Wb, hWb⟩ : ∃ Wb, Wb = w.alloc (.cells #[.string out, .string cmd, .int .i64 time, .int .i64 mark, .slice AI ins.length cI, .slice AF found.length cF] 33) := ⟨_, rfl⟩
  have hsz : Wb.heap.size = w.heap.size + 1 := by rw [hWb]; simp
  have hbx : Wb.heap[w.heap.size]? = some (.cells #[.string out, .string cmd, .int .i64 time, .int .i64 mark, .slice AI ins.length cI, .slice AF found.length cF] 33 (0, 0)) := by rw [hWb]; exact blk_new w _
  rw [← hWb] at hb0
  have HRI : Hid (RunIs Wb (.agg #[.string out, .string cmd, .int .i64 time, .int .i64 mark, .slice AI ins.length cI, .slice AF found.length cF]) ⟨out, cmd, time, mark, ins, found⟩) := ⟨_, _, rfl, HI.out.below hb0, HF.out.below hb0⟩
  have HBX := Lib.hid hbx
  have HB0 := Lib.hid hb0
  have HSZ := Lib.hid hsz
  have HWB := Lib.hid hWb
  clear hbx hb0 hsz hWb
  go_enter Try.func14, Try.ntmps14
  go_wp2_with fail
  rw [← HWB.out]
  refine (times_any _ _ _ HRI.out HL.out.ins HL.out.found).mono ?_
  rintro e w1 ⟨v1, rfl, o1⟩
  have O1 := Lib.hid o1
  clear o1
  go_wp2_with fail
  refine (min_any _ _ _ O1.out.fs (by simp [timesOf])).mono ?_
  rintro e w' ⟨rfl, rfl⟩
  have HBW := Lib.hid (HB0.out.trans (O1.out.below.mono HB0.out.size))
  by_cases g1 : leastOf (timesOf ⟨out, cmd, time, mark, ins, found⟩) < 0
  · have HE := Lib.hid (writeRes_low ⟨out, cmd, time, mark, ins, found⟩ g1)
    go_wp2
    go_ret2
    rw [HE.out]
    exact ⟨_, rfl, Ow.nil HBW.out⟩
  · have HNL := Lib.hid (not_low ⟨out, cmd, time, mark, ins, found⟩ g1)
    have hbx : w1.heap[w.heap.size]? = some (.cells #[.string out, .string cmd, .int .i64 time, .int .i64 mark, .slice AI ins.length cI, .slice AF found.length cF] 33 (0, 0)) := (O1.out.below.block _ (by rw [HSZ.out]; omega)).trans HBX.out
    have hw1 : w.heap.size < w1.heap.size := blk_lt hbx
    obtain ⟨Wc, hWc⟩ : ∃ Wc, Wc = (w1.alloc (.cells #[.slice none 0 0] 27)).alloc (.cells #[.int .i64 0] 28) := ⟨_, rfl⟩
    have hbc : Below w1.heap.size w1 Wc := by rw [hWc]; exact below_alloc (below_alloc (Below.refl _ _) _) _
    obtain ⟨G1, hG1⟩ : ∃ G1, w1.heap.size = G1 := ⟨_, rfl⟩
    obtain ⟨G2, hG2⟩ : ∃ G2, G1 + 1 = G2 := ⟨_, rfl⟩
    have hc1 : Wc.heap[G1]? = some (.cells #[.slice none 0 0] 27 (0, 0)) := by
      rw [hWc, ← hG1]
      exact (Below.heap_alloc _ _ _ (by simp)).trans (heap_alloc_new w1 _)
    have hc2 : Wc.heap[G2]? = some (.cells #[.int .i64 0] 28 (0, 0)) := by
      have e : (w1.alloc (.cells #[.slice none 0 0] 27)).heap.size = G2 := by rw [← hG2, ← hG1]; simp
      rw [hWc, ← e]
      exact heap_alloc_new _ _
    have hbxc : Wc.heap[w.heap.size]? = some (.cells #[.string out, .string cmd, .int .i64 time, .int .i64 mark, .slice AI ins.length cI, .slice AF found.length cF] 33 (0, 0)) := (hbc.block _ hw1).trans hbx
    have HWC := Lib.hid hWc
    obtain ⟨As, cs, ws, ks, hbs, hbws⟩ := bytes_conv Wc cmd (by omega)
    rw [hWc, ] at ks
    have f1 : ((w1.alloc (.cells #[.slice none 0 0] 27)).alloc (.cells #[.int .i64 0] 28)).cell? ⟨w.heap.size, 1, none⟩ = some (.string cmd) := by rw [← hWc]; exact blk_cell hbxc 1
    have HC1 := Lib.hid hc1
    have HC2 := Lib.hid hc2
    have HBXC := Lib.hid hbxc
    have HBS := Lib.hid hbs
    have HBWS := Lib.hid hbws
    have HBC := Lib.hid hbc
    have HG := Lib.hid (And.intro hG1 hG2)
    have hgb : w.heap.size < G1 := by omega
    clear hbx hc1 hc2 hbxc hbs hbws hbc hWc hG1 hG2 hw1
    go_wp2_with fail
    refine (Crc.hash_any _ _ _ HBS.out).mono ?_
    rintro e w' ⟨rfl, rfl⟩
    have hhr := hashOf_range (bytesOf cmd)
    go_wp2_with fail
    refine (u64_any _ [] _ _ (Bs.nil _) (by simp) hhr.1 hhr.2).mono ?_
    rintro e w2 ⟨v2, rfl, o2⟩
    rw [List.nil_append] at o2
    obtain ⟨A2, n2, k2, rfl, hn2⟩ := o2.slice
    have hb2 : Below Wc.heap.size Wc w2 := HBWS.out.trans (o2.below.mono HBWS.out.size)
    have hd1 : w2.heap[G1]? = some (.cells #[.slice none 0 0] 27 (0, 0)) := (hb2.block G1 (blk_lt HC1.out)).trans HC1.out
    have hd2 : w2.heap[G2]? = some (.cells #[.int .i64 0] 28 (0, 0)) := (hb2.block G2 (blk_lt HC2.out)).trans HC2.out
    have hdx : w2.heap[w.heap.size]? = some (.cells #[.string out, .string cmd, .int .i64 time, .int .i64 mark, .slice AI ins.length cI, .slice AF found.length cF] 33 (0, 0)) := (hb2.block _ (blk_lt HBXC.out)).trans HBXC.out
    have HB02 : Hid (Below w.heap.size w ws) := (HBW.out.trans (HBC.out.mono HBW.out.size)).trans (HBWS.out.mono ((HBW.out.trans (HBC.out.mono HBW.out.size))).size)
    have hne : G2 ≠ G1 := by have := HG.out.2; omega
    have hgg : w.heap.size ≤ G2 := by have := HG.out.2; omega
    have q1 : w2.cell? ⟨G1, 0, none⟩ = some (.slice none 0 0) := blk_cell hd1 0
    have z1 := blk_frozen hd1 0
    have hwr : Wr w (w2.setCell ⟨G1, 0, none⟩ (.slice A2 n2 k2)) G1 G2 (Pack.leBytes (Crc.hashOf (bytesOf cmd)) 8) :=
      ⟨⟨_, blk_set hd1 0 _, ow_far (i := 0) (o2.lower HB02.out) hd1 (by decide) (by omega)⟩, (Below.heap_setCell _ _ _ _ hne).trans hd2, by omega, hgg, fun e => hne e.symm⟩
    have hdx2 : (w2.setCell ⟨G1, 0, none⟩ (.slice A2 n2 k2)).heap[w.heap.size]? = some (.cells #[.string out, .string cmd, .int .i64 time, .int .i64 mark, .slice AI ins.length cI, .slice AF found.length cF] 33 (0, 0)) := (Below.heap_setCell _ _ _ _ (show w.heap.size ≠ G1 from by omega)).trans hdx
    have HWR0 := Lib.hid hwr
    have HBX0 := Lib.hid hdx2
    have HNE := Lib.hid hne
    clear o2 hn2 hb2 hd1 hd2 hdx hwr hdx2 hne f1 ks
    rw [HG.out.1, HG.out.2] at *
    obtain ⟨W0, hW0⟩ : ∃ W0, W0 = (w2.setCell ⟨G1, 0, none⟩ (.slice A2 n2 k2)) := ⟨_, rfl⟩
    rw [← hW0] at HWR0 HBX0
    have f0 : (w2.setCell ⟨G1, 0, none⟩ (.slice A2 n2 k2)).cell? ⟨w.heap.size, 0, none⟩ = some (.string out) := by rw [← hW0]; exact blk_cell HBX0.out 0
    have HW0 := Lib.hid hW0
    clear hW0
    go_wp2_with fail
    rw [← HW0.out]
    refine (text_c w _ G1 G2 _ out HWR0.out (by omega) (by simp only [List.length_append, leBytes_length, textBytes_length]; omega)).mono ?_
    rintro e W1 ⟨rfl, hwr, hon⟩
    have HWR1 := Lib.hid hwr
    have HBX1 := Lib.hid ((hon.block _ (blk_lt HBX0.out) (by omega)).trans HBX0.out)
    clear hwr hon f0
    have f1 : W1.cell? ⟨w.heap.size, 1, none⟩ = some (.string cmd) := blk_cell HBX1.out 1
    go_wp2_with fail
    refine (text_c w _ G1 G2 _ cmd HWR1.out (by omega) (by simp only [List.length_append, leBytes_length, textBytes_length]; omega)).mono ?_
    rintro e W2 ⟨rfl, hwr, hon⟩
    have HWR2 := Lib.hid hwr
    have HBX2 := Lib.hid ((hon.block _ (blk_lt HBX1.out) (by omega)).trans HBX1.out)
    clear hwr hon f1
    have f2 : W2.cell? ⟨w.heap.size, 2, none⟩ = some (.int .i64 time) := blk_cell HBX2.out 2
    go_wp2_with fail
    refine (number_c w _ G1 G2 _ time HWR2.out (HNL.out _ (by simp [timesOf])) (HT.out _ (by simp [timesOf])) (by simp only [List.length_append, leBytes_length, textBytes_length]; omega)).mono ?_
    rintro e W3 ⟨rfl, hwr, hon⟩
    have HWR3 := Lib.hid hwr
    have HBX3 := Lib.hid ((hon.block _ (blk_lt HBX2.out) (by omega)).trans HBX2.out)
    clear hwr hon f2
    have f3 : W3.cell? ⟨w.heap.size, 3, none⟩ = some (.int .i64 mark) := blk_cell HBX3.out 3
    go_wp2_with fail
    refine (number_c w _ G1 G2 _ mark HWR3.out (HNL.out _ (by simp [timesOf])) (HT.out _ (by simp [timesOf])) (by simp only [List.length_append, leBytes_length, textBytes_length]; omega)).mono ?_
    rintro e W4 ⟨rfl, hwr, hon⟩
    have HWR4 := Lib.hid hwr
    have HBX4 := Lib.hid ((hon.block _ (blk_lt HBX3.out) (by omega)).trans HBX3.out)
    clear hwr hon f3
    obtain ⟨Aba, nba, kba, qb, hnb, hob⟩ := wr_row HWR4.out
    have f4 : W4.cell? ⟨w.heap.size, 4, none⟩ = some (.slice AI ins.length cI) := blk_cell HBX4.out 4
    have HOB := Lib.hid hob
    clear hob hnb
    go_wp2_with fail
    refine (u32_any _ _ _ _ HOB.out.bs (by simp only [List.length_append, leBytes_length, textBytes_length]; omega) (by omega) (by omega)).mono ?_
    rintro e wua ⟨vu, rfl, ou⟩
    obtain ⟨Aua, nua, kua, rfl, hnu⟩ := ou.slice
    obtain ⟨hwr, hon, z1, vb, q1⟩ := wr_put HWR4.out ou
    have hbx := (hon.block _ (blk_lt HBX4.out) (by omega)).trans HBX4.out
    have HOU := Lib.hid ou
    clear hnu qb f4 ou hon
    obtain ⟨W5, hW5⟩ : ∃ W5, W5 = wua.setCell ⟨G1, 0, none⟩ (.slice Aua nua kua) := ⟨_, rfl⟩
    rw [← hW5] at hwr hbx
    have hd5 : Hid (Wr w W5 G1 G2 (headOf ⟨out, cmd, time, mark, ins, found⟩)) := hwr
    have HWR5 := hd5
    have HBX5 := Lib.hid hbx
    have f4 : (wua.setCell ⟨G1, 0, none⟩ (.slice Aua nua kua)).cell? ⟨w.heap.size, 4, none⟩ = some (.slice AI ins.length cI) := by rw [← hW5]; exact blk_cell HBX5.out 4
    have HW5 := Lib.hid hW5
    clear hwr hbx hd5 hW5
    go_wp2_with fail
    rw [← HW5.out]
    clear f4 z1 q1
    go_loopw [48] (fun i wr => ∃ k : Nat, k ≤ ins.length ∧ i = .int .i64 k ∧ Hid (Wr w wr G1 G2 (headOf ⟨out, cmd, time, mark, ins, found⟩ ++ insBytes (ins.take k))) ∧ Hid (wr.heap[w.heap.size]? = some (.cells #[.string out, .string cmd, .int .i64 time, .int .i64 mark, .slice AI ins.length cI, .slice AF found.length cF] 33 (0, 0))) ∧ Hid ((headOf ⟨out, cmd, time, mark, ins, found⟩ ++ insBytes (ins.take k)).length ≤ 10032)) (fun i _ => ins.length - (intOf i).toNat)
    case atStart =>
      refine ⟨0, by omega, rfl, ?_, HBX5.out, ?_⟩
      · show Wr _ _ _ _ _
        simpa [insBytes] using HWR5.out
      · show _ ≤ _
        simpa [insBytes] using head_length _ HL.out
    case round =>
      obtain ⟨k, hk, rfl, HWR, HBXr, HLN⟩ := hrel
      by_cases l1 : k < ins.length
      · obtain ⟨ad, e1, q1, q2⟩ := HI.out.get k l1
        cases e1
        have r1 := pw_cell_below (wr_bel HWR.out) q1
        have r2 := pw_cell_below (wr_bel HWR.out) q2
        have hmem : ins.getD k (ByteArray.empty, 0) ∈ ins := by
          rw [List.getD_eq_getElem?_getD, List.getElem?_eq_getElem l1]
          exact List.getElem_mem l1
        have hin := ins_snoc ins k l1
        clear q1 q2
        generalize ins.getD k (ByteArray.empty, 0) = pk at r1 r2 hin hmem
        obtain ⟨nm, tm⟩ := pk
        simp only at r1 r2
        have r3 := second_cell r2
        have hnm : nm.size ≤ 5000 := HL.out.names _ hmem
        have hmt : tm ∈ timesOf ⟨out, cmd, time, mark, ins, found⟩ := List.mem_append_right _ (List.mem_map.2 ⟨_, hmem, rfl⟩)
        have t0 := HNL.out tm hmt
        have t1 := HT.out tm hmt
        have HIN := Lib.hid hin
        have hg9 := wr_lt HWR.out
        have hln := HLN.out
        obtain ⟨Wq, hWq⟩ : ∃ Wq, Wq = wr.alloc (.cells #[.string nm, .int .i64 tm] 50) := ⟨_, rfl⟩
        have hbq : Below wr.heap.size wr Wq := by rw [hWq]; exact below_alloc (Below.refl _ _) _
        have hq9 : Wq.heap[wr.heap.size]? = some (.cells #[.string nm, .int .i64 tm] 50 (0, 0)) := by rw [hWq]; exact heap_alloc_new wr _
        have HWRq := Lib.hid (wr_below HWR.out hbq)
        have HBXq := Lib.hid ((hbq.block _ (blk_lt HBXr.out)).trans HBXr.out)
        have HQ9 := Lib.hid hq9
        have HWQ := Lib.hid hWq
        clear r2 hin hmem hmt hWq hbq hq9
        go_wp2_with fail
        rw [← HWQ.out]
        refine (text_c w _ G1 G2 _ nm HWRq.out (by omega) (by omega)).mono ?_
        rintro e Wr1 ⟨rfl, hwr, hon⟩
        have hp : Wr1.heap[wr.heap.size]? = some (.cells #[.string nm, .int .i64 tm] 50 (0, 0)) := (hon.block _ (blk_lt HQ9.out) (by omega)).trans HQ9.out
        have p1 : Wr1.cell? ⟨wr.heap.size, 1, none⟩ = some (.int .i64 tm) := blk_cell hp 1
        have HWR1' := Lib.hid hwr
        have HBX1' := Lib.hid ((hon.block _ (blk_lt HBXq.out) (by omega)).trans HBXq.out)
        clear hwr hon hp r1 r3
        go_wp2_with fail
        refine (number_c w _ G1 G2 _ tm HWR1'.out t0 t1 (by rw [List.length_append, textBytes_length]; omega)).mono ?_
        rintro e Wr2 ⟨rfl, hwr, hon⟩
        have HBX2' := Lib.hid ((hon.block _ (blk_lt HBX1'.out) (by omega)).trans HBX1'.out)
        have hwr2 : Wr w Wr2 G1 G2 (headOf ⟨out, cmd, time, mark, ins, found⟩ ++ insBytes (ins.take (k + 1))) := by
          rw [HIN.out, insBytes_snoc, ← List.append_assoc, ← List.append_assoc]
          exact hwr
        obtain ⟨Ac, nc, kc, qc, hnc, hoc⟩ := wr_row hwr2
        have HNC := Lib.hid hnc
        have HWR2' := Lib.hid hwr2
        have hncm : nc ≤ 20000 := by
          rw [hnc, HIN.out, insBytes_snoc, ← List.append_assoc, ← List.append_assoc]
          simp only [List.length_append, leBytes_length, textBytes_length] at hln ⊢
          omega
        clear hwr hon p1 hwr2 hnc hoc hln
        by_cases l2 : nc ≤ 4096
        · go_wp2
          go_roundw
          case rel => exact ⟨k + 1, by omega, by go_num, HWR2', HBX2', by show _ ≤ _; rw [← HNC.out]; omega⟩
          case measure => simp [intOf]; omega
        · have HE := Lib.hid (writeRes_long ⟨out, cmd, time, mark, ins, found⟩ HNL.out nc (by omega) (by rw [HNC.out]; exact run_part ⟨out, cmd, time, mark, ins, found⟩ (k + 1)))
          go_wp2
          go_ret2
          rw [HE.out]
          exact ⟨_, rfl, Ow.nil (wr_bel HWR2'.out)⟩
      · have hk2 : k = ins.length := by omega
        have HWR6 : Hid (Wr w wr G1 G2 (headOf ⟨out, cmd, time, mark, ins, found⟩ ++ insBytes ins)) := by have h := HWR.out; rw [hk2, List.take_length] at h; exact h
        have hl6 : (headOf ⟨out, cmd, time, mark, ins, found⟩ ++ insBytes ins).length ≤ 10032 := by have h := HLN.out; rw [hk2, List.take_length] at h; exact h
        have HL6 := Lib.hid hl6
        clear hk2 HWR HLN hl6
        obtain ⟨Abc, nbc, kbc, qb, hnb, hob⟩ := wr_row HWR6.out
        have f5 : wr.cell? ⟨w.heap.size, 5, none⟩ = some (.slice AF found.length cF) := blk_cell HBXr.out 5
        have HOB := Lib.hid hob
        clear hob hnb
        go_wp2_with fail
        refine (u32_any _ _ _ _ HOB.out.bs (by have := HL6.out; omega) (by omega) (by omega)).mono ?_
        rintro e wuc ⟨vu, rfl, ou⟩
        obtain ⟨Auc, nuc, kuc, rfl, hnu⟩ := ou.slice
        obtain ⟨hwr, hon, z1, vb, q1⟩ := wr_put HWR6.out ou
        have hbx := (hon.block _ (blk_lt HBXr.out) (by omega)).trans HBXr.out
        have HOU := Lib.hid ou
        clear hnu qb f5 ou hon
        obtain ⟨W7, hW7⟩ : ∃ W7, W7 = wuc.setCell ⟨G1, 0, none⟩ (.slice Auc nuc kuc) := ⟨_, rfl⟩
        rw [← hW7] at hwr hbx
        have HWR7 := Lib.hid hwr
        have HBX7 := Lib.hid hbx
        have f5 : (wuc.setCell ⟨G1, 0, none⟩ (.slice Auc nuc kuc)).cell? ⟨w.heap.size, 5, none⟩ = some (.slice AF found.length cF) := by rw [← hW7]; exact blk_cell HBX7.out 5
        have HW7 := Lib.hid hW7
        clear hwr hbx hW7
        go_wp2_with fail
        rw [← HW7.out]
        clear f5 z1 q1
        go_loopw [73] (fun i wr => ∃ k : Nat, k ≤ found.length ∧ i = .int .i64 k ∧ Hid (Wr w wr G1 G2 (headOf ⟨out, cmd, time, mark, ins, found⟩ ++ insBytes ins ++ Pack.leBytes found.length 4 ++ foundBytes (found.take k))) ∧ Hid ((headOf ⟨out, cmd, time, mark, ins, found⟩ ++ insBytes ins ++ Pack.leBytes found.length 4 ++ foundBytes (found.take k)).length ≤ 10036)) (fun i _ => found.length - (intOf i).toNat)
        case atStart =>
          refine ⟨0, by omega, rfl, ?_, ?_⟩
          · show Wr _ _ _ _ _
            simpa [foundBytes] using HWR7.out
          · show _ ≤ _
            have h := HL6.out
            simp only [List.take_zero, foundBytes, List.flatMap_nil, List.append_nil, List.length_append, leBytes_length] at h ⊢
            omega
        case round =>
          obtain ⟨k, hk, rfl, HWR, HLN⟩ := hrel
          by_cases l1 : k < found.length
          · obtain ⟨A', c', e', hcc, hrf⟩ := HF.out
            cases e'
            obtain ⟨ad, e1, q1⟩ := at_nat hrf k l1
            cases e1
            have r1 := pw_cell_below (wr_bel HWR.out) q1
            have hin : found.take (k + 1) = found.take k ++ [rd found k] := Pack.take_snoc found k l1
            have hmem : rd found (k : Int) ∈ found := by
              unfold rd
              rw [Int.toNat_natCast, List.getD_eq_getElem?_getD, List.getElem?_eq_getElem l1]
              exact List.getElem_mem l1
            clear q1 hrf
            generalize rd found (k : Int) = tm at r1 hin hmem
            have hmt : tm ∈ timesOf ⟨out, cmd, time, mark, ins, found⟩ := List.mem_append_left _ (List.mem_append_right _ hmem)
            have t0 := HNL.out tm hmt
            have t1 := HT.out tm hmt
            have HIN := Lib.hid hin
            have hln := HLN.out
            clear hin hmem hmt
            go_wp2_with fail
            refine (number_c w _ G1 G2 _ tm HWR.out t0 t1 (by omega)).mono ?_
            rintro e Wr2 ⟨rfl, hwr, hon⟩
            have hwr2 : Wr w Wr2 G1 G2 (headOf ⟨out, cmd, time, mark, ins, found⟩ ++ insBytes ins ++ Pack.leBytes found.length 4 ++ foundBytes (found.take (k + 1))) := by
              rw [HIN.out, foundBytes_snoc, ← List.append_assoc]
              exact hwr
            obtain ⟨Ac, nc, kc, qc, hnc, hoc⟩ := wr_row hwr2
            have HNC := Lib.hid hnc
            have HWR2' := Lib.hid hwr2
            have hncm : nc ≤ 20000 := by
              rw [hnc, HIN.out, foundBytes_snoc, ← List.append_assoc, List.length_append, leBytes_length]
              omega
            clear hwr hon hwr2 hnc hoc hln r1
            by_cases l2 : nc ≤ 4096
            · go_wp2
              go_roundw
              case rel => exact ⟨k + 1, by omega, by go_num, HWR2', by show _ ≤ _; rw [← HNC.out]; omega⟩
              case measure => simp [intOf]; omega
            · have HE := Lib.hid (writeRes_long ⟨out, cmd, time, mark, ins, found⟩ HNL.out nc (by omega) (by rw [HNC.out]; exact run_part2 ⟨out, cmd, time, mark, ins, found⟩ (k + 1)))
              go_wp2
              go_ret2
              rw [HE.out]
              exact ⟨_, rfl, Ow.nil (wr_bel HWR2'.out)⟩
          · have hk2 : k = found.length := by omega
            have hw8 : Wr w wr G1 G2 (runBytes ⟨out, cmd, time, mark, ins, found⟩) := by have h := HWR.out; rw [hk2, List.take_length] at h; exact h
            have hl8 : (runBytes ⟨out, cmd, time, mark, ins, found⟩).length ≤ 10036 := by have h := HLN.out; rw [hk2, List.take_length] at h; exact h
            obtain ⟨Ac, nc, kc, qc, hnc, hoc⟩ := wr_row hw8
            have z2 : wr.cell? ⟨G2, 0, none⟩ = some (.int .i64 0) := blk_cell hw8.c2 0
            have hncm : nc ≤ 20000 := by omega
            have HOC := Lib.hid hoc
            have HNC := Lib.hid hnc
            have HW8 := Lib.hid hw8
            clear hk2 HWR HLN hw8 hl8 hoc hnc
            by_cases l2 : nc ≤ 4096
            · have HE : Hid (writeRes ⟨out, cmd, time, mark, ins, found⟩ = (runBytes ⟨out, cmd, time, mark, ins, found⟩, 0)) := by show _ = _; rw [writeRes_of _ HNL.out, if_neg (by rw [← HNC.out]; omega)]
              go_wp2
              go_ret2
              rw [HE.out]
              exact ⟨_, rfl, HOC.out⟩
            · have HE := Lib.hid (writeRes_long ⟨out, cmd, time, mark, ins, found⟩ HNL.out nc (by omega) (by rw [HNC.out]; exact Nat.le_refl _))
              go_wp2
              go_ret2
              rw [HE.out]
              exact ⟨_, rfl, Ow.nil (wr_bel HW8.out)⟩
--END WALK
end Go.Proofs.Ytehndlafbbpofaa.Run
