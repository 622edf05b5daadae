/- The plain law of a file one of whose bytes is turned. -/
import Derived.Test.YtehndlafbbpofaaRecFile
import Derived.Test.YtehndlafbbpofaaCrcFlipsPure
namespace Go.Proofs.Ytehndlafbbpofaa.Crc
open Go.RowKit Go.Proofs.YtehndlafbbpofaaW.PrintWords
set_option linter.unusedVariables false
set_option linter.unusedSimpArgs false

theorem stepB_inj {x y : BitVec 32} (h : stepB x = stepB y) : x = y := by
  have h1 : stepB (x ^^^ y) = 0#32 := by rw [stepB_xor, h, BitVec.xor_self]
  have h2 := stepB_zero_iff _ h1
  have h3 : x ^^^ y ^^^ y = 0#32 ^^^ y := by rw [h2]
  rwa [BitVec.xor_assoc, BitVec.xor_self, BitVec.xor_zero, BitVec.zero_xor] at h3
theorem feed_inj {x y : BitVec 32} {b : Bool} (h : feed x b = feed y b) : x = y := by
  have e : ∀ r : BitVec 32, feed r b = feed r false ^^^ msk b := by
    intro r
    unfold feed
    rw [Bool.xor_false, msk_xor, BitVec.xor_assoc]
  rw [e x, e y, feed_false', feed_false'] at h
  have h1 : stepB x ^^^ msk b ^^^ msk b = stepB y ^^^ msk b ^^^ msk b := by rw [h]
  rw [BitVec.xor_assoc, BitVec.xor_assoc, BitVec.xor_self, BitVec.xor_zero, BitVec.xor_zero] at h1
  exact stepB_inj h1
theorem feeds_inj (bs : List Bool) : ∀ x y : BitVec 32, bs.foldl feed x = bs.foldl feed y → x = y := by
  induction bs with
  | nil => intro x y h; exact h
  | cons b bs ih => intro x y h; exact feed_inj (ih _ _ h)
theorem stepsB_inj (k : Nat) : ∀ x y, stepsB k x = stepsB k y → x = y := by
  induction k with
  | zero => intro x y h; exact h
  | succ k ih => intro x y h; exact stepB_inj (ih _ _ h)
/-- One byte turned: another sum. -/
theorem byte_change (l1 l2 : List Int) (x y : Int) (ha : Bytes l1) (hb : Bytes l2) (x0 : 0 ≤ x) (x1 : x < 256) (y0 : 0 ≤ y) (y1 : y < 256) (hne : x ≠ y) : sumOf (l1 ++ x :: l2) ≠ sumOf (l1 ++ y :: l2) := by
  intro h
  have hB : ∀ z : Int, 0 ≤ z → z < 256 → Bytes (l1 ++ z :: l2) := by
    intro z z0 z1 q hq
    rcases List.mem_append.1 hq with hq | hq
    · exact ha q hq
    · rcases List.mem_cons.1 hq with rfl | hq
      · exact ⟨z0, z1⟩
      · exact hb q hq
  rw [sum_U _ (hB x x0 x1), sum_U _ (hB y y0 y1)] at h
  have h1 := U_inj h
  have h2 : ∀ a b : BitVec 32, F ^^^ a = F ^^^ b → a = b := by
    intro a b e
    have : F ^^^ (F ^^^ a) = F ^^^ (F ^^^ b) := by rw [e]
    rwa [← BitVec.xor_assoc, ← BitVec.xor_assoc, BitVec.xor_self, BitVec.zero_xor, BitVec.zero_xor] at this
  have h3 := h2 _ _ h1
  have e : ∀ z : Int, bitsOf (l1 ++ z :: l2) = bitsOf l1 ++ (lows (BitVec.ofInt 32 z) 8 ++ bitsOf l2) := by
    intro z; unfold bitsOf; rw [List.flatMap_append, List.flatMap_cons]
  rw [e x, e y, List.foldl_append, List.foldl_append, List.foldl_append, List.foldl_append] at h3
  have h4 := feeds_inj _ _ _ h3
  have s : ∀ z : Int, 0 ≤ z → z < 256 → ∀ r, (lows (BitVec.ofInt 32 z) 8).foldl feed r = stepsB 8 (r ^^^ BitVec.ofInt 32 z) := by
    intro z z0 z1 r
    rw [stepsB_feeds, small_shift z z0 z1, BitVec.xor_zero]
  rw [s x x0 x1, s y y0 y1] at h4
  have h5 := stepsB_inj 8 _ _ h4
  have h6 : ∀ r a b : BitVec 32, r ^^^ a = r ^^^ b → a = b := by
    intro r a b e
    have : r ^^^ (r ^^^ a) = r ^^^ (r ^^^ b) := by rw [e]
    rwa [← BitVec.xor_assoc, ← BitVec.xor_assoc, BitVec.xor_self, BitVec.zero_xor, BitVec.zero_xor] at this
  have h7 := congrArg U (h6 _ _ _ h5)
  rw [U_ofInt x x0 (by omega), U_ofInt y y0 (by omega)] at h7
  exact hne h7
end Go.Proofs.Ytehndlafbbpofaa.Crc
namespace Go.Proofs.Ytehndlafbbpofaa.Rec
open Go.RowKit Go.Proofs.YtehndlafbbpofaaW.PrintWords Go.Proofs.Ytehndlafbbpofaa.Base Go.Proofs.Ytehndlafbbpofaa.Pack
set_option linter.unusedVariables false
set_option linter.unusedSimpArgs false

theorem sum_set (q : List Int) (i : Nat) (y : Int) (hb : Bytes q) (hi : i < q.length) (y0 : 0 ≤ y) (y1 : y < 256) (hne : q.getD i 0 ≠ y) : Crc.sumOf (q.set i y) ≠ Crc.sumOf q := by
  have e1 : q = q.take i ++ q.getD i 0 :: q.drop (i + 1) := by
    rw [List.getD_eq_getElem?_getD, List.getElem?_eq_getElem hi]
    show q = q.take i ++ q[i] :: q.drop (i + 1)
    rw [← List.drop_eq_getElem_cons hi, List.take_append_drop]
  have e2 : q.set i y = q.take i ++ y :: q.drop (i + 1) := by
    rw [List.set_eq_take_append_cons_drop, if_pos hi]
  have hx : 0 ≤ q.getD i 0 ∧ q.getD i 0 < 256 := by
    rw [List.getD_eq_getElem?_getD, List.getElem?_eq_getElem hi]
    exact hb _ (List.getElem_mem hi)
  rw [e2]
  conv => rhs; rw [e1]
  exact (Crc.byte_change _ _ _ _ (hb.take i) (hb.drop (i + 1)) hx.1 hx.2 y0 y1 hne).symm
theorem set_ne (q : List Int) (i : Nat) (y : Int) (hi : i < q.length) (hne : q.getD i 0 ≠ y) : q.set i y ≠ q := by
  intro h
  apply hne
  rw [← h, List.getD_eq_getElem?_getD, List.getElem?_set_self hi]
  rfl
theorem leVal_inj {xs ys : List Int} (hx : Bytes xs) (hy : Bytes ys) (hl : xs.length = ys.length) (h : leVal xs = leVal ys) : xs = ys := by
  rw [← leBytes_leVal xs hx, ← leBytes_leVal ys hy, hl, h]
theorem set_bytes {q : List Int} (hb : Bytes q) (i : Nat) (y : Int) (y0 : 0 ≤ y) (y1 : y < 256) : Bytes (q.set i y) := by
  intro x hx
  rcases List.mem_or_eq_of_mem_set hx with h | rfl
  · exact hb x h
  · exact ⟨y0, y1⟩
/-- A frame whose sum or record is turned in one byte is no good one. -/
theorem turned_bad (q tail : List Int) (j : Nat) (y : Int) (hq : q.length ≤ 4096) (hb : Bytes q) (h4 : 4 ≤ j) (hj : j < (frameBytes q).length) (y0 : 0 ≤ y) (y1 : y < 256) (hne : (frameBytes q).getD j 0 ≠ y) :
    ¬ good ((frameBytes q).set j y ++ tail) := by
  intro hg
  have hfl := frameBytes_length q
  have hc := frame_at q tail hq
  have h8 : ((frameBytes q).set j y).length = (frameBytes q).length := List.length_set
  have e0 : (frameBytes q).set j y ++ tail = (frameBytes q ++ tail).set j y := by rw [List.set_append_left _ _ hj]
  have hs : sizeAt ((frameBytes q).set j y ++ tail) = q.length := by
    rw [← hc.1, e0]
    unfold sizeAt
    rw [List.take_set_of_le h4]
  have h := hg.2.2.2
  by_cases h7 : j < 8
  · have er : recAt ((frameBytes q).set j y ++ tail) = q := by
      have : recAt ((frameBytes q).set j y ++ tail) = recAt (frameBytes q ++ tail) := by
        unfold recAt
        rw [hs, hc.1, e0, List.drop_set_of_lt h7]
      rw [this, hc.2]
    rw [er] at h
    have hsum := frame_sum q tail hb
    rw [← hsum] at h
    unfold sumAt at h
    have hbf := frameBytes_bytes hb
    have hl4 : ∀ zs : List Int, zs.length = (frameBytes q).length → (((zs ++ tail).drop 4).take 4) = (zs.drop 4).take 4 := by
      intro zs hz
      rw [List.drop_append_of_le_length (by omega), List.take_append_of_le_length (by rw [List.length_drop]; omega)]
    rw [hl4 _ rfl, hl4 _ h8] at h
    have hinj := leVal_inj ((hbf.drop 4).take 4) (((set_bytes hbf j y y0 y1).drop 4).take 4) (by rw [List.length_take, List.length_take, List.length_drop, List.length_drop, h8]) h
    rw [List.drop_set, if_neg (by omega), List.take_set] at hinj
    have hlen : (((frameBytes q).drop 4).take 4).length = 4 := by rw [List.length_take, List.length_drop]; omega
    refine set_ne _ (j - 4) y (by omega) ?_ hinj.symm
    rw [List.getD_eq_getElem?_getD, List.getElem?_take_of_lt (by omega), List.getElem?_drop, show 4 + (j - 4) = j from by omega, ← List.getD_eq_getElem?_getD]
    exact hne
  · have hd : (frameBytes q).drop 8 = q := by
      unfold frameBytes
      exact List.drop_left' (by rw [List.length_append, leBytes_length, leBytes_length])
    have er : recAt ((frameBytes q).set j y ++ tail) = q.set (j - 8) y := by
      unfold recAt
      rw [hs, List.drop_append_of_le_length (by omega), List.drop_set, if_neg h7, hd]
      exact List.take_left' List.length_set
    have es : sumAt ((frameBytes q).set j y ++ tail) = Crc.sumOf q := by
      rw [← frame_sum q tail hb, e0]
      unfold sumAt
      rw [List.drop_set, if_neg (by omega), List.take_set_of_le (by omega)]
    rw [er, es] at h
    refine sum_set q (j - 8) y hb (by omega) y0 y1 ?_ h
    have : q.getD (j - 8) 0 = (frameBytes q).getD j 0 := by
      conv => lhs; rw [← hd]
      rw [List.getD_eq_getElem?_getD, List.getElem?_drop, show 8 + (j - 8) = j from by omega, ← List.getD_eq_getElem?_getD]
    rw [this]; exact hne

/-- What is scanned of a file whose byte at pos p is turned: the whole records ahead of it; and, where it is in a sum or a record, no more. -/
theorem turned_told (k : Int) (ps : List (List Int)) (n p : Nat) (y : Int) (hL : Light ps) (hb : AllBytes ps) (hn : n < ps.length) (h1 : posOf ps n ≤ p) (h2 : p < posOf ps (n + 1)) (y0 : 0 ≤ y) (y1 : y < 256) (hne : (fileBytes k ps).getD p 0 ≠ y) :
    (scanRes k ((fileBytes k ps).set p y)).2.2 = 0 ∧ n ≤ (scanRes k ((fileBytes k ps).set p y)).1.length ∧ (scanRes k ((fileBytes k ps).set p y)).1.take n = ps.take n ∧ (posOf ps n + 4 ≤ p → (scanRes k ((fileBytes k ps).set p y)).1.length = n) := by
  have hq : (ps.getD n []).length ≤ 500 ∧ Bytes (ps.getD n []) := by
    rw [List.getD_eq_getElem?_getD, List.getElem?_eq_getElem hn]
    exact ⟨hL.short _ (List.getElem_mem hn), hb _ (List.getElem_mem hn)⟩
  have hnext := posOf_next ps n hn
  have hd : ps.drop n = ps.getD n [] :: ps.drop (n + 1) := by
    rw [List.drop_eq_getElem_cons hn, List.getD_eq_getElem?_getD, List.getElem?_eq_getElem hn]; rfl
  have ef : fileBytes k ps = headBytes k ++ (frames (ps.take n) ++ (frameBytes (ps.getD n []) ++ frames (ps.drop (n + 1)))) := by
    unfold fileBytes
    rw [frames_split ps n, hd]
    simp [frames]
  generalize ps.getD n [] = q at *
  have hfl := frameBytes_length q
  obtain ⟨j, hj⟩ : ∃ j, p = posOf ps n + j := ⟨p - posOf ps n, by omega⟩
  have hjl : j < (frameBytes q).length := by omega
  have hpos : posOf ps n = 8 + (frames (ps.take n)).length := rfl
  have es : (fileBytes k ps).set p y = headBytes k ++ (frames (ps.take n) ++ ((frameBytes q).set j y ++ frames (ps.drop (n + 1)))) := by
    rw [ef, List.set_append_right _ _ (by show 8 ≤ p; omega), List.set_append_right _ _ (by show _ ≤ p - 8; omega), List.set_append_left _ _ (by show p - 8 - (frames (ps.take n)).length < _; omega)]
    congr 4
    show p - 8 - (frames (ps.take n)).length = j
    omega
  have eg : (frameBytes q).getD j 0 ≠ y := by
    intro h
    apply hne
    rw [ef, List.getD_eq_getElem?_getD, List.getElem?_append_right (by show 8 ≤ p; omega), List.getElem?_append_right (by show _ ≤ p - 8; omega), List.getElem?_append_left (by show p - 8 - (frames (ps.take n)).length < _; omega)]
    rw [show p - (headBytes k).length - (frames (ps.take n)).length = j from by show p - 8 - _ = j; omega, ← List.getD_eq_getElem?_getD]
    exact h
  have e8 : ((fileBytes k ps).set p y).take 8 = headBytes k := by rw [es]; exact List.take_left' rfl
  have ed : ((fileBytes k ps).set p y).drop 8 = frames (ps.take n) ++ ((frameBytes q).set j y ++ frames (ps.drop (n + 1))) := by rw [es]; exact List.drop_left' rfl
  obtain ⟨s1, s2⟩ := scan_frames (ps.take n) ((frameBytes q).set j y ++ frames (ps.drop (n + 1))) (fun x hx => Nat.le_trans (hL.short x (List.mem_of_mem_take hx)) (by omega)) (fun x hx => hb x (List.mem_of_mem_take hx))
  have hlt : (ps.take n).length = n := by rw [List.length_take]; omega
  rw [(scanRes_good e8).2, ed, s1]
  refine ⟨rfl, ?_, ?_, fun h4 => ?_⟩
  · show n ≤ (ps.take n ++ _).length
    rw [List.length_append, hlt]; omega
  · exact List.take_left' hlt
  · show (ps.take n ++ _).length = n
    rw [scanAll_bad (turned_bad q _ j y (by omega) hq.2 (by omega) hjl y0 y1 eg), List.append_nil, hlt]
end Go.Proofs.Ytehndlafbbpofaa.Rec
