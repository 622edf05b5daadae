/- Rows of numbers; graph.needs; graph.(*Graph).made (walks). -/
import Derived.Test.YtifbkojapfighaaGrEdge
namespace Go.Proofs.Ytifbkojapfighaa.Gr
open Go.RowKit Go.Proofs.YtifbkojapfighaaW.PrintWords Go.Proofs.YtifbkojapfighaaW.PrintLast Go.Proofs.Ytifbkojapfighaa.Base Go.Maps
set_option linter.unusedVariables false
set_option linter.unusedSimpArgs false

/-- v reads as the numbers l. -/
def Is (w : World) (v : Value) (l : List Nat) : Prop := ∃ A c, v = .slice A l.length c ∧ l.length ≤ c ∧ l.length ≤ 9223372036854775807 ∧ (0 < l.length → ∃ ad, A = some ad ∧ ∀ i, i < l.length → w.cell? (ad.add i) = some (.int .i64 ((l.getD i 0 : Nat) : Int)))
theorem Is.below {w w1 : World} {v : Value} {l : List Nat} (h : Is w v l) (hb : Below w.heap.size w w1) : Is w1 v l := by
  obtain ⟨A, c, h1, h2, h3, h4⟩ := h
  exact ⟨A, c, h1, h2, h3, fun hp => by
    obtain ⟨ad, e, hc⟩ := h4 hp
    exact ⟨ad, e, fun i hi => pw_cell_below hb (hc i hi)⟩⟩
theorem Is.len {w : World} {v : Value} {l : List Nat} (h : Is w v l) : ∃ A c, v = .slice A l.length c ∧ l.length ≤ c ∧ l.length ≤ 9223372036854775807 := by
  obtain ⟨A, c, h1, h2, h3, _⟩ := h
  exact ⟨A, c, h1, h2, h3⟩
theorem Is.get {w : World} {A : Option Addr} {n c : Nat} {l : List Nat} (h : Is w (.slice A n c) l) (i : Nat) (hi : i < l.length) : ∃ ad, A = some ad ∧ w.cell? (ad.add i) = some (.int .i64 ((l.getD i 0 : Nat) : Int)) := by
  obtain ⟨A', c', e, _, _, h4⟩ := h
  injection e with e1 e2 e3
  subst e1
  obtain ⟨ad, e, hc⟩ := h4 (by omega)
  exact ⟨ad, e, hc i hi⟩
theorem getD_cast (l : List Nat) (k : Nat) : (l.map fun n : Nat => (n : Int)).getD k 0 = ((l.getD k 0 : Nat) : Int) := by
  rw [List.getD_eq_getElem?_getD, List.getD_eq_getElem?_getD, List.getElem?_map]
  cases l[k]? <;> rfl
abbrev ints (l : List Nat) : List Int := l.map fun n : Nat => (n : Int)
/-- A row of numbers of the call's own. -/
abbrev Ir (base : Nat) (w : World) (v : Value) (l : List Nat) : Prop := (Kd.int .i64).R 3 w base (fun _ => True) v (ints l)
theorem Ir.is {w : World} {base : Nat} {ok : Nat → Prop} {v : Value} {l : List Nat} (h : (Kd.int .i64).R 3 w base ok v (ints l)) : Is w v l := by
  obtain ⟨A, c, rfl, hc, hC⟩ := Kd.R_reads h
  have h1 := Kd.reads_of_C (enc := Value.int .i64) (d := (0 : Int)) hC
  have hl : (ints l).length = l.length := List.length_map _
  refine ⟨A, c, by rw [hl], by rw [← hl]; exact hc, by rw [← hl]; exact h1.2.1, fun hp => ?_⟩
  obtain ⟨ad, e, hcell⟩ := h1.2.2 (by rw [hl]; exact hp)
  refine ⟨ad, e, fun i hi => ?_⟩
  have h2 := hcell i (by rw [hl]; exact hi)
  rw [getD_cast] at h2
  exact h2
set_option maxHeartbeats 1000000 in
theorem index_ints (v : Value) (l : List Nat) (s : Nat) (w : World) (h : Is w v l) :
    Calls Try.prog 64 #[v, .int .i64 s] w fun e w' => (∃ r : Int, e = .returned (.int .i64 r) ∧ (s ∈ l → 0 ≤ r) ∧ (s ∉ l → r = -1)) ∧ w' = w := by
  obtain ⟨A, c, rfl, hc, hm⟩ := h.len
  obtain ⟨n, hn⟩ : ∃ n, n = l.length := ⟨_, rfl⟩
  rw [← hn] at hc hm h ⊢
  have HSS := Lib.hid h
  have HN := Lib.hid hn
  clear h hn
  go_enter Try.func64, Try.ntmps64
  go_wp2
  go_loopw [8] (fun i wr => ∃ k : Nat, k ≤ n ∧ i = .int .i64 k ∧ wr = w ∧ Hid (∀ j, j < k → l.getD j 0 ≠ s)) (fun i _ => n - (intOf i).toNat)
  case atStart => exact ⟨0, by omega, rfl, rfl, fun j hj => absurd hj (Nat.not_lt_zero _)⟩
  case round =>
    obtain ⟨k, hk, rfl, rfl, HNE⟩ := hrel
    by_cases l1 : k < n
    · have hkl : k < l.length := by rw [← HN.out]; exact l1
      obtain ⟨ad, rfl, q⟩ := HSS.out.get k hkl
      have HGD : Hid (l.getD k 0 ∈ l) := (take_at l 0 k hkl).2
      obtain ⟨y, hy⟩ : ∃ y, y = l.getD k 0 := ⟨_, rfl⟩
      rw [← hy] at q
      have HY := Lib.hid hy
      clear hkl hy
      by_cases hs : s = y
      · have hb : ((s : Int) == (y : Int)) = true := by rw [hs]; exact beq_self_eq_true _
        have HM : Hid (s ∈ l) := by show s ∈ l; rw [hs, HY.out]; exact HGD.out
        go_wp2
        go_ret
        exact ⟨⟨_, rfl, fun _ => Int.natCast_nonneg k, fun h => absurd HM.out h⟩, rfl⟩
      · have hb : ((s : Int) == (y : Int)) = false := by rw [beq_eq_false_iff_ne]; omega
        have HS := Lib.hid hs
        clear hs
        go_wp2
        go_roundw
        case rel => exact ⟨k + 1, by omega, by go_num, trivial, fun j hj => by
          rcases Nat.lt_succ_iff_lt_or_eq.1 hj with h | h
          · exact HNE.out j h
          · rw [h, ← HY.out]; exact fun e => HS.out e.symm⟩
        case measure => simp [intOf]; omega
    · have hk2 : k = n := by omega
      have HM : Hid (s ∉ l) := by
        intro hm
        obtain ⟨j, hj, e⟩ := List.mem_iff_getElem.1 hm
        refine HNE.out j (by rw [hk2, HN.out]; exact hj) ?_
        rw [List.getD_eq_getElem?_getD, List.getElem?_eq_getElem hj]
        exact e
      clear hk2
      go_wp2
      go_ret
      exact ⟨⟨_, rfl, fun h => absurd h HM.out, fun _ => rfl⟩, rfl⟩
theorem contains_ints (v : Value) (l : List Nat) (s : Nat) (w : World) (h : Is w v l) :
    Calls Try.prog 51 #[v, .int .i64 s] w fun e w' => e = .returned (.bool (decide (s ∈ l))) ∧ w' = w := by
  have HI := Lib.hid (index_ints v l s w h)
  obtain ⟨A, c, rfl, _, _⟩ := h.len
  obtain ⟨n, hn⟩ : ∃ n, n = l.length := ⟨_, rfl⟩
  rw [← hn] at HI ⊢
  clear h hn
  go_enter Try.func51, Try.ntmps51
  go_wp2_with fail
  refine HI.out.mono ?_
  rintro e w1 ⟨⟨r, rfl, h1, h2⟩, rfl⟩
  by_cases hm : s ∈ l
  · have hr := h1 hm
    have HM := Lib.hid hm
    have hd : decide (0 ≤ r) = true := decide_eq_true hr
    clear h1 h2 hm
    go_wp2
    go_ret
    exact ⟨by rw [decide_eq_true HM.out]; rfl, rfl⟩
  · have hr := h2 hm
    subst hr
    have HM := Lib.hid hm
    clear h1 h2 hm
    go_wp2
    go_ret
    exact ⟨by rw [decide_eq_false HM.out]; rfl, rfl⟩
/-- needs. -/
theorem needs_any (v : Value) (e : EdgeV) (w : World) (h : EdIs w v e) (hs : SmallE e) :
    Calls Try.prog 38 #[v] w fun r w' => ∃ v', r = .returned v' ∧ Kd.string.R 9 w' w.heap.size (fun _ => True) v' (needsV e) ∧ Below w.heap.size w w' := by
  obtain ⟨vo, vi, vm, vr, rfl, ho, hi, hm, hr⟩ := h
  obtain ⟨Ao, co, rfl, hco, hmo⟩ := ss_len ho
  obtain ⟨Ai, ci, rfl, hci, hmi⟩ := ss_len hi
  obtain ⟨Am, cm, rfl, hcm, hmm⟩ := ss_len hm
  obtain ⟨Ar, cr, rfl, hcr, hmr⟩ := ss_len hr
  obtain ⟨no, hno⟩ : ∃ no, no = e.outs.length := ⟨_, rfl⟩
  obtain ⟨ni, hni⟩ : ∃ ni, ni = e.ins.length := ⟨_, rfl⟩
  obtain ⟨nm, hnm⟩ : ∃ nm, nm = e.imp.length := ⟨_, rfl⟩
  obtain ⟨nr, hnr⟩ : ∃ nr, nr = e.ord.length := ⟨_, rfl⟩
  rw [← hno, ← hni, ← hnm, ← hnr]
  rw [← hni] at hi
  rw [← hnm] at hm
  rw [← hnr] at hr
  obtain ⟨x, hx⟩ : ∃ x, w.heap.size = x := ⟨_, rfl⟩
  obtain ⟨Wb, hWb⟩ : ∃ Wb, Wb = w.alloc (.cells #[.slice Ao no co, .slice Ai ni ci, .slice Am nm cm, .slice Ar nr cr, .string e.cmd, .string e.dep] 44) := ⟨_, rfl⟩
  have hb0 : Below w.heap.size w Wb := by rw [hWb]; exact below_alloc (Below.refl _ _) _
  have hXb : Wb.heap[x]? = some (.cells #[.slice Ao no co, .slice Ai ni ci, .slice Am nm cm, .slice Ar nr cr, .string e.cmd, .string e.dep] 44 (0, 0)) := by rw [hWb, ← hx]; exact blk_new w _
  have q1 := blk_cell hXb 1
  have q2 := blk_cell hXb 2
  have q3 := blk_cell hXb 3
  have HB0 := Lib.hid hb0
  have HWB := Lib.hid hWb
  have hb2 := below_alloc (Below.refl Wb.heap.size Wb) (.cells #[.slice Ai ni ci, .slice Am nm cm, .slice Ar nr cr] 23)
  have HB2 := Lib.hid hb2
  have hx2 := blk_new Wb (.cells #[.slice Ai ni ci, .slice Am nm cm, .slice Ar nr cr] 23)
  have SI := hi.below (hb0.trans (hb2.mono hb0.size))
  have SM := hm.below (hb0.trans (hb2.mono hb0.size))
  have SR := hr.below (hb0.trans (hb2.mono hb0.size))
  have HL : Hid (Sss (Wb.alloc (.cells #[.slice Ai ni ci, .slice Am nm cm, .slice Ar nr cr] 23)) (.slice (some ⟨Wb.heap.size, 0, none⟩) 3 3) [e.ins, e.imp, e.ord]) := by
    refine ⟨some ⟨Wb.heap.size, 0, none⟩, 3, rfl, Nat.le_refl _, by simp, fun _ => ⟨_, rfl, fun i hi => ?_⟩⟩
    have c0 := blk_cell hx2 0
    have c1 := blk_cell hx2 1
    have c2 := blk_cell hx2 2
    match i, hi with
    | 0, _ => exact ⟨_, c0, SI⟩
    | 1, _ => exact ⟨_, c1, SM⟩
    | 2, _ => exact ⟨_, c2, SR⟩
  have HFL : Hid ([e.ins, e.imp, e.ord].flatten = needsV e) := by show _ = _; unfold needsV; simp
  have HLN : Hid ([e.ins, e.imp, e.ord].flatten.length ≤ 1000000) := by
    have h1 := hs.ins
    have h2 := hs.imp
    have h3 := hs.ord
    show _ ≤ _
    simp only [List.flatten_cons, List.flatten_nil, List.length_append, List.length_nil]
    omega
  clear ho hi hm hr hb0 hXb hWb hno hni hnm hnr hs hb2 hx2 SI SM SR
  go_enter Try.func38, Try.ntmps38
  go_upto_region 1 with (fail)
  rw [← HWB.out]
  try rw [hx]
  clear hx
  go_wp2_with fail
  refine (concat_any _ _ _ HL.out HLN.out).mono ?_
  rintro r w1 ⟨v1, rfl, r1, b1⟩
  have hbb : Below w.heap.size w w1 := (HB0.out.trans (HB2.out.mono HB0.out.size)).trans (b1.mono (Nat.le_trans HB0.out.size HB2.out.size))
  have HR1 : Hid (Kd.string.R 9 w1 w.heap.size (fun _ => True) v1 (needsV e)) := by
    have h := Kd.R_lower r1 (Nat.le_trans HB0.out.size HB2.out.size)
    rw [HFL.out] at h
    exact h
  have HBB := Lib.hid hbb
  clear r1 b1 hbb q1 q2 q3
  go_wp2
  go_ret
  exact ⟨_, rfl, HR1.out, HBB.out⟩
/-- The makers of some files, each once. -/
def madeF (mf : ByteArray → Option Nat) (l : List ByteArray) : List Nat := l.foldl (fun out s => match mf s with | some n => if n ∈ out then out else out ++ [n] | none => out) []
theorem madeF_snoc (mf : ByteArray → Option Nat) (l : List ByteArray) (s : ByteArray) : madeF mf (l ++ [s]) = match mf s with | some n => if n ∈ madeF mf l then madeF mf l else madeF mf l ++ [n] | none => madeF mf l := by
  unfold madeF
  rw [List.foldl_append]
  rfl
theorem madeF_len (mf : ByteArray → Option Nat) (l : List ByteArray) : (madeF mf l).length ≤ l.length := by
  have key : ∀ (n : Nat) (l : List ByteArray), l.length = n → (madeF mf l).length ≤ n := by
    intro n
    induction n with
    | zero => intro l hl; rw [List.length_eq_zero_iff.1 hl]; exact Nat.le_refl _
    | succ n ih =>
      intro l hl
      have hne : l ≠ [] := by intro e; rw [e] at hl; cases hl
      rw [← List.dropLast_concat_getLast hne, madeF_snoc]
      have h1 := ih l.dropLast (by rw [List.length_dropLast, hl]; rfl)
      split
      · split
        · omega
        · rw [List.length_append, List.length_singleton]; omega
      · omega
  exact key _ l rfl
theorem zero_int (w : World) : (zeroValue 3).run Try.prog w = .ok (.int .i64 0) w := by kernel_rfl
/-- The map of makers. -/
def MMap (w : World) (b n : Nat) (mf : ByteArray → Option Nat) : Prop := VMap 9 skey w b n (fun s => (mf s).map fun k : Nat => .int .i64 (k : Int))
set_option maxHeartbeats 2000000 in
theorem made_any (g mk nk : Nat) (mf : ByteArray → Option Nat) (v : Value) (l : List ByteArray) (w : World) (hg : w.cell? ⟨g, 2, none⟩ = some (.map (some mk))) (hM : MMap w mk nk mf) (hv : Ss w v l) (hl : l.length ≤ 1000000) (hz : ∀ s ∈ l, s.size ≤ maxLen) :
    Calls Try.prog 37 #[.pointer (some ⟨g, 0, none⟩), v] w fun e w' => ∃ v', e = .returned v' ∧ Ir w.heap.size w' v' (madeF mf l) ∧ Below w.heap.size w w' := by
  obtain ⟨A, c, rfl, hc, hm⟩ := ss_len hv
  obtain ⟨n, hn⟩ : ∃ n, n = l.length := ⟨_, rfl⟩
  rw [← hn] at hc hm hv hl ⊢
  have HV := Lib.hid hv
  have HN := Lib.hid hn
  have HG := Lib.hid hg
  have HM := Lib.hid hM
  have HZ := Lib.hid hz
  clear hv hn hg hM hz
  go_enter Try.func37, Try.ntmps37
  go_wp2
  go_loopw [5, 12] (fun o i wr => ∃ k : Nat, k ≤ n ∧ i = .int .i64 k ∧ Hid (Ir w.heap.size wr o (madeF mf (l.take k))) ∧ Hid (Below w.heap.size w wr)) (fun _ i _ => n - (intOf i).toNat)
  case atStart => exact ⟨0, by omega, rfl, Kd.R_nil _ _ _ _ _, Below.refl _ _⟩
  case round =>
    obtain ⟨k, hk, rfl, HO, HB⟩ := hrel
    have HIS := Lib.hid (Ir.is HO.out)
    obtain ⟨Ao, co, eo, _, _⟩ := HIS.out.len
    obtain ⟨no, hno⟩ : ∃ no, no = (madeF mf (l.take k)).length := ⟨_, rfl⟩
    rw [← hno] at eo
    subst eo
    have hno2 : no ≤ 1000000 := by
      have h1 := madeF_len mf (l.take k)
      have h2 := List.length_take_le k l
      omega
    have HNO := Lib.hid hno
    clear hno
    by_cases l1 : k < n
    · have hkl : k < l.length := by rw [← HN.out]; exact l1
      obtain ⟨Ax, cx, ex, _, _, hcel⟩ := HV.out.below HB.out
      injection ex with ex1 ex2 ex3
      subst ex1
      obtain ⟨ad, ead, hcell⟩ := hcel (by omega)
      subst ead
      have q := hcell k hkl
      obtain ⟨hTK, hmem⟩ := take_at l ByteArray.empty k hkl
      have hsz := HZ.out _ hmem
      have HTK : Hid (madeF mf (l.take (k + 1)) = match mf (l.getD k ByteArray.empty) with | some n => if n ∈ madeF mf (l.take k) then madeF mf (l.take k) else madeF mf (l.take k) ++ [n] | none => madeF mf (l.take k)) := by show _ = _; rw [hTK, madeF_snoc]
      have g2 := pw_cell_below HB.out HG.out
      have HMr := VMap.below HM.out HB.out
      clear hcel hcell ex2 ex3 hkl hTK hmem
      generalize l.getD k ByteArray.empty = s at q hsz HTK
      have hlk := (HMr.look keyed_s Try.underlying67 (zero_int _) (s := s) (keyOf_s hsz)).1
      clear HMr hsz
      obtain ⟨t, ht⟩ : ∃ t, t = mf s := ⟨_, rfl⟩
      rw [← ht] at hlk HTK
      clear ht
      cases t with
      | none =>
        simp only [Option.map_none, Option.getD_none, Option.isSome_none] at hlk
        have HO2 : Hid (Ir w.heap.size wr (.slice Ao no co) (madeF mf (l.take (k + 1)))) := by
          have h := HTK.out
          show Ir _ _ _ _
          rw [h]
          exact HO.out
        clear HTK
        go_wp2
        go_roundw
        case rel => exact ⟨k + 1, by omega, by go_num, HO2.out, HB.out⟩
        case measure => simp [intOf]; omega
      | some y =>
        simp only [Option.map_some, Option.getD_some, Option.isSome_some] at hlk
        go_wp2_with fail
        refine (contains_ints _ _ y _ HIS.out).mono ?_
        rintro e w1 ⟨rfl, rfl⟩
        by_cases hy : y ∈ madeF mf (l.take k)
        · have HO2 : Hid (Ir w.heap.size w1 (.slice Ao no co) (madeF mf (l.take (k + 1)))) := by
            have h : madeF mf (l.take (k + 1)) = if y ∈ madeF mf (l.take k) then madeF mf (l.take k) else madeF mf (l.take k) ++ [y] := HTK.out
            rw [if_pos hy] at h
            show Ir _ _ _ _
            rw [h]
            exact HO.out
          have hd : decide (y ∈ madeF mf (l.take k)) = true := decide_eq_true hy
          rw [hd]
          clear hd hy HTK
          go_wp2
          go_roundw
          case rel => exact ⟨k + 1, by omega, by go_num, HO2.out, HB.out⟩
          case measure => simp [intOf]; omega
        · have hd : decide (y ∈ madeF mf (l.take k)) = false := decide_eq_false hy
          have HTS : Hid (madeF mf (l.take (k + 1)) = madeF mf (l.take k) ++ [y]) := by
            have h : madeF mf (l.take (k + 1)) = if y ∈ madeF mf (l.take k) then madeF mf (l.take k) else madeF mf (l.take k) ++ [y] := HTK.out
            rw [if_neg hy] at h
            exact h
          rw [hd]
          clear hd hy HTK
          go_wp2_with (at_builtin; refine Held.of ?_)
          refine Held.out (Kd.R_append (Kd.int .i64) (w0 := w) w.heap.size rfl (.tmp 32) (.tmp 34) 37 3 (.int .i64 0) 8 rfl Try.underlying37 (by kernel_rfl) rfl (by decide) (by decide) _ (ints (madeF mf (l.take k))) (y : Int) [.int .i64 (y : Int)] (fun _ => True) (fun _ => False) rfl rfl rfl (fun _ h => h.elim) (fun _ _ => trivial) HO.out HB.out HB.out.size (by rw [List.length_map, ← HNO.out]; omega) ?_)
          intro v7 w7 r7 b7 g7 _
          have HO7 : Hid (Ir w.heap.size w7 v7 (madeF mf (l.take (k + 1)))) := by
            show (Kd.int .i64).R _ _ _ _ _ (ints (madeF mf (l.take (k + 1))))
            rw [HTS.out]
            have e : ints (madeF mf (l.take k) ++ [y]) = ints (madeF mf (l.take k)) ++ [(y : Int)] := by simp [ints]
            rw [e]
            exact r7
          have HB7 := Lib.hid b7
          obtain ⟨A7, c7, ev⟩ := Kd.R_slice r7
          obtain ⟨n7, hn7⟩ : ∃ n7, n7 = (ints (madeF mf (l.take k)) ++ [(y : Int)]).length := ⟨_, rfl⟩
          rw [← hn7] at ev
          subst ev
          clear r7 b7 g7 hn7 q g2 hlk
          go_wp2
          go_roundw
          case rel => exact ⟨k + 1, by omega, by go_num, HO7.out, HB7.out⟩
          case measure => simp [intOf]; omega
    · have hk2 : k = n := by omega
      have HO2 : Hid (Ir w.heap.size wr (.slice Ao no co) (madeF mf l)) := by
        have h := HO.out
        rw [hk2, HN.out, List.take_length] at h
        exact h
      clear hk2
      go_wp2
      go_ret
      exact ⟨_, rfl, HO2.out, HB.out⟩
end Go.Proofs.Ytifbkojapfighaa.Gr
