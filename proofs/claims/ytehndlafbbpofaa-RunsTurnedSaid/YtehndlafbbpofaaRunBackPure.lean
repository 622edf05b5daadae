/- What is written is read, and the other way round (plain laws). -/
import Derived.Test.YtehndlafbbpofaaRunGet
namespace Go.Proofs.Ytehndlafbbpofaa.Run
open Go.RowKit Go.Proofs.YtehndlafbbpofaaW.PrintWords Go.Proofs.Ytehndlafbbpofaa.Base Go.Proofs.Ytehndlafbbpofaa.Pack
set_option linter.unusedVariables false
set_option linter.unusedSimpArgs false

theorem num_put (m : Nat) (n : Int) (ys : List Int) (n0 : 0 ≤ n) (n1 : n < 256 ^ m) : num m (Pack.leBytes n m ++ ys, false) = n ∧ numS m (Pack.leBytes n m ++ ys, false) = (ys, false) := by
  have hl := leBytes_length n m
  have hc : ¬ ((Pack.leBytes n m ++ ys, false).2 = true ∨ (Pack.leBytes n m ++ ys, false).1.length < m) := by
    simp only [Bool.false_eq_true, false_or, List.length_append]
    omega
  unfold num numS
  rw [if_neg hc, if_neg hc]
  simp only
  rw [List.take_left' hl, List.drop_left' hl, leVal_leBytes m n n0 n1]
  exact ⟨rfl, rfl⟩
theorem txt_put (t : ByteArray) (ys : List Int) (ht : t.size ≤ 65535) : txt (textBytes t ++ ys, false) = t ∧ txtS (textBytes t ++ ys, false) = (ys, false) := by
  have hl := leBytes_length t.size 2
  have e1 : ((textBytes t ++ ys).take 2) = Pack.leBytes t.size 2 := by
    unfold textBytes
    rw [List.append_assoc, List.take_left' hl]
  have e2 : ((textBytes t ++ ys).drop 2) = bytesOf t ++ ys := by
    unfold textBytes
    rw [List.append_assoc, List.drop_left' hl]
  have e3 : txtLen (textBytes t ++ ys, false) = t.size := by
    unfold txtLen
    rw [e1, leVal_leBytes 2 _ (by omega) (by omega)]
    omega
  have e4 := bytesOf_length t
  have hc : ¬ txtBad (textBytes t ++ ys, false) := by
    unfold txtBad
    rw [e3]
    simp only [Bool.false_eq_true, false_or, e2, List.length_append, textBytes_length]
    omega
  unfold txt txtS
  rw [if_neg hc, if_neg hc, e3]
  simp only
  rw [e2, List.take_left' e4, List.drop_left' e4, str_bytesOf]
  exact ⟨rfl, rfl⟩
theorem insL_put : ∀ (l : List (ByteArray × Int)) (ys : List Int), (∀ p ∈ l, p.1.size ≤ 65535 ∧ 0 ≤ p.2 ∧ p.2 < 18446744073709551616) → insL l.length (insBytes l ++ ys, false) = (l, (ys, false)) := by
  intro l
  induction l with
  | nil => intro ys _; rfl
  | cons p l ih =>
    intro ys h
    obtain ⟨nm, tm⟩ := p
    have hp := h _ (List.mem_cons_self ..)
    simp only at hp
    have e : insBytes ((nm, tm) :: l) ++ ys = textBytes nm ++ (Pack.leBytes tm 8 ++ (insBytes l ++ ys)) := by
      unfold insBytes
      rw [List.flatMap_cons]
      simp only [List.append_assoc]
    rw [List.length_cons, e, insL_go _ _ rfl, (txt_put nm _ hp.1).1, (txt_put nm _ hp.1).2, (num_put 8 tm _ hp.2.1 (by omega)).1, (num_put 8 tm _ hp.2.1 (by omega)).2, ih ys (fun q hq => h q (List.mem_cons_of_mem _ hq))]
theorem fndL_put : ∀ (l : List Int) (ys : List Int), (∀ p ∈ l, 0 ≤ p ∧ p < 18446744073709551616) → fndL l.length (foundBytes l ++ ys, false) = (l, (ys, false)) := by
  intro l
  induction l with
  | nil => intro ys _; rfl
  | cons p l ih =>
    intro ys h
    have hp := h _ (List.mem_cons_self ..)
    have e : foundBytes (p :: l) ++ ys = Pack.leBytes p 8 ++ (foundBytes l ++ ys) := by
      unfold foundBytes
      rw [List.flatMap_cons]
      simp only [List.append_assoc]
    rw [List.length_cons, e, fndL_go _ _ rfl, (num_put 8 p _ hp.1 (by omega)).1, (num_put 8 p _ hp.1 (by omega)).2, ih ys (fun q hq => h q (List.mem_cons_of_mem _ hq))]
/-- What a run's bytes are read as. -/
theorem raw_tail (r : RunV) (zs : List Int) (h0 : ∀ t ∈ timesOf r, 0 ≤ t ∧ t < 9223372036854775808) (ho : r.out.size ≤ 65535) (hc : r.cmd.size ≤ 65535) (hi : r.ins.length < 4294967296) (hf : r.found.length < 4294967296) (hn : ∀ p ∈ r.ins, p.1.size ≤ 65535) :
    raw (runBytes r ++ zs) = ⟨Crc.hashOf (bytesOf r.cmd), r, (zs, false)⟩ := by
  obtain ⟨out, cmd, time, mark, ins, found⟩ := r
  simp only at ho hc hi hf hn
  have hT := h0 time (by simp [timesOf])
  have hM := h0 mark (by simp [timesOf])
  have hI : ∀ p ∈ ins, p.1.size ≤ 65535 ∧ 0 ≤ p.2 ∧ p.2 < 18446744073709551616 := fun p hp => by
    have := h0 p.2 (by unfold timesOf; exact List.mem_append_right _ (List.mem_map.2 ⟨p, hp, rfl⟩))
    exact ⟨hn p hp, by omega, by omega⟩
  have hF : ∀ p ∈ found, 0 ≤ p ∧ p < 18446744073709551616 := fun p hp => by
    have := h0 p (by unfold timesOf; exact List.mem_append_left _ (List.mem_append_right _ hp))
    omega
  have hH := hashOf_range (bytesOf cmd)
  obtain ⟨ys5, e5⟩ : ∃ ys5, ys5 = Pack.leBytes found.length 4 ++ (foundBytes found ++ zs) := ⟨_, rfl⟩
  obtain ⟨ys4, e4⟩ : ∃ ys4, ys4 = Pack.leBytes ins.length 4 ++ (insBytes ins ++ ys5) := ⟨_, rfl⟩
  obtain ⟨ys3, e3⟩ : ∃ ys3, ys3 = Pack.leBytes mark 8 ++ ys4 := ⟨_, rfl⟩
  obtain ⟨ys2, e2⟩ : ∃ ys2, ys2 = Pack.leBytes time 8 ++ ys3 := ⟨_, rfl⟩
  obtain ⟨ys1, e1⟩ : ∃ ys1, ys1 = textBytes cmd ++ ys2 := ⟨_, rfl⟩
  obtain ⟨ys0, e0⟩ : ∃ ys0, ys0 = textBytes out ++ ys1 := ⟨_, rfl⟩
  have e : runBytes ⟨out, cmd, time, mark, ins, found⟩ ++ zs = Pack.leBytes (Crc.hashOf (bytesOf cmd)) 8 ++ ys0 := by
    rw [e0, e1, e2, e3, e4, e5]
    unfold runBytes headOf
    simp only [List.append_assoc]
  have k0 := num_put 8 (Crc.hashOf (bytesOf cmd)) ys0 hH.1 (by have := hH.2; omega)
  have k1 := txt_put out ys1 ho
  have k2 := txt_put cmd ys2 hc
  have k3 := num_put 8 time ys3 hT.1 (by omega)
  have k4 := num_put 8 mark ys4 hM.1 (by omega)
  have k5 := num_put 4 (ins.length : Int) (insBytes ins ++ ys5) (by omega) (by omega)
  have k6 := insL_put ins ys5 hI
  have k7 := num_put 4 (found.length : Int) (foundBytes found ++ zs) (by omega) (by omega)
  have k8 := fndL_put found zs hF
  have s1 : rs1 (runBytes ⟨out, cmd, time, mark, ins, found⟩ ++ zs) = (textBytes out ++ ys1, false) := by unfold rs1; rw [e, k0.2, e0]
  have s2 : rs2 (runBytes ⟨out, cmd, time, mark, ins, found⟩ ++ zs) = (textBytes cmd ++ ys2, false) := by unfold rs2; rw [s1, k1.2, e1]
  have s3 : rs3 (runBytes ⟨out, cmd, time, mark, ins, found⟩ ++ zs) = (Pack.leBytes time 8 ++ ys3, false) := by unfold rs3; rw [s2, k2.2, e2]
  have s4 : rs4 (runBytes ⟨out, cmd, time, mark, ins, found⟩ ++ zs) = (Pack.leBytes mark 8 ++ ys4, false) := by unfold rs4; rw [s3, k3.2, e3]
  have s5 : rs5 (runBytes ⟨out, cmd, time, mark, ins, found⟩ ++ zs) = (Pack.leBytes ins.length 4 ++ (insBytes ins ++ ys5), false) := by unfold rs5; rw [s4, k4.2, e4]
  have sI : rI (runBytes ⟨out, cmd, time, mark, ins, found⟩ ++ zs) = (ins, (ys5, false)) := by
    unfold rI
    rw [s5, k5.1, k5.2, Int.toNat_natCast, k6]
  have sF : rF (runBytes ⟨out, cmd, time, mark, ins, found⟩ ++ zs) = (found, (zs, false)) := by
    unfold rF
    rw [sI]
    simp only
    rw [e5, k7.1, k7.2, Int.toNat_natCast, k8]
  unfold raw
  rw [s1, s2, s3, s4, sI, sF, k1.1, k2.1, k3.1, k4.1, e, k0.1]

theorem raw_put (r : RunV) (h0 : ∀ t ∈ timesOf r, 0 ≤ t ∧ t < 9223372036854775808) (ho : r.out.size ≤ 65535) (hc : r.cmd.size ≤ 65535) (hi : r.ins.length < 4294967296) (hf : r.found.length < 4294967296) (hn : ∀ p ∈ r.ins, p.1.size ≤ 65535) :
    raw (runBytes r) = ⟨Crc.hashOf (bytesOf r.cmd), r, ([], false)⟩ := by
  have h := raw_tail r [] h0 ho hc hi hf hn
  rwa [List.append_nil] at h

theorem num_back {m : Nat} {s : RS} (hb : Bytes s.1) (h : (numS m s).2 = false) : s.2 = false ∧ s.1 = Pack.leBytes (num m s) m ++ (numS m s).1 := by
  have hl := numS_len h
  refine ⟨hl.2, ?_⟩
  unfold numS at h
  split at h
  · cases h
  · rename_i hn
    unfold num numS
    rw [if_neg hn, if_neg hn]
    have hm : (s.1.take m).length = m := by
      simp only [not_or] at hn
      rw [List.length_take]; omega
    have e := leBytes_leVal (s.1.take m) (hb.take m)
    rw [hm] at e
    rw [e, List.take_append_drop]
theorem txt_back {s : RS} (hb : Bytes s.1) (h : (txtS s).2 = false) : s.2 = false ∧ s.1 = textBytes (txt s) ++ (txtS s).1 := by
  unfold txtS at h
  split at h
  · cases h
  · rename_i hn
    unfold txt txtS
    rw [if_neg hn, if_neg hn]
    unfold txtBad at hn
    simp only [not_or, Bool.not_eq_true, Nat.not_lt] at hn
    refine ⟨hn.1, ?_⟩
    have h2 : (s.1.take 2).length = 2 := by rw [List.length_take]; omega
    have hr := leVal_range (s.1.take 2) (hb.take 2)
    have e := leBytes_leVal (s.1.take 2) (hb.take 2)
    rw [h2] at e hr
    have hs : (strOfNums ((s.1.drop 2).take (txtLen s))).size = txtLen s := by rw [str_size, List.length_take]; omega
    unfold textBytes
    rw [hs, bytesOf_str _ ((hb.drop 2).take _)]
    have hk : ((txtLen s : Nat) : Int) = leVal (s.1.take 2) := by unfold txtLen; omega
    rw [hk, e, List.append_assoc, List.take_append_drop, List.take_append_drop]
theorem insL_bad (n : Nat) (s : RS) (h : (insL n s).2.2 = false) : s.2 = false := by
  cases hs : s.2 with
  | false => rfl
  | true => rw [insL_stop n s (.inr hs), hs] at h; cases h
theorem fndL_bad (n : Nat) (s : RS) (h : (fndL n s).2.2 = false) : s.2 = false := by
  cases hs : s.2 with
  | false => rfl
  | true => rw [fndL_stop n s (.inr hs), hs] at h; cases h
theorem insL_back : ∀ (n : Nat) (s : RS), Bytes s.1 → (insL n s).2.2 = false → s.1 = insBytes (insL n s).1 ++ (insL n s).2.1 ∧ (insL n s).1.length = n := by
  intro n
  induction n with
  | zero => intro s _ _; exact ⟨rfl, rfl⟩
  | succ n ih =>
    intro s hb h
    have hs := insL_bad _ _ h
    rw [insL_go n s hs] at h ⊢
    simp only at h ⊢
    have hb1 := txtS_bytes hb
    have i := ih (numS 8 (txtS s)) (numS_bytes hb1) h
    have h8 := insL_bad _ _ h
    have k1 := num_back hb1 h8
    have k2 := txt_back hb k1.1
    refine ⟨?_, by rw [List.length_cons, i.2]⟩
    conv => lhs; rw [k2.2, k1.2, i.1]
    unfold insBytes
    rw [List.flatMap_cons]
    simp only [List.append_assoc]
theorem fndL_back : ∀ (n : Nat) (s : RS), Bytes s.1 → (fndL n s).2.2 = false → s.1 = foundBytes (fndL n s).1 ++ (fndL n s).2.1 ∧ (fndL n s).1.length = n := by
  intro n
  induction n with
  | zero => intro s _ _; exact ⟨rfl, rfl⟩
  | succ n ih =>
    intro s hb h
    have hs := fndL_bad _ _ h
    rw [fndL_go n s hs] at h ⊢
    simp only at h ⊢
    have i := ih (numS 8 s) (numS_bytes hb) h
    have h8 := fndL_bad _ _ h
    have k1 := num_back hb h8
    refine ⟨?_, by rw [List.length_cons, i.2]⟩
    conv => lhs; rw [k1.2, i.1]
    unfold foundBytes
    rw [List.flatMap_cons]
    simp only [List.append_assoc]
/-- Bytes that are read as a run are that run's bytes. -/
theorem raw_back (xs : List Int) (hb : Bytes xs) (h : okB (raw xs) = true) : runBytes (raw xs).run = xs ∧ lateR (raw xs).run = false := by
  unfold okB at h
  simp only [Bool.and_eq_true, Bool.not_eq_true', decide_eq_true_eq] at h
  obtain ⟨⟨⟨h1, h2⟩, h3⟩, h4⟩ := h
  refine ⟨?_, h1⟩
  have b1 : Bytes (rs1 xs).1 := numS_bytes hb
  have b2 : Bytes (rs2 xs).1 := txtS_bytes b1
  have b3 : Bytes (rs3 xs).1 := txtS_bytes b2
  have b4 : Bytes (rs4 xs).1 := numS_bytes b3
  have b5 : Bytes (rs5 xs).1 := numS_bytes b4
  have bi := insL_range (num 4 (rs5 xs)).toNat (numS 4 (rs5 xs)) (numS_bytes b5)
  have hF : (rF xs).2.2 = false := h2
  have f := fndL_back (num 4 (rI xs).2).toNat (numS 4 (rI xs).2) (numS_bytes bi.2) hF
  have g8 := fndL_bad _ _ hF
  have k8 := num_back (s := (rI xs).2) bi.2 g8
  have hI : (rI xs).2.2 = false := k8.1
  have i := insL_back (num 4 (rs5 xs)).toNat (numS 4 (rs5 xs)) (numS_bytes b5) hI
  have g7 := insL_bad _ _ hI
  have k7 := num_back b5 g7
  have k6 := num_back b4 k7.1
  have k5 := num_back b3 k6.1
  have k4 := txt_back b2 k5.1
  have k3 := txt_back b1 k4.1
  have k2 := num_back (s := (xs, false)) hb k3.1
  have e8 : (num 4 (rI xs).2) = ((rF xs).1.length : Int) := by
    have := num4_range bi.2
    have e : (rF xs).1.length = (num 4 (rI xs).2).toNat := f.2
    rw [e]
    show num 4 (rI xs).2 = _
    have h0 : 0 ≤ num 4 (rI xs).2 := this.1
    omega
  have e7 : (num 4 (rs5 xs)) = ((rI xs).1.length : Int) := by
    have := num4_range b5
    have e : (rI xs).1.length = (num 4 (rs5 xs)).toNat := i.2
    rw [e]
    omega
  have hnil : (rF xs).2.1 = [] := List.eq_nil_of_length_eq_zero h3
  have c2 : xs = Pack.leBytes (num 8 (xs, false)) 8 ++ (rs1 xs).1 := k2.2
  have c3 : (rs1 xs).1 = textBytes (txt (rs1 xs)) ++ (rs2 xs).1 := k3.2
  have c4 : (rs2 xs).1 = textBytes (txt (rs2 xs)) ++ (rs3 xs).1 := k4.2
  have c5 : (rs3 xs).1 = Pack.leBytes (num 8 (rs3 xs)) 8 ++ (rs4 xs).1 := k5.2
  have c6 : (rs4 xs).1 = Pack.leBytes (num 8 (rs4 xs)) 8 ++ (rs5 xs).1 := k6.2
  have c7 : (rs5 xs).1 = Pack.leBytes ((rI xs).1.length : Int) 4 ++ (numS 4 (rs5 xs)).1 := by rw [← e7]; exact k7.2
  have c7b : (numS 4 (rs5 xs)).1 = insBytes (rI xs).1 ++ (rI xs).2.1 := i.1
  have c8 : (rI xs).2.1 = Pack.leBytes ((rF xs).1.length : Int) 4 ++ (numS 4 (rI xs).2).1 := by rw [← e8]; exact k8.2
  have c8b : (numS 4 (rI xs).2).1 = foundBytes (rF xs).1 ++ (rF xs).2.1 := f.1
  conv => rhs; rw [c2, c3, c4, c5, c6, c7, c7b, c8, c8b, hnil]
  have e4 : num 8 (xs, false) = Crc.hashOf (bytesOf (txt (rs2 xs))) := h4
  rw [e4]
  show runBytes ⟨txt (rs1 xs), txt (rs2 xs), num 8 (rs3 xs), num 8 (rs4 xs), (rI xs).1, (rF xs).1⟩ = _
  unfold runBytes headOf
  simp only [List.append_assoc, List.append_nil]
end Go.Proofs.Ytehndlafbbpofaa.Run
