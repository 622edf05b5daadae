/- Readers over what was put (plain): numbers and texts. -/
import Derived.Test.YtinonkakpgiblaaRdAny
namespace Go.Proofs.Ytinonkakpgiblaa.Pack
open Go.RowKit Go.Proofs.YtinonkakpgiblaaW.PrintWords Go.Proofs.Ytinonkakpgiblaa.Base
set_option linter.unusedVariables false
set_option linter.unusedSimpArgs false

theorem num_put (m : Nat) (n : Int) (ys : List Int) (n0 : 0 ≤ n) (n1 : n < 256 ^ m) : num m (Pack.leBytes n m ++ ys, false) = n ∧ numS m (Pack.leBytes n m ++ ys, false) = (ys, false) := by
  have hl := leBytes_length n m
  have hc : ¬ ((Pack.leBytes n m ++ ys, false).2 = true ∨ (Pack.leBytes n m ++ ys, false).1.length < m) := by
    simp only [Bool.false_eq_true, false_or, List.length_append]
    omega
  unfold num numS
  rw [if_neg hc, if_neg hc]
  simp only
  rw [List.take_left' hl, List.drop_left' hl, leVal_leBytes m n n0 n1]
  exact ⟨rfl, rfl⟩
theorem txt_put (t : ByteArray) (ys : List Int) (ht : t.size ≤ 65535) : txt (textBytes t ++ ys, false) = t ∧ txtS (textBytes t ++ ys, false) = (ys, false) := by
  have hl := leBytes_length t.size 2
  have e1 : ((textBytes t ++ ys).take 2) = Pack.leBytes t.size 2 := by
    unfold textBytes
    rw [List.append_assoc, List.take_left' hl]
  have e2 : ((textBytes t ++ ys).drop 2) = bytesOf t ++ ys := by
    unfold textBytes
    rw [List.append_assoc, List.drop_left' hl]
  have e3 : txtLen (textBytes t ++ ys, false) = t.size := by
    unfold txtLen
    rw [e1, leVal_leBytes 2 _ (by omega) (by omega)]
    omega
  have e4 := bytesOf_length t
  have hc : ¬ txtBad (textBytes t ++ ys, false) := by
    unfold txtBad
    rw [e3]
    simp only [Bool.false_eq_true, false_or, e2, List.length_append, textBytes_length]
    omega
  unfold txt txtS
  rw [if_neg hc, if_neg hc, e3]
  simp only
  rw [e2, List.take_left' e4, List.drop_left' e4, str_bytesOf]
  exact ⟨rfl, rfl⟩
theorem num_back {m : Nat} {s : RS} (hb : Bytes s.1) (h : (numS m s).2 = false) : s.2 = false ∧ s.1 = Pack.leBytes (num m s) m ++ (numS m s).1 := by
  have hl := numS_len h
  refine ⟨hl.2, ?_⟩
  unfold numS at h
  split at h
  · cases h
  · rename_i hn
    unfold num numS
    rw [if_neg hn, if_neg hn]
    have hm : (s.1.take m).length = m := by
      simp only [not_or] at hn
      rw [List.length_take]; omega
    have e := leBytes_leVal (s.1.take m) (hb.take m)
    rw [hm] at e
    rw [e, List.take_append_drop]
theorem txt_back {s : RS} (hb : Bytes s.1) (h : (txtS s).2 = false) : s.2 = false ∧ s.1 = textBytes (txt s) ++ (txtS s).1 := by
  unfold txtS at h
  split at h
  · cases h
  · rename_i hn
    unfold txt txtS
    rw [if_neg hn, if_neg hn]
    unfold txtBad at hn
    simp only [not_or, Bool.not_eq_true, Nat.not_lt] at hn
    refine ⟨hn.1, ?_⟩
    have h2 : (s.1.take 2).length = 2 := by rw [List.length_take]; omega
    have hr := leVal_range (s.1.take 2) (hb.take 2)
    have e := leBytes_leVal (s.1.take 2) (hb.take 2)
    rw [h2] at e hr
    have hs : (strOfNums ((s.1.drop 2).take (txtLen s))).size = txtLen s := by rw [str_size, List.length_take]; omega
    unfold textBytes
    rw [hs, bytesOf_str _ ((hb.drop 2).take _)]
    have hk : ((txtLen s : Nat) : Int) = leVal (s.1.take 2) := by unfold txtLen; omega
    rw [hk, e, List.append_assoc, List.take_append_drop, List.take_append_drop]
end Go.Proofs.Ytinonkakpgiblaa.Pack
