/- A row with a name, once: the law's with (walk); nil books told. -/
import Derived.Test.YtinonkakpgiblaaNamAll
namespace Go.Proofs.Ytinonkakpgiblaa.Nam
open Go.RowKit Go.Proofs.YtinonkakpgiblaaW.PrintWords Go.Proofs.YtinonkakpgiblaaW.PrintLast Go.Proofs.Ytinonkakpgiblaa.Base Go.Proofs.Ytinonkakpgiblaa.Pack Go.Maps
set_option linter.unusedVariables false
set_option linter.unusedSimpArgs false

def withV (l : List ByteArray) (s : ByteArray) : List ByteArray := if s ∈ l then l else l ++ [s]
theorem str_eqb {a b : ByteArray} : (a.toList == b.toList) = decide (a = b) := by
  by_cases h : a = b
  · rw [h]; simp
  · rw [decide_eq_false h]
    apply beq_eq_false_iff_ne.2
    intro e
    rw [ByteArray.toList_eq, ByteArray.toList_eq] at e
    cases a
    cases b
    exact h (congrArg ByteArray.mk (Array.toList_inj.1 e))
set_option maxRecDepth 100000 in
set_option maxHeartbeats 2000000 in
theorem with_any (base : Nat) (ok : Nat → Prop) (v : Value) (l : List ByteArray) (s : ByteArray) (w : World) (hR : Kd.string.R 9 w base ok v l) (hfresh : ∀ k, w.heap.size ≤ k → ok k) (hbase : base ≤ w.heap.size) (hl : l.length ≤ 1000000) :
    Calls Try.prog 20 #[v, .string s] w fun e w' => ∃ v1, e = .returned v1 ∧ Kd.string.R 9 w' base ok v1 (withV l s) ∧ Below base w w' ∧ w.grownBy w' v.ownBlock := by
  obtain ⟨A, n, c, ev⟩ : ∃ A n c, v = .slice A n c := by
    obtain ⟨A, c, e⟩ := Kd.R_slice hR
    exact ⟨A, _, c, e⟩
  subst ev
  have hn : n = l.length := by
    obtain ⟨A', c', e⟩ := Kd.R_slice hR
    injection e
  have hss := r_ss hR
  have HR := Lib.hid hR
  have HN := Lib.hid hn
  have HSS := Lib.hid hss
  have hnl : n ≤ 1000000 := by omega
  clear hR hn hss
  go_enter Try.func20, Try.ntmps20
  go_wp2
  go_loopw [5] (fun i wr => ∃ k : Nat, k ≤ n ∧ i = .int .i64 k ∧ wr = w ∧ Hid (∀ j, j < k → l.getD j ByteArray.empty ≠ s)) (fun i _ => n - (intOf i).toNat)
  case atStart => exact ⟨0, by omega, rfl, rfl, fun j hj => absurd hj (Nat.not_lt_zero _)⟩
  case round =>
    obtain ⟨k, hk, rfl, rfl, HNE⟩ := hrel
    by_cases l1 : k < n
    · have hkl : k < l.length := by rw [← HN.out]; exact l1
      obtain ⟨Ax, cx, ex, _, _, hcel⟩ := HSS.out
      injection ex with ex1 ex2 ex3
      subst ex1
      obtain ⟨ad, ead, hcell⟩ := hcel (by omega)
      subst ead
      have q := hcell k hkl
      have hgd : l.getD k ByteArray.empty ∈ l := by
        rw [List.getD_eq_getElem?_getD, List.getElem?_eq_getElem hkl]
        exact List.getElem_mem hkl
      have HGD := Lib.hid hgd
      obtain ⟨y, hy⟩ : ∃ y, y = l.getD k ByteArray.empty := ⟨_, rfl⟩
      rw [← hy] at q
      have HY := Lib.hid hy
      clear hcel hcell ex2 ex3 hkl hgd hy
      by_cases hs : y = s
      · have hb : (y.toList == s.toList) = true := by rw [str_eqb]; exact decide_eq_true hs
        have HW : Hid (withV l s = l) := by show _ = _; unfold withV; rw [if_pos (by rw [← hs, HY.out]; exact HGD.out)]
        clear hs
        go_wp2
        go_ret
        exact ⟨_, rfl, by rw [HW.out]; exact HR.out, Below.refl _ _, World.grownBy.refl _ _⟩
      · have hb : (y.toList == s.toList) = false := by rw [str_eqb]; exact decide_eq_false hs
        have HS := Lib.hid hs
        clear hs
        go_wp2
        go_roundw
        case rel => exact ⟨k + 1, by omega, by go_num, trivial, fun j hj => by
          rcases Nat.lt_succ_iff_lt_or_eq.1 hj with h | h
          · exact HNE.out j h
          · rw [h, ← HY.out]; exact HS.out⟩
        case measure => simp [intOf]; omega
    · have hk2 : k = n := by omega
      have HW : Hid (withV l s = l ++ [s]) := by
        show _ = _
        unfold withV
        rw [if_neg]
        intro hm
        obtain ⟨j, hj, e⟩ := List.mem_iff_getElem.1 hm
        refine HNE.out j (by rw [hk2, HN.out]; exact hj) ?_
        rw [List.getD_eq_getElem?_getD, List.getElem?_eq_getElem hj]
        exact e
      clear hk2
      go_wp2_with (at_builtin; refine Held.of ?_)
      refine Held.out (Kd.R_append Kd.string base rfl (.tmp 19) (.tmp 21) 22 9 (.string ⟨#[]⟩) 16 rfl Try.underlying22 (by kernel_rfl) rfl (by decide) (by decide) _ l s [.string s] ok (fun _ => False) rfl rfl rfl (fun _ h => h.elim) hfresh HR.out (Below.refl _ _) hbase (by omega) ?_)
      intro v1 w1 h1 h2 h3 _
      have H1 := Lib.hid h1
      have H2 := Lib.hid h2
      have H3 := Lib.hid h3
      clear h1 h2 h3
      go_wp2
      go_ret
      exact ⟨_, rfl, by rw [HW.out]; exact H1.out, H2.out, H3.out⟩
set_option maxHeartbeats 1000000 in
theorem ball_none (w : World) :
    Calls Try.prog 22 #[.pointer none] w fun e w' => e = .returned (.slice none 0 0) ∧ Below w.heap.size w w' := by
  refine (callsIn_wide (n := 5)).1 ?_
  refine callsIn_of_wp_marks Try.func22 rfl trivial ?_ rfl
  simp only [Try.ntmps22, List.size_toArray, List.length_cons, List.length_nil, Nat.reduceAdd, Nat.reduceSub, Array.replicate_succ, Array.replicate_zero, List.push_toArray, List.append_toArray, List.nil_append, List.cons_append]
  gi_wp2
  exact ⟨_, results_tmp rfl _ _ _, rfl, below_alloc (Below.refl _ _) _⟩
theorem allOf_nil {b : BookV} (h : ∀ n, b.os n = none) {l : List DepV} (hl : AllOf b l) : l = [] := by
  cases l with
  | nil => rfl
  | cons d l =>
    obtain ⟨n, f, h1, _⟩ := (hl.mem d).1 (by simp)
    rw [h n] at h1
    cases h1
end Go.Proofs.Ytinonkakpgiblaa.Nam
