/- bellowsref13.Put (walk). -/
import Derived.Test.YtifbkojapfighaaGrPutP
namespace Go.Proofs.Ytifbkojapfighaa.Gr
open Go.RowKit Go.Proofs.YtifbkojapfighaaW.PrintWords Go.Proofs.YtifbkojapfighaaW.PrintLast Go.Proofs.Ytifbkojapfighaa.Base Go.Maps
set_option linter.unusedVariables false
set_option linter.unusedSimpArgs false
theorem drop_str {w : World} {A : Option Addr} {n c : Nat} {l : List ByteArray} (h : Ss w (.slice A n c) l) {k : Nat} (hk : k ≤ l.length) : ∃ B, (∀ W : World, (Instr.slice 23 (.slice A n c) (some (.int .i64 (k : Int))) none none).run Try.prog W = .ok (.slice B (n - k) (c - k)) W) ∧ Ss w (.slice B (n - k) (c - k)) (l.drop k) := by
  obtain ⟨A', c', e, h1, h2, h3⟩ := h
  injection e with e1 e2 e3
  subst e1 e3 e2
  refine ⟨if c = k then A else A.map (·.add k), fun W => ?_, ?_⟩
  · obtain ⟨i0, hi, hzz⟩ := Option.map_eq_some_iff.1 info_str
    simp only [Prod.mk.injEq] at hzz
    have hz := hzz.2.1
    have hel : Try.prog.elem 23 = 9 := by simp [Program.elem, Try.underlying23]
    have hu : Try.prog.underlying 23 = some (.slice (Try.prog.elem 23)) := by rw [hel]; exact Try.underlying23
    rw [run_slice_l W 23 A _ c hu .i64 (k : Int) (by omega) (by omega), hel]
    simp [sizeOf, typeInfo, hi, hz, sliced, Result.andThen]
  · have hl : (l.drop k).length = l.length - k := List.length_drop
    refine ⟨_, c - k, by rw [hl], by rw [hl]; omega, by rw [hl]; omega, fun hp => ?_⟩
    rw [hl] at hp
    obtain ⟨ad, ea, hc⟩ := h3 (by omega)
    subst ea
    refine ⟨ad.add k, by rw [if_neg (by omega)]; rfl, fun i hi => ?_⟩
    rw [hl] at hi
    have h4 := hc (k + i) (by omega)
    rw [List.getD_eq_getElem?_getD, List.getElem?_drop, ← List.getD_eq_getElem?_getD]
    have e4 : (ad.add k).add i = ad.add (k + i) := by
      by_cases hk0 : k = 0 <;> by_cases hi0 : i = 0 <;> simp [Addr.add, hk0, hi0, Nat.add_assoc]
    rw [e4]
    exact h4
set_option maxRecDepth 100000 in
set_option maxHeartbeats 4000000 in
theorem rput_any (v : Value) (l : List ByteArray) (s : ByteArray) (w : World) (h : Ss w v l) (hu : Up l) (hl : l.length ≤ 1000000) :
    Calls Try.prog 17 #[v, .string s] w fun e w' => ∃ v', e = .returned v' ∧ Ss w' v' (putS l s) ∧ Below w.heap.size w w' := by
  obtain ⟨A, c, rfl, hc, hm⟩ := ss_len h
  obtain ⟨n, hn⟩ : ∃ n, n = l.length := ⟨_, rfl⟩
  rw [← hn] at hc hm h hl ⊢
  have HSS := Lib.hid h
  have HN := Lib.hid hn
  have HU := Lib.hid hu
  clear h hn hu
  go_enter Try.func17, Try.ntmps17
  go_wp2
  go_loopw [5] (fun i wr => ∃ k : Nat, k ≤ n ∧ i = .int .i64 k ∧ wr = w ∧ Hid (∀ j, j < k → slt (l.getD j ByteArray.empty) s = true)) (fun i _ => n - (intOf i).toNat)
  case atStart => exact ⟨0, by omega, rfl, rfl, fun j hj => absurd hj (Nat.not_lt_zero _)⟩
  case round =>
    obtain ⟨k, hk, rfl, hwr, HK⟩ := hrel
    have hwr := hwr.symm
    subst hwr
    have hk6 : k ≤ 1000000 := by omega
    by_cases l1 : k < n
    · have hkl : k < l.length := by rw [← HN.out]; exact l1
      obtain ⟨ad, e1, q⟩ := ss_get HSS.out k hkl
      subst e1
      obtain ⟨y, hy⟩ : ∃ y, y = l.getD k ByteArray.empty := ⟨_, rfl⟩
      rw [← hy] at q
      have HY := Lib.hid hy
      clear hkl hy
      obtain ⟨b, hb⟩ : ∃ b, b = slt y s := ⟨_, rfl⟩
      have hb2 : Op.bytesLess y.toList s.toList = b := hb.symm
      have HBD := Lib.hid hb
      clear hb
      cases b with
      | true =>
        go_wp2
        go_roundw
        case rel => exact ⟨k + 1, by omega, by go_num, trivial, fun j hj => by
          rcases Nat.lt_succ_iff_lt_or_eq.1 hj with h | h
          · exact HK.out j h
          · rw [h, ← HY.out]; exact HBD.out.symm⟩
        case measure => simp [intOf]; omega
      | false =>
        by_cases hs : y = s
        · have hb3 : (y.toList == s.toList) = true := by rw [hs]; exact beq_self_eq_true _
          have HP : Hid (putS l s = l) := putS_here (by rw [← HN.out]; exact l1) (by rw [← HY.out]; exact hs)
          clear hs
          go_wp2
          go_ret
          exact ⟨_, rfl, by rw [HP.out]; exact HSS.out, Below.refl _ _⟩
        · have hb3 : (y.toList == s.toList) = false := by rw [str_eqb]; exact decide_eq_false hs
          have HP : Hid (putS l s = l.take k ++ [s] ++ l.drop k) := putS_not HU.out (by rw [← HN.out]; exact hk) HK.out (fun _ => by rw [← HY.out]; exact HBD.out.symm) (fun _ e => hs (by rw [HY.out]; exact e))
          clear hs
          have hcut := cut_str (some ad) n c k (by omega)
          obtain ⟨B, hdrop, hB⟩ := drop_str HSS.out (k := k) (by rw [← HN.out]; exact hk)
          have HD := Lib.hid hB
          clear hB
          have HTK : Hid (Ss w (.slice (some ad) k c) (l.take k)) := Ss.take HSS.out (by rw [← HN.out]; exact hk)
          have HTL : Hid ((l.take k).length = k) := by show _ = _; rw [List.length_take, ← HN.out]; omega
          have HB2 : Hid (Below w.heap.size w (w.alloc (.cells #[] 9))) := below_alloc (Below.refl _ _) _
          have HR2 : Hid (Kd.string.R 9 (w.alloc (.cells #[] 9)) w.heap.size (fun _ => True) (.slice (some ⟨w.heap.size, 0, none⟩) 0 0) []) := str_nil w _ (Nat.le_refl _) _ trivial
          go_wp2_with (at_builtin; refine Held.of ?_)
          refine Held.out (Kd.R_append_row Value.string ByteArray.empty (h1 := fun _ => rfl) (w0 := w) w.heap.size rfl (.tmp 34) (.tmp 37) 23 9 (.string ⟨#[]⟩) 16 rfl Try.underlying23 (by kernel_rfl) rfl (by decide) (.slice (some ⟨w.heap.size, 0, none⟩) 0 0) [] (l.take k) (some ad) k c (fun _ => True) rfl rfl (fun _ _ => trivial) HR2.out (ss_C (HTK.out.below HB2.out)) HB2.out HB2.out.size (by simp only [List.length_nil]; omega) ?_)
          intro va wa ra ba _ _
          rw [List.nil_append] at ra
          obtain ⟨Aa, ca, ea⟩ := Kd.R_slice ra
          rw [HTL.out] at ea
          subst ea
          have HRA := Lib.hid ra
          have HBA := Lib.hid ba
          clear ra ba
          go_wp2_with (at_builtin; refine Held.of ?_)
          refine Held.out (Kd.R_append Kd.string (w0 := w) w.heap.size rfl (.tmp 38) (.tmp 40) 23 9 (.string ⟨#[]⟩) 16 rfl Try.underlying23 (by kernel_rfl) rfl (by decide) (by decide) _ (l.take k) s [.string s] (fun _ => True) (fun _ => False) rfl rfl rfl (fun _ h => h.elim) (fun _ _ => trivial) HRA.out HBA.out HBA.out.size (by rw [HTL.out]; omega) ?_)
          intro vb wb rb bb2 _ _
          have HLB : Hid ((l.take k ++ [s]).length = k + 1) := by show _ = _; rw [List.length_append, HTL.out]; rfl
          obtain ⟨Ab, cb, eb⟩ := Kd.R_slice rb
          rw [HLB.out] at eb
          subst eb
          have HRB := Lib.hid rb
          have HBB := Lib.hid bb2
          have HDB := Lib.hid (HD.out.below HBB.out)
          clear rb bb2 hcut
          go_wp2_with (at_builtin; refine Held.of ?_)
          refine Held.out (Kd.R_append_row Value.string ByteArray.empty (h1 := fun _ => rfl) (w0 := w) w.heap.size rfl (.tmp 42) (.tmp 45) 23 9 (.string ⟨#[]⟩) 16 rfl Try.underlying23 (by kernel_rfl) rfl (by decide) _ (l.take k ++ [s]) (l.drop k) B (n - k) (c - k) (fun _ => True) rfl rfl (fun _ _ => trivial) HRB.out (ss_C HDB.out) HBB.out HBB.out.size (by rw [HLB.out]; omega) ?_)
          intro vc wc rc bc _ _
          have HRC := Lib.hid (r_ss rc)
          have HBC := Lib.hid bc
          clear rc bc hdrop
          go_wp2
          go_ret
          exact ⟨_, rfl, by rw [HP.out]; exact HRC.out, HBC.out⟩
    · have hk2 : k = n := by omega
      have HP : Hid (putS l s = l.take k ++ [s] ++ l.drop k) := putS_not HU.out (by rw [← HN.out]; exact hk) HK.out (fun h => by rw [← HN.out] at h; omega) (fun h => by rw [← HN.out] at h; omega)
      clear hk2
      have hcut := cut_str A n c k (by omega)
      obtain ⟨B, hdrop, hB⟩ := drop_str HSS.out (k := k) (by rw [← HN.out]; exact hk)
      have HD := Lib.hid hB
      clear hB
      have HTK : Hid (Ss w (.slice A k c) (l.take k)) := Ss.take HSS.out (by rw [← HN.out]; exact hk)
      have HTL : Hid ((l.take k).length = k) := by show _ = _; rw [List.length_take, ← HN.out]; omega
      have HB2 : Hid (Below w.heap.size w (w.alloc (.cells #[] 9))) := below_alloc (Below.refl _ _) _
      have HR2 : Hid (Kd.string.R 9 (w.alloc (.cells #[] 9)) w.heap.size (fun _ => True) (.slice (some ⟨w.heap.size, 0, none⟩) 0 0) []) := str_nil w _ (Nat.le_refl _) _ trivial
      go_wp2_with (at_builtin; refine Held.of ?_)
      refine Held.out (Kd.R_append_row Value.string ByteArray.empty (h1 := fun _ => rfl) (w0 := w) w.heap.size rfl (.tmp 34) (.tmp 37) 23 9 (.string ⟨#[]⟩) 16 rfl Try.underlying23 (by kernel_rfl) rfl (by decide) (.slice (some ⟨w.heap.size, 0, none⟩) 0 0) [] (l.take k) A k c (fun _ => True) rfl rfl (fun _ _ => trivial) HR2.out (ss_C (HTK.out.below HB2.out)) HB2.out HB2.out.size (by simp only [List.length_nil]; omega) ?_)
      intro va wa ra ba _ _
      rw [List.nil_append] at ra
      obtain ⟨Aa, ca, ea⟩ := Kd.R_slice ra
      rw [HTL.out] at ea
      subst ea
      have HRA := Lib.hid ra
      have HBA := Lib.hid ba
      clear ra ba
      go_wp2_with (at_builtin; refine Held.of ?_)
      refine Held.out (Kd.R_append Kd.string (w0 := w) w.heap.size rfl (.tmp 38) (.tmp 40) 23 9 (.string ⟨#[]⟩) 16 rfl Try.underlying23 (by kernel_rfl) rfl (by decide) (by decide) _ (l.take k) s [.string s] (fun _ => True) (fun _ => False) rfl rfl rfl (fun _ h => h.elim) (fun _ _ => trivial) HRA.out HBA.out HBA.out.size (by rw [HTL.out]; omega) ?_)
      intro vb wb rb bb2 _ _
      have HLB : Hid ((l.take k ++ [s]).length = k + 1) := by show _ = _; rw [List.length_append, HTL.out]; rfl
      obtain ⟨Ab, cb, eb⟩ := Kd.R_slice rb
      rw [HLB.out] at eb
      subst eb
      have HRB := Lib.hid rb
      have HBB := Lib.hid bb2
      have HDB := Lib.hid (HD.out.below HBB.out)
      clear rb bb2 hcut
      go_wp2_with (at_builtin; refine Held.of ?_)
      refine Held.out (Kd.R_append_row Value.string ByteArray.empty (h1 := fun _ => rfl) (w0 := w) w.heap.size rfl (.tmp 42) (.tmp 45) 23 9 (.string ⟨#[]⟩) 16 rfl Try.underlying23 (by kernel_rfl) rfl (by decide) _ (l.take k ++ [s]) (l.drop k) B (n - k) (c - k) (fun _ => True) rfl rfl (fun _ _ => trivial) HRB.out (ss_C HDB.out) HBB.out HBB.out.size (by rw [HLB.out]; omega) ?_)
      intro vc wc rc bc _ _
      have HRC := Lib.hid (r_ss rc)
      have HBC := Lib.hid bc
      clear rc bc hdrop
      go_wp2
      go_ret
      exact ⟨_, rfl, by rw [HP.out]; exact HRC.out, HBC.out⟩
end Go.Proofs.Ytifbkojapfighaa.Gr
