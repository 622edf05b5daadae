/- slices.Grow of nothing, slices.Concat of texts, slices.Contains of numbers (walks). -/
import Derived.Test.YtifbkojapfighaaGrKit
import Derived.Test.YtifbkojapfighaaWZeros
namespace Go.Proofs.Ytifbkojapfighaa.Gr
open Go.RowKit Go.Proofs.YtifbkojapfighaaW.PrintWords Go.Proofs.YtifbkojapfighaaW.PrintLast Go.Proofs.Ytifbkojapfighaa.Base Go.Maps
set_option linter.unusedVariables false
set_option linter.unusedSimpArgs false

theorem info_str : (Try.prog.info? 9).map (fun i => (i.zero, i.size, i.bytes)) = some (some (.string ⟨#[]⟩), 1, 16) := by kernel_rfl
theorem cut_str (A : Option Addr) (n c m : Nat) (hm : m ≤ c) (W : World) : (Instr.slice 23 (.slice A n c) none (some (.int .i64 (m : Int))) none).run Try.prog W = .ok (.slice A m c) W := by
  obtain ⟨i0, hi, hzz⟩ := Option.map_eq_some_iff.1 info_str
  simp only [Prod.mk.injEq] at hzz
  have hz := hzz.2.1
  have hel : Try.prog.elem 23 = 9 := by simp [Program.elem, Try.underlying23]
  have hu : Try.prog.underlying 23 = some (.slice (Try.prog.elem 23)) := by rw [hel]; exact Try.underlying23
  have ha : (A.map fun x => x.add 0) = A := by cases A <;> simp [Addr.add]
  rw [run_slice_h W 23 A n c hu .i64 (m : Int) (by omega) (by omega), hel]
  simp [sizeOf, typeInfo, hi, hz, sliced, Result.andThen, ha]
section
variable {ops : Array Oper} {rest : List Oper} {o : Oper} {a : Act} {Q : Exit → Act → World → Prop}
/-- append(nil, make([]string, m)...). -/
theorem app_made {w0 W : World} (hgd : o.guard = none) (s x : Operand) (t ti : TypeId)
    (ho : o.op = .call { callee := .builtin .append, args := #[s, x], argTypes := #[t, ti] })
    (ht : Try.prog.underlying t = some (.slice 9)) {kt : IntKind} (hti : Try.prog.underlying ti = some (.int kt))
    (v : Value) (m : Nat) (hs : a.eval s = v) (hx : a.eval x = .int .i64 m)
    (HO : W.ownsRow w0.heap.size 9 1 v 0 []) (hbase : w0.heap.size ≤ W.heap.size) (hl : m ≤ 1000000000)
    (h : ∀ v1 w1 zs, w1.ownsRow w0.heap.size 9 1 v1 m zs → W.grownBy w1 v.ownBlock → wpList Try.prog ops Q rest (a.put o.dst v1) w1) :
    Held (wpList Try.prog ops Q (o :: rest) a W) := by
  obtain ⟨i0, hi, hzz⟩ := Option.map_eq_some_iff.1 info_str
  simp only [Prod.mk.injEq] at hzz
  obtain ⟨hz0, hz1, hz2⟩ := hzz
  obtain ⟨v1, w1, hr, hown, hg, hat⟩ := run_append_zeros (P := Try.prog) W w0.heap.size t ti o.type 9 i0 (.string ⟨#[]⟩) 1 16 ht hti hi hz0 hz1 hz2 rfl (by decide) (by decide) v 0 [] HO .i64 m
    (by intro u hu; simp [Builtin.zeroCells, Value.cells] at hu; obtain ⟨i, _, rfl⟩ := hu; simp [Nat.mod_one, Value.oneCell']) (by omega) hbase
  rw [Nat.zero_add] at hown
  refine Held.out (wpList_plain hgd fun K hK => ?_)
  unfold Oper.wp execOp
  simp only [ho, resolve, invoke, builtin, Sem.run_bind, Sem.run_pure, Result.andThen_ok, List.map_toArray, List.map_cons, List.map_nil, hs, hx, hr]
  exact hK _ _ (h v1 w1 _ hown hg)
end
set_option maxHeartbeats 800000 in
/-- slices.Grow of no slice. -/
theorem grow_nil (m : Nat) (w : World) (hm : m ≤ 1000000000) :
    Calls Try.prog 65 #[.slice none 0 0, .int .i64 m] w fun e w' => ∃ v', e = .returned v' ∧ Kd.string.R 9 w' w.heap.size (fun _ => True) v' [] ∧ Below w.heap.size w w' := by
  by_cases h0 : 0 < m
  case neg =>
    have hm0 : m = 0 := by omega
    subst hm0
    clear h0
    go_enter Try.func65, Try.ntmps65
    go_wp2
    go_ret
    exact ⟨_, rfl, Kd.R_nil _ _ _ _ _, Below.refl _ _⟩
  have k1 := cut_str none 0 0 0 (Nat.le_refl _)
  have HO : Hid (w.ownsRow w.heap.size 9 1 (.slice none 0 0) 0 []) := ⟨rfl, .inl ⟨rfl, rfl⟩⟩
  go_enter Try.func65, Try.ntmps65
  go_wp2_with (at_builtin; refine Held.of ?_)
  refine app_made (w0 := w) rfl (.tmp 20) (.tmp 21) 23 3 rfl Try.underlying23 Try.underlying3 _ m rfl rfl HO.out (Nat.le_refl _) hm ?_
  intro v1 w1 zs hown1 hg1
  have hb1 : Below w.heap.size w w1 := (Below.refl w.heap.size w).grown hg1 (Nat.le_refl _) (fun k hk => by cases hk)
  obtain ⟨A', c', rfl⟩ := own_slice hown1
  have hle := own_le hown1
  have k2 := cut_str A' m c' 0 (by omega)
  have ht := own_take hown1 (m := 0) (by omega)
  have hz : zs.take (0 * 1) = [] := by simp
  rw [hz] at ht
  have HT := Lib.hid ht
  have HB := Lib.hid hb1
  clear hown1 hg1 hb1 ht hz k1
  go_wp2
  go_ret
  exact ⟨_, rfl, Kd.R_of_own (enc := Value.string) (xs := []) HT.out (fun _ _ => trivial), HB.out⟩
/-- v reads as rows of texts. -/
def Sss (w : World) (v : Value) (ls : List (List ByteArray)) : Prop := ∃ A c, v = .slice A ls.length c ∧ ls.length ≤ c ∧ ls.length ≤ 9223372036854775807 ∧ (0 < ls.length → ∃ ad, A = some ad ∧ ∀ i, i < ls.length → ∃ u, w.cell? (ad.add i) = some u ∧ Ss w u (ls.getD i []))
theorem Sss.below {w w1 : World} {v : Value} {ls : List (List ByteArray)} (h : Sss w v ls) (hb : Below w.heap.size w w1) : Sss w1 v ls := by
  obtain ⟨A, c, h1, h2, h3, h4⟩ := h
  exact ⟨A, c, h1, h2, h3, fun hp => by
    obtain ⟨ad, e, hc⟩ := h4 hp
    exact ⟨ad, e, fun i hi => by
      obtain ⟨u, hu, hbs⟩ := hc i hi
      exact ⟨u, pw_cell_below hb hu, hbs.below hb⟩⟩⟩
theorem Sss.get {w : World} {A : Option Addr} {n c : Nat} {ls : List (List ByteArray)} (h : Sss w (.slice A n c) ls) (i : Nat) (hi : i < ls.length) : ∃ ad u, A = some ad ∧ w.cell? (ad.add i) = some u ∧ Ss w u (ls.getD i []) := by
  obtain ⟨A', c', e, _, _, h4⟩ := h
  injection e with e1 e2 e3
  subst e1
  obtain ⟨ad, e, hc⟩ := h4 (by omega)
  obtain ⟨u, h1, h2⟩ := hc i hi
  exact ⟨ad, u, e, h1, h2⟩
theorem flat_snoc (ls : List (List ByteArray)) (k : Nat) (h : k < ls.length) : (ls.take (k + 1)).flatten = (ls.take k).flatten ++ ls.getD k [] := by
  rw [(take_at ls [] k h).1, List.flatten_append]
  simp
theorem flat_le (ls : List (List ByteArray)) (k : Nat) : (ls.take k).flatten.length ≤ ls.flatten.length := by
  conv => rhs; rw [← List.take_append_drop k ls, List.flatten_append, List.length_append]
  omega
set_option maxHeartbeats 1600000 in
/-- slices.Concat. -/
theorem concat_any (v : Value) (ls : List (List ByteArray)) (w : World) (h : Sss w v ls) (hl : ls.flatten.length ≤ 1000000) :
    Calls Try.prog 52 #[v] w fun e w' => ∃ v', e = .returned v' ∧ Kd.string.R 9 w' w.heap.size (fun _ => True) v' ls.flatten ∧ Below w.heap.size w w' := by
  have hlen : ∃ A c, v = .slice A ls.length c ∧ ls.length ≤ c ∧ ls.length ≤ 9223372036854775807 := by
    obtain ⟨A, c, e, h1, h2, _⟩ := h
    exact ⟨A, c, e, h1, h2⟩
  obtain ⟨A, c, rfl, hc, hm⟩ := hlen
  obtain ⟨n, hn⟩ : ∃ n, n = ls.length := ⟨_, rfl⟩
  rw [← hn] at hc h hm ⊢
  have HR := Lib.hid h
  have HN := Lib.hid hn
  have HL : Hid (ls.flatten.length ≤ 1000000) := hl
  clear h hn hl
  go_enter Try.func52, Try.ntmps52
  go_wp2
  go_loopw [3, 11] (fun s i wr => ∃ (k t : Nat), k ≤ n ∧ i = .int .i64 k ∧ s = .int .i64 t ∧ Hid (t = (ls.take k).flatten.length) ∧ wr = w) (fun _ i _ => n - (intOf i).toNat)
  case atStart => exact ⟨0, 0, by omega, rfl, rfl, by rw [List.take_zero]; exact rfl, rfl⟩
  case round =>
    obtain ⟨k, t, hk, rfl, rfl, HT, rfl⟩ := hrel
    have ht6 : t ≤ 1000000 := by rw [HT.out]; exact Nat.le_trans (flat_le ls k) HL.out
    by_cases l1 : k < n
    · have hkl : k < ls.length := by rw [← HN.out]; exact l1
      obtain ⟨ad, u, rfl, q, hs⟩ := HR.out.get k hkl
      have HF := Lib.hid (flat_snoc ls k hkl)
      have hle := flat_le ls (k + 1)
      have HLE := Lib.hid hle
      clear hkl hle
      generalize ls.getD k [] = r at hs HF
      obtain ⟨Ar, cr, er, _, _⟩ := ss_len hs
      subst er
      obtain ⟨nr, hnr⟩ : ∃ nr, nr = r.length := ⟨_, rfl⟩
      rw [← hnr] at q hs
      have hsum : t + nr ≤ 1000000 := by
        have h1 := HLE.out
        rw [HF.out, List.length_append, ← HT.out, ← hnr] at h1
        have := HL.out
        omega
      have HT2 : Hid (t + nr = (ls.take (k + 1)).flatten.length) := by show _ = _; rw [HF.out, List.length_append, ← HT.out, hnr]
      clear hs hnr
      have hneg : decide (((t : Int) + (nr : Int)) < 0) = false := decide_eq_false (by omega)
      go_wp2
      go_roundw
      case rel => exact ⟨k + 1, t + nr, by omega, by go_num, by go_num, HT2.out, trivial⟩
      case measure => simp [intOf]; omega
    · have hk2 : k = n := by omega
      have HT2 : Hid (t = ls.flatten.length) := by
        have h := HT.out
        rw [hk2, HN.out, List.take_length] at h
        exact h
      clear hk2 HT
      obtain ⟨w, hw⟩ : ∃ w, w = wr := ⟨_, rfl⟩
      subst hw
      go_wp2_with fail
      --S1
      refine (grow_nil t _ (by omega)).mono ?_
      rintro e w1 ⟨v1, rfl, r1, b1⟩
      have HR1 := Lib.hid r1
      have HB1 := Lib.hid b1
      clear r1 b1 l1 hk
      go_wp2
      go_loopw [6, 27] (fun s i wr => ∃ k : Nat, k ≤ n ∧ i = .int .i64 k ∧ Hid (Kd.string.R 9 wr w.heap.size (fun _ => True) s (ls.take k).flatten) ∧ Hid (Below w.heap.size w wr)) (fun _ i _ => n - (intOf i).toNat)
      case atStart => exact ⟨0, by omega, rfl, by rw [List.take_zero]; exact HR1.out, HB1.out⟩
      case round =>
        obtain ⟨k, hk, rfl, HS, HB⟩ := hrel
        by_cases l1 : k < n
        · have hkl : k < ls.length := by rw [← HN.out]; exact l1
          obtain ⟨ad, u, rfl, q, hs⟩ := (HR.out.below HB.out).get k hkl
          have HF := Lib.hid (flat_snoc ls k hkl)
          have HLE := Lib.hid (flat_le ls (k + 1))
          clear hkl
          generalize ls.getD k [] = r at hs HF
          obtain ⟨Ar, cr, er, _, _⟩ := ss_len hs
          subst er
          obtain ⟨nr, hnr⟩ : ∃ nr, nr = r.length := ⟨_, rfl⟩
          rw [← hnr] at q hs
          have HSR := Lib.hid hs
          have HNR := Lib.hid hnr
          have HSM : Hid ((ls.take k).flatten.length + nr ≤ 1000000) := by
            have h1 := HLE.out
            rw [HF.out, List.length_append, ← hnr] at h1
            exact Nat.le_trans h1 HL.out
          clear hs hnr
          obtain ⟨As, cs, es⟩ := Kd.R_slice HS.out
          obtain ⟨ns, hns⟩ : ∃ ns, ns = (ls.take k).flatten.length := ⟨_, rfl⟩
          rw [← hns] at es
          subst es
          clear hns
          go_wp2_with (at_builtin; refine Held.of ?_)
          refine Held.out (Kd.R_append_row Value.string ByteArray.empty (h1 := fun _ => rfl) (w0 := w) w.heap.size rfl (.tmp 31) (.tmp 32) 23 9 (.string ⟨#[]⟩) 16 rfl Try.underlying23 (by kernel_rfl) rfl (by decide) _ (ls.take k).flatten r Ar nr cr (fun _ => True) rfl rfl (fun _ _ => trivial) HS.out (ss_C HSR.out) HB.out HB.out.size (by have h1 := HSM.out; have h2 := HNR.out; omega) ?_)
          intro va w2 r2 b2 _ _
          rw [← HF.out] at r2
          obtain ⟨Aa, ca, ea⟩ := Kd.R_slice r2
          obtain ⟨na, hna⟩ : ∃ na, na = (ls.take (k + 1)).flatten.length := ⟨_, rfl⟩
          rw [← hna] at ea
          subst ea
          have HR2 := Lib.hid r2
          have HB2 := Lib.hid b2
          clear r2 b2 hna q
          go_wp2
          go_roundw
          case rel => exact ⟨k + 1, by omega, by go_num, HR2.out, HB2.out⟩
          case measure => simp [intOf]; omega
        · have hk2 : k = n := by omega
          obtain ⟨As, cs, es⟩ := Kd.R_slice HS.out
          obtain ⟨ns, hns⟩ : ∃ ns, ns = (ls.take k).flatten.length := ⟨_, rfl⟩
          rw [← hns] at es
          subst es
          clear hns
          have HRE : Hid (Kd.string.R 9 wr w.heap.size (fun _ => True) (.slice As ns cs) ls.flatten) := by
            have h := HS.out
            rw [hk2, HN.out, List.take_length] at h
            exact h
          clear hk2 HS
          go_wp2
          go_ret
          exact ⟨_, rfl, HRE.out, HB.out⟩
end Go.Proofs.Ytifbkojapfighaa.Gr
