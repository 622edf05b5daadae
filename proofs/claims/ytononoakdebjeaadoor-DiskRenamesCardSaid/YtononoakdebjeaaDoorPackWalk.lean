/- The contracts of the functions of package pack (walks). -/
import Derived.Test.YtononoakdebjeaaDoorBase
import Derived.Test.YtononoakdebjeaaDoorWZeros
import Derived.Test.YtononoakdebjeaaDoorPackPure
namespace Go.Proofs.YtononoakdebjeaaDoor.Pack
open Go.RowKit Go.Proofs.YtononoakdebjeaaDoorW.PrintWords Go.Proofs.YtononoakdebjeaaDoor.Base
set_option linter.unusedVariables false
set_option linter.unusedSimpArgs false

/-- s[:cap(s)] of a row of the call's own. -/
theorem own_full {w : World} {base n c : Nat} {e : TypeId} {A : Option Addr} {xs : List Value} (h : w.ownsRow base e 1 (.slice A n c) n xs) :
    ∃ ys, ys.length = c ∧ ys.take n = xs ∧ n ≤ c ∧ w.ownsRow base e 1 (.slice A c c) c ys := by
  obtain ⟨h1, h2⟩ := h
  rcases h2 with ⟨he, h0⟩ | ⟨g, cap, cur, he, hb, hh, hnc, hcm, hcs, ht⟩
  · injection he with h3 h4 h5
    subst h3 h4 h5
    refine ⟨[], rfl, ?_, Nat.le_refl _, by simp, .inl ⟨rfl, rfl⟩⟩
    simp at h1
    rw [h1]; rfl
  · injection he with h3 h4 h5
    subst h3 h5
    refine ⟨cur.toList, by simp [hcs], by simpa using ht, hnc, by simp [hcs], .inr ⟨g, c, cur, rfl, hb, hh, Nat.le_refl _, hcm, hcs, ?_⟩⟩
    rw [List.take_of_length_le (by simp [hcs])]

section
variable {ops : Array Oper} {rest : List Oper} {o : Oper} {a : Act} {Q : Exit → Act → World → Prop}
/-- append(v, make([]byte, m)...). -/
theorem app_zeros {w0 W : World} (hgd : o.guard = none) (s x : Operand) (t ti : TypeId)
    (ho : o.op = .call { callee := .builtin .append, args := #[s, x], argTypes := #[t, ti] })
    (ht : Tryd.prog.underlying t = some (.slice 5)) {kt : IntKind} (hti : Tryd.prog.underlying ti = some (.int kt))
    (v : Value) (n m : Nat) (ys : List Value) (hs : a.eval s = v) (hx : a.eval x = .int .i64 m)
    (HO : W.ownsRow w0.heap.size 5 1 v n ys) (hbase : w0.heap.size ≤ W.heap.size) (hl : n + m ≤ 140737488355328)
    (h : ∀ v1 w1 zs, w1.ownsRow w0.heap.size 5 1 v1 (n + m) (ys ++ zs) → W.grownBy w1 v.ownBlock → wpList Tryd.prog ops Q rest (a.put o.dst v1) w1) :
    Held (wpList Tryd.prog ops Q (o :: rest) a W) := by
  obtain ⟨i0, hi, hzz⟩ := Option.map_eq_some_iff.1 info_u8
  simp only [Prod.mk.injEq] at hzz
  obtain ⟨hz0, hz1, hz2⟩ := hzz
  obtain ⟨v1, w1, hr, hown, hg, hat⟩ := run_append_zeros (P := Tryd.prog) W w0.heap.size t ti o.type 5 i0 (.int .u8 0) 1 1 ht hti hi hz0 hz1 hz2 rfl (by decide) (by decide) v n ys HO .i64 m
    (by intro u hu; simp [Builtin.zeroCells, Value.cells] at hu; obtain ⟨i, _, rfl⟩ := hu; simp [Nat.mod_one, Value.oneCell']) (by omega) hbase
  refine Held.out (wpList_plain hgd fun K hK => ?_)
  unfold Oper.wp execOp
  simp only [ho, resolve, invoke, builtin, Sem.run_bind, Sem.run_pure, Result.andThen_ok, List.map_toArray, List.map_cons, List.map_nil, hs, hx, hr]
  exact hK _ _ (h v1 w1 _ hown hg)
end

/-- slices.Clone of bytes: nil stays nil; else a row of its own. -/
theorem clone_any (v : Value) (xs : List Int) (w : World) (hv : Bs w v xs) (hl : xs.length ≤ 140737488355328) :
    Calls Tryd.prog 41 #[v] w fun e w' => ∃ v', e = .returned v' ∧ Ow w w' v' xs := by
  obtain ⟨A, c, rfl, hc, hr⟩ := hv
  have hm := hr.2.1
  have hn := fun (w : World) (n c : Nat) (a : Option Addr) => Lib.run_eql_slice_nil (P := Tryd.prog) w 22 5 a n c 0 0 Tryd.underlying22
  have R := Lib.hid hr
  clear hr
  have HE := Lib.hid (Ow.lit (Below.refl w.heap.size w) [] (by simp))
  cases A with
  | none =>
    have hx : xs = [] := by
      rcases Nat.eq_zero_or_pos xs.length with h | h
      · exact List.eq_nil_of_length_eq_zero h
      · obtain ⟨_, h', _⟩ := R.out.2.2 h
        cases h'
    subst hx
    go_enter Tryd.func41, Tryd.ntmps41
    go_wp2
    go_ret
    exact ⟨_, rfl, Ow.nil (Below.refl _ _)⟩
  | some ad =>
    go_enter Tryd.func41, Tryd.ntmps41
    go_wp2_with (at_builtin; refine Held.of ?_)
    refine app_bytes rfl (.tmp 5) (.tmp 6) 22 rfl Tryd.underlying22 _ _ [] xs rfl rfl HE.out ((show Bs w _ xs from ⟨_, _, rfl, hc, R.out⟩).alloc _) (by (try simp only [List.length_append, List.length_nil, List.length_cons]); omega) ?_
    clear HE
    intro va w1 o1 _
    rw [List.nil_append] at o1
    have O1 := Lib.hid o1
    clear o1
    go_wp2
    go_ret
    exact ⟨_, rfl, O1.out⟩
theorem info_u8' : ∃ i, Tryd.prog.info? 5 = some i ∧ i.size = 1 := by
  obtain ⟨i0, hi, hzz⟩ := Option.map_eq_some_iff.1 info_u8
  simp only [Prod.mk.injEq] at hzz
  exact ⟨i0, hi, hzz.2.1⟩
theorem cut_cap (A : Option Addr) (n c m : Nat) (hm : m ≤ c) (W : World) : (Instr.slice 22 (.slice A n c) none (some (.int .i64 (m : Int))) none).run Tryd.prog W = .ok (.slice A m c) W := by
  obtain ⟨i0, hi, hz⟩ := info_u8'
  have hel : Tryd.prog.elem 22 = 5 := by simp [Program.elem, Tryd.underlying22]
  have hu : Tryd.prog.underlying 22 = some (.slice (Tryd.prog.elem 22)) := by rw [hel]; exact Tryd.underlying22
  have ha : (A.map fun x => x.add 0) = A := by cases A <;> simp [Addr.add]
  rw [run_slice_h W 22 A n c hu .i64 (m : Int) (by omega) (by omega), hel]
  simp [sizeOf, typeInfo, hi, hz, sliced, Result.andThen, ha]

set_option maxHeartbeats 800000 in
/-- slices.Grow of a row of the call's own. -/
theorem grow_any (w0 : World) (v : Value) (xs : List Int) (m : Nat) (w : World) (ho : Ow w0 w v xs) (hm : m ≤ 1000) (hl : xs.length ≤ 140737488300000) :
    Calls Tryd.prog 98 #[v, .int .i64 m] w fun e w' => ∃ v', e = .returned v' ∧ Ow w0 w' v' xs := by
  obtain ⟨A, n, c, rfl, hn⟩ := ho.slice
  obtain ⟨ys, hy1, hy2, hnc, hown⟩ := own_full (hn ▸ ho.own)
  have hcm : c ≤ 9223372036854775807 := by
    have := hown.2
    rcases this with ⟨he, _⟩ | ⟨_, _, _, he, _, _, _, h, _⟩
    · injection he with _ _ h5; omega
    · injection he with _ _ h5; rw [h5]; exact h
  have O := Lib.hid ho
  have F := Lib.hid hown
  have Hn := Lib.hid hn
  have hln : n ≤ 140737488300000 := by omega
  have hnc' : n ≤ c := by omega
  have k1 := cut_cap A n c c (Nat.le_refl _)
  clear ho hown hn
  by_cases hg : (m : Int) - ((c : Int) - (n : Int)) > 0
  · have hw1 : IntKind.i64.wrap ((c : Int) - n) = (c : Int) - n := IntWalk.i64_in _ (by omega)
    have hw2 : IntKind.i64.wrap ((m : Int) - ((c : Int) - n)) = (m : Int) - ((c : Int) - n) := IntWalk.i64_in _ (by omega)
    obtain ⟨j, hj⟩ : ∃ j : Nat, (m : Int) - ((c : Int) - (n : Int)) = (j : Int) := ⟨m - (c - n), by omega⟩
    go_enter Tryd.func98, Tryd.ntmps98
    go_wp2_with (at_builtin; refine Held.of ?_)
    refine app_zeros (w0 := w0) rfl (.tmp 20) (.tmp 21) 22 3 rfl Tryd.underlying22 Tryd.underlying3 _ c j ys rfl rfl F.out O.out.below.size (by omega) ?_
    intro v1 w1 zs hown1 hg1
    have hb1 := O.out.below.grown hg1 O.out.below.size (own_base F.out)
    obtain ⟨A', c', rfl⟩ := own_slice hown1
    have hle := own_le hown1
    have k2 := cut_cap A' (c + j) c' n (by omega)
    have ht := own_take hown1 (m := n) (by omega)
    have hz : (ys ++ zs).take (n * 1) = nums .u8 xs := by
      rw [Nat.mul_one, List.take_append_of_le_length (by omega), Hn.out]
      exact hy2
    rw [hz] at ht
    have hout : Ow w0 w1 (.slice A' n c') xs := ⟨by rw [Hn.out] at ht ⊢; exact ht, hb1⟩
    have OUT := Lib.hid hout
    clear hown1 hg1 hb1 ht hz hout hj
    go_wp2
    go_ret
    exact ⟨_, rfl, OUT.out⟩
  · go_enter Tryd.func98, Tryd.ntmps98
    go_wp2
    go_ret
    exact ⟨_, rfl, O.out⟩

set_option maxHeartbeats 800000 in
theorem put32_any (v : Value) (xs : List Int) (n : Int) (m : Nat) (w : World) (hv : Bs w v xs) (hl : xs.length ≤ 140737488000000) (hm : m ≤ 4) (n0 : 0 ≤ n) (n1 : n < 4294967296) :
    Calls Tryd.prog 85 #[v, .int .u32 n, .int .i64 m] w fun e w' => ∃ v', e = .returned v' ∧ Ow w w' v' (xs ++ leBytes n m) := by
  have HV := Lib.hid hv
  clear hv
  go_enter Tryd.func85, Tryd.ntmps85
  go_wp2_with fail
  refine (clone_any _ _ _ HV.out (by omega)).mono ?_
  rintro e w1 ⟨v1, rfl, o1⟩
  have O1 := Lib.hid o1
  clear o1
  go_wp2_with fail
  refine (grow_any w _ _ _ _ O1.out (by omega) (by omega)).mono ?_
  rintro e w2 ⟨v2, rfl, o2⟩
  have O2 := Lib.hid o2
  clear o2
  go_wp2
  go_loopw [7, 14] (fun v i wr => ∃ k : Nat, k ≤ m ∧ i = .int .i64 k ∧ Ow w wr v (xs ++ leBytes n k)) (fun _ i _ => m - (intOf i).toNat)
  case atStart => exact ⟨0, Nat.zero_le _, rfl, by rw [leBytes_zero, List.append_nil]; exact O2.out⟩
  case round =>
    obtain ⟨k, hk, rfl, ho⟩ := hrel
    have O := Lib.hid ho
    clear ho
    by_cases hlt : k < m
    · have hll : (xs ++ leBytes n k).length + 1 ≤ 140737488355328 := by rw [List.length_append, leBytes_length]; omega
      have HX : Hid (xs ++ leBytes n k ++ [n / 2 ^ (8 * k) % 256] = xs ++ leBytes n (k + 1)) := by
        show _ = _
        rw [leBytes_succ, List.append_assoc]
      go_wp2_with (at_builtin; refine Held.of ?_)
      refine app_byte rfl (.tmp 17) (.tmp 23) 22 rfl Tryd.underlying22 _ (xs ++ leBytes n k) _ rfl rfl O.out hll ?_
      intro v3 w3 o3 _
      rw [HX.out] at o3
      have O3 := Lib.hid o3
      clear o3
      go_wp2
      go_roundw
      case rel => exact ⟨k + 1, by omega, by go_num, O3.out⟩
      case measure => simp [intOf]; omega
    · have hkm : k = m := by omega
      have O4 := Lib.hid (hkm ▸ O.out)
      clear hkm
      go_wp2
      go_ret
      exact ⟨_, rfl, O4.out⟩

end Go.Proofs.YtononoakdebjeaaDoor.Pack
