/- The walk of the law PackPuts. -/
import Derived.Test.YtokempdkfpbpmaaPackRef
import Derived.Test.YtokempdkfpbpmaaWLast
import Derived.ArgAppend
namespace Go.Proofs.Ytokempdkfpbpmaa.Pack
open Go.RowKit Go.Proofs.YtokempdkfpbpmaaW.PrintWords Go.Proofs.YtokempdkfpbpmaaW.PrintLast Go.Proofs.Ytokempdkfpbpmaa.Base
set_option linter.unusedVariables false
set_option linter.unusedSimpArgs false

section
variable {ops : Array Oper} {rest : List Oper} {o : Oper} {a : Act} {Q : Exit → Act → World → Prop}
/-- append onto make([]byte, 0, N), where there is room: the row is known whole. -/
theorem app_room {w0 W : World} (hgd : o.guard = none) (s x : Operand) (t : TypeId)
    (ho : o.op = .call { callee := .builtin .append, args := #[s, x], argTypes := #[t, t] })
    (ht : Try.prog.underlying t = some (.slice 5))
    (g N : Nat) (u : Value) (xs : List Int) (hs : a.eval s = .slice (some ⟨g, 0, none⟩) 0 N) (hx : a.eval x = u)
    (HO : Ow w0 W (.slice (some ⟨g, 0, none⟩) N N) (List.replicate N 0)) (hg : w0.heap.size ≤ g) (HR : Bs W u xs) (hl : xs.length ≤ N)
    (h : ∀ w1, Ow w0 w1 (.slice (some ⟨g, 0, none⟩) N N) (xs ++ List.replicate (N - xs.length) 0) → wpList Try.prog ops Q rest (a.put o.dst (.slice (some ⟨g, 0, none⟩) xs.length N)) w1) :
    Held (wpList Try.prog ops Q (o :: rest) a W) := by
  obtain ⟨A, c, rfl, hc, hr⟩ := HR
  obtain ⟨i0, hi, hzz⟩ := Option.map_eq_some_iff.1 info_u8
  simp only [Prod.mk.injEq] at hzz
  obtain ⟨hz0, hz1, hz2⟩ := hzz
  have hown := HO.own
  rw [List.length_replicate] at hown
  have hrun : ∃ w1, (Builtin.append_ #[t, t] o.type #[.slice (some ⟨g, 0, none⟩) 0 N, .slice A xs.length c]).run Try.prog W = .ok (.slice (some ⟨g, 0, none⟩) xs.length N) w1 ∧ Ow w0 w1 (.slice (some ⟨g, 0, none⟩) N N) (xs ++ List.replicate (N - xs.length) 0) := by
    rcases A with _ | ad
    · have h0 : xs.length = 0 := by
        rcases Nat.eq_zero_or_pos xs.length with h0 | h0
        · exact h0
        · obtain ⟨ad, h', _⟩ := hr.2.2 h0
          cases h'
      obtain rfl : xs = [] := List.eq_nil_of_length_eq_zero h0
      exact ⟨W, by simp [Builtin.append_, run_underlying ht, sizeOf, typeInfo, hi, Builtin.lenOf, Builtin.firstCells, storeCells], by simpa using HO⟩
    · rcases hown.2 with ⟨he, _⟩ | ⟨g', cap, cur, he, hgb, hh, _, hcm, hcs, htk⟩
      · cases he
      · injection he with e1 _ e2
        injection e1 with e1
        injection e1 with e1
        subst e1 e2
        have hcell : ∀ j, j < N → W.cell? ⟨g, j, none⟩ = cur[j]? := fun j _ => cell_of_row W g j cur _ (0, 0) hh
        have hnl : (nums .u8 xs).length = xs.length := by simp [nums]
        have hrow := run_append_room_cells (P := Try.prog) (w := W) t o.type 5 i0 ht hi g 0 0 N ad xs.length c (nums .u8 xs) (by rw [hnl, hz1, Nat.mul_one])
          (by
            intro j v hv
            have hj : j < xs.length := by
              rcases Nat.lt_or_ge j xs.length with h' | h'
              · exact h'
              · rw [List.getElem?_eq_none (by rw [hnl]; exact h')] at hv; cases hv
            obtain ⟨ad', he', hcc⟩ := hr.2.2 (by omega)
            injection he' with he'
            subst he'
            rw [hcc j hj, ← hv]
            simp [nums, List.getElem?_eq_getElem hj, List.getD_eq_getElem?_getD])
          (by intro v hv; obtain ⟨q, _, rfl⟩ := List.mem_map.1 hv; rfl)
          (by omega)
          (by
            intro j hj
            rw [hnl] at hj
            simp only [Nat.zero_mul, Nat.zero_add]
            rw [hcell j (by omega), Array.getElem?_eq_getElem (by omega)]; rfl)
          (by intro j _; simp [World.frozen?, hh])
        rw [Nat.zero_add, Nat.zero_mul, Nat.zero_add] at hrow
        obtain ⟨cur', h3, h4, h5⟩ := setCells_row (nums .u8 xs) 0 W cur hh (by rw [hnl]; omega)
        obtain ⟨s1, s2, s3, s4⟩ := setCells_same g (nums .u8 xs) 0 W
        refine ⟨_, hrow, ⟨?_, ?_⟩⟩
        · have hl2 : (xs ++ List.replicate (N - xs.length) 0).length = N := by rw [List.length_append, List.length_replicate]; omega
          rw [hl2]
          refine ⟨by simp [nums]; omega, .inr ⟨g, N, cur', rfl, hgb, h3, Nat.le_refl _, hcm, by rw [h4]; exact hcs, ?_⟩⟩
          have hcur : cur.toList = nums .u8 (List.replicate N 0) := by
            rw [← htk, List.take_of_length_le (by rw [Array.length_toList]; omega)]
          rw [h5, List.take_zero, List.nil_append, Nat.zero_add, hcur, hnl]
          have e2 : (nums .u8 (List.replicate N 0)).drop xs.length = nums .u8 (List.replicate (N - xs.length) 0) := by simp [nums]
          rw [e2, ← nums_append, List.take_of_length_le (by rw [nums_length, hl2]; omega)]
        · exact HO.below.trans ⟨s1, s2, s3, by rw [s4]; exact Nat.le_refl _, fun k hk => setCells_far _ _ k (by omega)⟩
  obtain ⟨w1, hr1, ho1⟩ := hrun
  refine Held.out (wpList_plain hgd fun K hK => ?_)
  unfold Oper.wp execOp
  simp only [ho, resolve, invoke, builtin, Sem.run_bind, Sem.run_pure, Result.andThen_ok, List.map_toArray, List.map_cons, List.map_nil, hs, hx, hr1]
  exact hK _ _ (h w1 ho1)
end
theorem make_room (n : Nat) (hn : n ≤ 1000) (W : World) : (Instr.makeSlice 22 (.int .i64 0) (.int .i64 ((n : Int) + 20))).run Try.prog W = .ok (.slice (some ⟨W.heap.size, 0, none⟩) 0 (n + 20)) (W.alloc (.cells (madeCells #[.int .u8 0] (n + 20)) 5)) := by
  obtain ⟨i0, hi, hzz⟩ := Option.map_eq_some_iff.1 info_u8
  simp only [Prod.mk.injEq] at hzz
  obtain ⟨hz0, hz1, hz2⟩ := hzz
  have h := run_make (P := Try.prog) W 22 5 i0 (.int .u8 0) Try.underlying22 hi hz0 .i64 .i64 0 ((n : Int) + 20) (by omega) (by omega) (by rw [hz2]; omega) (by omega)
  have e1 : ((n : Int) + 20).toNat = n + 20 := by omega
  rw [e1, hz1, Nat.mul_one] at h
  exact h

theorem full_length (xs : List Int) : (xs ++ List.replicate 20 0 : List Int).length = xs.length + 20 := by rw [List.length_append, List.length_replicate]
theorem full_zero (xs : List Int) (k : Nat) (h0 : xs.length ≤ k) (h1 : k < xs.length + 20) : rd (xs ++ List.replicate 20 0) (k : Int) = 0 := by
  unfold rd
  rw [Int.toNat_natCast, List.getD_eq_getElem?_getD, List.getElem?_append_right h0, List.getElem?_replicate, if_pos (by omega)]; rfl
theorem str_append (xs ys : List Int) : strOfNums (xs ++ ys) = strOfNums xs ++ strOfNums ys := by
  have e : (strOfNums (xs ++ ys)).data.toList = (strOfNums xs ++ strOfNums ys).data.toList := by
    rw [ByteArray.data_append]
    simp [strOfNums]
  have h := Array.toList_inj.1 e
  cases h1 : strOfNums (xs ++ ys); cases h2 : (strOfNums xs ++ strOfNums ys)
  rw [h1, h2] at h
  exact congrArg ByteArray.mk h
theorem le4_mod (N : Int) (h0 : 0 ≤ N) : leBytes (N % 4294967296) 4 = leBytes N 4 := by
  have e : ∀ n : Int, leBytes n 4 = [n % 256, n / 256 % 256, n / 256 / 256 % 256, n / 256 / 256 / 256 % 256] := fun n => by
    rw [leBytes_cons, leBytes_cons, leBytes_cons, leBytes_cons, leBytes_zero]
  rw [e, e]
  have a1 : N % 4294967296 % 256 = N % 256 := by omega
  have a2 : N % 4294967296 / 256 % 256 = N / 256 % 256 := by omega
  have a3 : N % 4294967296 / 256 / 256 % 256 = N / 256 / 256 % 256 := by omega
  have a4 : N % 4294967296 / 256 / 256 / 256 % 256 = N / 256 / 256 / 256 % 256 := by omega
  rw [a1, a2, a3, a4]

theorem number4_any (n : Int) (w : World) (n0 : 0 ≤ n) (n1 : n < 18446744073709551616) :
    Calls Try.prog 26 #[.int .u64 n, .int .i64 4] w fun e w' => ∃ v, e = .returned v ∧ Ow w w' v (leBytes n 4) := number_any n 4 w (by omega) n0 n1
theorem number8_any (n : Int) (w : World) (n0 : 0 ≤ n) (n1 : n < 18446744073709551616) :
    Calls Try.prog 26 #[.int .u64 n, .int .i64 8] w fun e w' => ∃ v, e = .returned v ∧ Ow w w' v (leBytes n 8) := number_any n 8 w (by omega) n0 n1
--BEGIN WALK
set_option maxRecDepth 100000 in
set_option maxHeartbeats 12000000 in
theorem PackPuts_any (A : Option Addr) (c : Nat) (xs : List Int) (N : Int) (s : ByteArray) (L : Nat) (w : World) (r : ReadsInt w .u8 A xs.length xs) (hc : xs.length ≤ c) (hb : Bytes xs) (N0 : 0 ≤ N) (N1 : N < 18446744073709551616) (hs : s.size ≤ 9223372036854775807) (hL : L < 65536) :
    Calls Try.prog 10 #[.agg #[.slice A xs.length c, .int .u64 N, .string s, .int .u16 L]] w fun e w' => e = .returned (.bool true) ∧ Below w.heap.size w w' := by
  have hm := r.2.1
  have R := Lib.hid (show Bs w (.slice A xs.length c) xs from ⟨A, c, rfl, hc, r⟩)
  clear r hb
  by_cases g1 : xs.length ≤ 300
  · by_cases g2 : s.size ≤ 70000
    · have k0 := fun (wx : World) (h : Below w.heap.size w wx) => str_of (R.out.below h)
      have hmk := make_room xs.length (by omega)
      have d1 : decide ((300 : Int) < (xs.length : Int)) = false := decide_eq_false (by omega)
      have d2 : decide ((70000 : Int) < (s.size : Int)) = false := decide_eq_false (by omega)
      go_enter Try.func10, Try.ntmps10
      go_wp2
      go_quiet (fail)
      have hbox : Below w.heap.size w ((w.alloc (.cells #[.slice A xs.length c, .int .u64 N, .string s, .int .u16 L] 37)).drewN nq) := pw_below_drewN (below_alloc (Below.refl _ _) _) _
      have k1 := k0 _ hbox
      go_wp2_with (at_builtin; refine Held.of ?_)
      have om : Ow w (((w.alloc (.cells #[.slice A xs.length c, .int .u64 N, .string s, .int .u16 L] 37)).drewN nq).alloc (.cells (madeCells #[.int .u8 0] (xs.length + 20)) 5)) (.slice (some ⟨w.heap.size + 1, 0, none⟩) (xs.length + 20) (xs.length + 20)) (List.replicate (xs.length + 20) 0) := by
        simpa using Ow.made hbox (xs.length + 20) (by omega)
      have rb := R.out.below (below_alloc hbox (.cells (madeCells #[.int .u8 0] (xs.length + 20)) 5))
      obtain ⟨g, hg⟩ : ∃ g, w.heap.size + 1 = g := ⟨_, rfl⟩
      have hg0 : w.heap.size ≤ g := by omega
      rw [hg] at om ⊢
      refine app_room rfl (.tmp 41) (.tmp 42) 22 rfl Try.underlying22 g (xs.length + 20) _ xs rfl rfl om hg0 rb (by omega) ?_
      clear k0 k1 hmk om rb hbox hg
      intro w1 o1
      rw [show xs.length + 20 - xs.length = 20 from by omega] at o1
      have FR1 := Lib.hid o1
      have br : Bs w1 (.slice (some ⟨g, 0, none⟩) xs.length (xs.length + 20)) xs := by
        have h := o1.own
        rw [full_length] at h
        have h2 := own_take h (m := xs.length) (by omega)
        have e : (nums .u8 (xs ++ List.replicate 20 0)).take (xs.length * 1) = nums .u8 xs := by
          rw [Nat.mul_one, nums_append, List.take_append_of_le_length (by rw [nums_length]; omega), List.take_of_length_le (by rw [nums_length]; omega)]
        rw [e] at h2
        exact Bs.of_own h2 rfl
      have BR1 := Lib.hid br
      clear o1 br
      have n4 : 0 ≤ N % 4294967296 := by omega
      have n5 : N % 4294967296 < 4294967296 := by omega
      go_wp2_with fail
      refine (u32_any _ _ _ _ BR1.out (by omega) n4 n5).mono ?_
      rintro e w2 ⟨vx, rfl, o2⟩
      rw [le4_mod N N0] at o2
      have O2 := Lib.hid o2
      clear o2
      go_wp2_with fail
      refine (u64_any _ _ _ _ (BR1.out.below O2.out.below) (by omega) N0 N1).mono ?_
      rintro e w3 ⟨vy, rfl, o3⟩
      have O3 := Lib.hid o3
      clear o3
      have HB3 := Lib.hid (below_then (below_then FR1.out.below FR1.out.below.size O2.out.below) (below_then FR1.out.below FR1.out.below.size O2.out.below).size O3.out.below)
      go_wp2_with fail
      by_cases g3 : s.size ≤ 65535
      · refine (text_any _ _ s _ ((BR1.out.below O2.out.below).below O3.out.below) (by omega) g3).mono ?_
        rintro e w4 ⟨vz, rfl, o4⟩
        have O4 := Lib.hid o4
        clear o4
        go_wp2_with fail
        refine (reftext_any s _ g3).mono ?_
        rintro e wz ⟨vw, rfl, o5⟩
        have O5 := Lib.hid o5
        clear o5
        have HBZ := Lib.hid (below_then (below_then HB3.out HB3.out.size O4.out.below) (below_then HB3.out HB3.out.size O4.out.below).size O5.out.below)
        have FR := Lib.hid ((((FR1.out.step O2.out.below).step O3.out.below).step O4.out.below).step O5.out.below)
        have BR := Lib.hid ((((BR1.out.below O2.out.below).below O3.out.below).below O4.out.below).below O5.out.below)
        have BX := Lib.hid (((O2.out.bs.below O3.out.below).below O4.out.below).below O5.out.below)
        have BY := Lib.hid ((O3.out.bs.below O4.out.below).below O5.out.below)
        have BZ := Lib.hid (O4.out.bs.below O5.out.below)
        have BW := Lib.hid O5.out.bs
        clear O2 O3 O4 O5 FR1 BR1 HB3
        have hN : xs.length + 20 ≤ 1000 := by omega
        go_wp2
        go_loop [16] (fun i => ∃ k : Nat, xs.length ≤ k ∧ k ≤ xs.length + 20 ∧ i = .int .i64 k) (fun i => xs.length + 20 - (intOf i).toNat)
        case atStart => exact ⟨xs.length, by omega, by omega, rfl⟩
        case round =>
          obtain ⟨k, hk0, hk, rfl⟩ := hrel
          by_cases hlt : k < xs.length + 20
          · obtain ⟨hcell, _⟩ := own_at (W := wz) (g := g) (n := xs.length + 20) (cap := xs.length + 20) (by have := FR.out.own; rw [full_length] at this; exact this) (i := (k : Int)) (by omega) (by omega)
            rw [Int.toNat_natCast, full_zero xs k hk0 hlt] at hcell
            go_wp2
            go_round
            case rel => exact ⟨k + 1, by omega, by omega, by go_num⟩
            case measure => simp [intOf]; omega
          · clear hk0
            obtain ⟨m, hm2, hm3⟩ : ∃ m : Nat, (65435 : Int) + (L : Int) % 200 = (m : Int) ∧ m ≤ 65634 := ⟨65435 + L % 200, by omega, by omega⟩
            have hmk2 := print_make (P := Try.prog) 22 5 .u8 1 Try.underlying22 info_u8 (by decide) m (by omega)
            have hfm := fun W : World => str_of (Ow.made (Below.refl W.heap.size W) m (by omega)).bs
            have hfs : (strOfNums (List.replicate m 0)).size = m := by rw [str_size, List.length_replicate]
            have HFS := Lib.hid hfs
            have HM2 := Lib.hid hm2
            have hfs2 : (strOfNums (List.replicate m 0)).size ≤ 65634 := by omega
            clear hfs
            have k2 := hm2
            clear hm2 hfm
            have hfm := str_of (Ow.made (Below.refl wz.heap.size wz) m (by omega)).bs
            go_wp2_with fail
            obtain ⟨fs, hfs⟩ : ∃ fs, strOfNums (List.replicate m 0) = fs := ⟨_, rfl⟩
            rw [hfs] at HFS hfs2 ⊢
            clear hfm k2 hmk2 hfs
            by_cases g4 : fs.size ≤ 65535
            · refine (text_any _ [] fs _ (Bs.nil _) (by simp) g4).mono ?_
              rintro e wf ⟨vf, rfl, of⟩
              rw [List.nil_append] at of
              obtain ⟨Af, nf, cf, rfl, hnf⟩ := of.slice
              rw [textBytes_length] at hnf
              subst hnf
              have hbf : Below wz.heap.size wz wf := (below_alloc (Below.refl _ _) _).trans (of.below.mono (by simp))
              have HBF := Lib.hid (HBZ.out.trans (hbf.mono HBZ.out.size))
              have kr : ∀ wx, Below wf.heap.size wf wx → (convert 22 9 (.slice (some ⟨g, 0, none⟩) xs.length (xs.length + 20))).run Try.prog wx = .ok (.string (strOfNums xs)) wx := fun wx h => str_of (BR.out.below (hbf.trans (h.mono hbf.size)))
              have kx : ∀ wx, Below wf.heap.size wf wx → (convert 22 9 vx).run Try.prog wx = .ok (.string (strOfNums xs ++ strOfNums (leBytes N 4))) wx := fun wx h => by rw [← str_append]; exact str_of (BX.out.below (hbf.trans (h.mono hbf.size)))
              have ky : ∀ wx, Below wf.heap.size wf wx → (convert 22 9 vy).run Try.prog wx = .ok (.string (strOfNums xs ++ strOfNums (leBytes N 8))) wx := fun wx h => by rw [← str_append]; exact str_of (BY.out.below (hbf.trans (h.mono hbf.size)))
              have kz : ∀ wx, Below wf.heap.size wf wx → (convert 22 9 vz).run Try.prog wx = .ok (.string (strOfNums xs ++ strOfNums (textBytes s))) wx := fun wx h => by rw [← str_append]; exact str_of (BZ.out.below (hbf.trans (h.mono hbf.size)))
              have kw : ∀ wx, Below wf.heap.size wf wx → (convert 22 9 vw).run Try.prog wx = .ok (.string (strOfNums (textBytes s))) wx := fun wx h => str_of (BW.out.below (hbf.trans (h.mono hbf.size)))
              go_wp2
              have zx : (strOfNums xs).size = xs.length := str_size xs
              have z4 : ¬ 9223372036854775807 < (strOfNums xs).size + (strOfNums (leBytes N 4)).size := by rw [zx, str_size, leBytes_length]; omega
              have z8 : ¬ 9223372036854775807 < (strOfNums xs).size + (strOfNums (leBytes N 8)).size := by rw [zx, str_size, leBytes_length]; omega
              have zt : ¬ 9223372036854775807 < (strOfNums xs).size + (strOfNums (textBytes s)).size := by rw [zx, str_size, textBytes_length]; omega
              clear zx
              refine start_ (n := 24) (S := fun w' => Below wf.heap.size wf w' ∧ (convert 22 9 (.slice (some ⟨g, 0, none⟩) xs.length (xs.length + 20))).run Try.prog w' = .ok (.string (strOfNums xs)) w' ∧ (convert 22 9 (vx)).run Try.prog w' = .ok (.string (strOfNums xs ++ strOfNums (leBytes N 4))) w' ∧ (convert 22 9 (vy)).run Try.prog w' = .ok (.string (strOfNums xs ++ strOfNums (leBytes N 8))) w') (ds := []) #[false, false, false, false, false, false, false, false, false, false, false, false, false, false, false, false, false, false, false, false, false, false, false, false] (by kernel_rfl) rfl rfl ⟨Below.drew (Below.refl _ _), kr _ (Below.drew (Below.refl _ _)), kx _ (Below.drew (Below.refl _ _)), ky _ (Below.drew (Below.refl _ _))⟩ (fun hHeld => ?_)
              refine pure_ (i := 0) (N := some 122) (v := ?_) (a' := ?_) #[true, false, false, false, false, false, false, false, false, false, false, false, false, false, false, false, false, false, false, false, false, false, false, false] rfl rfl (by kernel_rfl) (fun _ _ _ h => h) (Or.inl ⟨by rfl, ?_⟩) ?_ ?_
              rotate_left
              · intro w'
                go_simp
                with_reducible rfl
              rotate_left
              · simp only [Act.put, List.setIfInBounds_toArray, List.set_cons_zero, List.set_cons_succ, i64_w, i32_w]
                rfl
              refine pure_ (i := 2) (N := some 124) (v := ?_) (a' := ?_) #[true, false, true, false, false, false, false, false, false, false, false, false, false, false, false, false, false, false, false, false, false, false, false, false] rfl rfl (by kernel_rfl) (fun _ _ _ h => h) (Or.inl ⟨by rfl, ?_⟩) ?_ ?_
              rotate_left
              · intro w'
                go_simp
                with_reducible rfl
              rotate_left
              · simp only [Act.put, List.setIfInBounds_toArray, List.set_cons_zero, List.set_cons_succ, i64_w, i32_w]
                rfl
              refine take_ (i := 1) (N := some 123) (v := ?_) (a' := ?_) #[true, true, true, false, false, false, false, false, false, false, false, false, false, false, false, false, false, false, false, false, false, false, false, false] rfl rfl (by kernel_rfl) (fun _ _ _ h => h) (Or.inl ⟨by rfl, ?_⟩) hHeld ?_ ?_
              rotate_left
              · rintro w' ⟨s0, s1, s2, s3⟩
                go_simp
                with_reducible rfl
              rotate_left
              · simp only [Act.put, List.setIfInBounds_toArray, List.set_cons_zero, List.set_cons_succ, i64_w, i32_w]
                rfl
              refine pure_ (i := 3) (N := some 125) (v := ?_) (a' := ?_) #[true, true, true, true, false, false, false, false, false, false, false, false, false, false, false, false, false, false, false, false, false, false, false, false] rfl rfl (by kernel_rfl) (fun _ _ _ h => h) (Or.inl ⟨by rfl, ?_⟩) ?_ ?_
              rotate_left
              · intro w'
                go_simp
                with_reducible rfl
              rotate_left
              · simp only [Act.put, List.setIfInBounds_toArray, List.set_cons_zero, List.set_cons_succ, i64_w, i32_w]
                rfl
              refine pure_ (i := 4) (N := some 126) (v := ?_) (a' := ?_) #[true, true, true, true, true, false, false, false, false, false, false, false, false, false, false, false, false, false, false, false, false, false, false, false] rfl rfl (by kernel_rfl) (fun _ _ _ h => h) (Or.inl ⟨by rfl, ?_⟩) ?_ ?_
              rotate_left
              · intro w'
                go_simp
                with_reducible rfl
              rotate_left
              · simp only [Act.put, List.setIfInBounds_toArray, List.set_cons_zero, List.set_cons_succ, i64_w, i32_w]
                rfl
              refine pure_ (i := 5) (N := some 127) (v := ?_) (a' := ?_) #[true, true, true, true, true, true, false, false, false, false, false, false, false, false, false, false, false, false, false, false, false, false, false, false] rfl rfl (by kernel_rfl) (fun _ _ _ h => h) (Or.inl ⟨by rfl, ?_⟩) ?_ ?_
              rotate_left
              · intro w'
                go_simp
                with_reducible rfl
              rotate_left
              · simp only [Act.put, List.setIfInBounds_toArray, List.set_cons_zero, List.set_cons_succ, i64_w, i32_w]
                rfl
              refine pure_ (i := 7) (N := some 129) (v := ?_) (a' := ?_) #[true, true, true, true, true, true, false, true, false, false, false, false, false, false, false, false, false, false, false, false, false, false, false, false] rfl rfl (by kernel_rfl) (fun _ _ _ h => h) (Or.inl ⟨by rfl, ?_⟩) ?_ ?_
              rotate_left
              · intro w'
                go_simp
                with_reducible rfl
              rotate_left
              · simp only [Act.put, List.setIfInBounds_toArray, List.set_cons_zero, List.set_cons_succ, i64_w, i32_w]
                rfl
              refine pure_ (i := 8) (N := some 130) (v := ?_) (a' := ?_) #[true, true, true, true, true, true, false, true, true, false, false, false, false, false, false, false, false, false, false, false, false, false, false, false] rfl rfl (by kernel_rfl) (fun _ _ _ h => h) (Or.inl ⟨by rfl, ?_⟩) ?_ ?_
              rotate_left
              · intro w'
                go_simp
                with_reducible rfl
              rotate_left
              · simp only [Act.put, List.setIfInBounds_toArray, List.set_cons_zero, List.set_cons_succ, i64_w, i32_w]
                rfl
              refine take_ (i := 6) (N := some 128) (v := ?_) (a' := ?_) #[true, true, true, true, true, true, true, true, true, false, false, false, false, false, false, false, false, false, false, false, false, false, false, false] rfl rfl (by kernel_rfl) (fun _ _ _ h => h) (Or.inl ⟨by rfl, ?_⟩) hHeld ?_ ?_
              rotate_left
              · rintro w' ⟨s0, s1, s2, s3⟩
                go_simp
                with_reducible rfl
              rotate_left
              · simp only [Act.put, List.setIfInBounds_toArray, List.set_cons_zero, List.set_cons_succ, i64_w, i32_w]
                rfl
              refine one_ (i := 9) (N := some 131) #[true, true, true, true, true, true, true, true, true, true, false, false, false, false, false, false, false, false, false, false, false, false, false, false] rfl rfl (by kernel_rfl) (by decide) (fun K hK => ?_)
              refine goes_ Try.func26 (by kernel_rfl) rfl #[.int .u64 N, .int .i64 4] (by rfl) rfl rfl (by first | (simp only [List.map_toArray, List.map_cons, List.map_nil]; done) | (simp only [List.map_toArray, List.map_cons, List.map_nil]; rfl) | rfl) ?_
              with_reducible refine (number4_any N _ N0 N1).mono ?_
              rintro e w3 ⟨v91, rfl, o91⟩
              refine ⟨_, rfl, ?_⟩
              have hb3 := hHeld.1.trans (o91.below.mono hHeld.1.size)
              have k91 := str_of o91.bs
              refine hK.out _ _ ⟨hb3, kr _ hb3, kx _ hb3, ky _ hb3⟩ (fun hHeld => ?_)
              clear hK K
              refine norm_ (a' := ?_) ?_ ?_
              rotate_left
              · show Act.put _ (some 131) _ = _
                simp only [Act.put, List.setIfInBounds_toArray, List.set_cons_zero, List.set_cons_succ, i64_w, i32_w]
                rfl
              refine one_ (i := 10) (N := some 132) #[true, true, true, true, true, true, true, true, true, true, true, false, false, false, false, false, false, false, false, false, false, false, false, false] rfl rfl (by kernel_rfl) (by decide) (fun K hK => ?_)
              refine value_ (w1 := ?_) (v := ?_) (by rfl) rfl ?_ ?_
              rotate_left 2
              · go_simp
                constructor
                · rfl
                · rfl
              refine hK.out _ _ ⟨hHeld.1, kr _ hHeld.1, kx _ hHeld.1, ky _ hHeld.1⟩ (fun hHeld => ?_)
              clear hK K
              refine norm_ (a' := ?_) ?_ ?_
              rotate_left
              · show Act.put _ (some 132) _ = _
                simp only [Act.put, List.setIfInBounds_toArray, List.set_cons_zero, List.set_cons_succ, i64_w, i32_w]
                rfl
              refine pure_ (i := 11) (N := some 133) (v := ?_) (a' := ?_) #[true, true, true, true, true, true, true, true, true, true, true, true, false, false, false, false, false, false, false, false, false, false, false, false] rfl rfl (by kernel_rfl) (fun _ _ _ h => h) (Or.inl ⟨by rfl, ?_⟩) ?_ ?_
              rotate_left
              · intro w'
                go_simp
                with_reducible rfl
              rotate_left
              · simp only [Act.put, List.setIfInBounds_toArray, List.set_cons_zero, List.set_cons_succ, i64_w, i32_w]
                rfl
              refine pure_ (i := 12) (N := some 134) (v := ?_) (a' := ?_) #[true, true, true, true, true, true, true, true, true, true, true, true, true, false, false, false, false, false, false, false, false, false, false, false] rfl rfl (by kernel_rfl) (fun _ _ _ h => h) (Or.inl ⟨by rfl, ?_⟩) ?_ ?_
              rotate_left
              · intro w'
                go_simp
                with_reducible rfl
              rotate_left
              · simp only [Act.put, List.setIfInBounds_toArray, List.set_cons_zero, List.set_cons_succ, i64_w, i32_w]
                rfl
              refine pure_ (i := 13) (N := some 135) (v := ?_) (a' := ?_) #[true, true, true, true, true, true, true, true, true, true, true, true, true, true, false, false, false, false, false, false, false, false, false, false] rfl rfl (by kernel_rfl) (fun _ _ _ h => h) (Or.inl ⟨by rfl, ?_⟩) ?_ ?_
              rotate_left
              · intro w'
                go_simp
                with_reducible rfl
              rotate_left
              · simp only [Act.put, List.setIfInBounds_toArray, List.set_cons_zero, List.set_cons_succ, i64_w, i32_w]
                rfl
              refine pure_ (i := 14) (N := some 136) (v := ?_) (a' := ?_) #[true, true, true, true, true, true, true, true, true, true, true, true, true, true, true, false, false, false, false, false, false, false, false, false] rfl rfl (by kernel_rfl) (fun _ _ _ h => h) (Or.inl ⟨by rfl, ?_⟩) ?_ ?_
              rotate_left
              · intro w'
                go_simp
                with_reducible rfl
              rotate_left
              · simp only [Act.put, List.setIfInBounds_toArray, List.set_cons_zero, List.set_cons_succ, i64_w, i32_w]
                rfl
              refine pure_ (i := 15) (N := some 137) (v := ?_) (a' := ?_) #[true, true, true, true, true, true, true, true, true, true, true, true, true, true, true, true, false, false, false, false, false, false, false, false] rfl rfl (by kernel_rfl) (fun _ _ _ h => h) (Or.inl ⟨by rfl, ?_⟩) ?_ ?_
              rotate_left
              · intro w'
                go_simp
                with_reducible rfl
              rotate_left
              · simp only [Act.put, List.setIfInBounds_toArray, List.set_cons_zero, List.set_cons_succ, i64_w, i32_w]
                rfl
              refine pure_ (i := 17) (N := some 139) (v := ?_) (a' := ?_) #[true, true, true, true, true, true, true, true, true, true, true, true, true, true, true, true, false, true, false, false, false, false, false, false] rfl rfl (by kernel_rfl) (fun _ _ _ h => h) (Or.inl ⟨by rfl, ?_⟩) ?_ ?_
              rotate_left
              · intro w'
                go_simp
                with_reducible rfl
              rotate_left
              · simp only [Act.put, List.setIfInBounds_toArray, List.set_cons_zero, List.set_cons_succ, i64_w, i32_w]
                rfl
              refine pure_ (i := 18) (N := some 140) (v := ?_) (a' := ?_) #[true, true, true, true, true, true, true, true, true, true, true, true, true, true, true, true, false, true, true, false, false, false, false, false] rfl rfl (by kernel_rfl) (fun _ _ _ h => h) (Or.inl ⟨by rfl, ?_⟩) ?_ ?_
              rotate_left
              · intro w'
                go_simp
                with_reducible rfl
              rotate_left
              · simp only [Act.put, List.setIfInBounds_toArray, List.set_cons_zero, List.set_cons_succ, i64_w, i32_w]
                rfl
              refine take_ (i := 16) (N := some 138) (v := ?_) (a' := ?_) #[true, true, true, true, true, true, true, true, true, true, true, true, true, true, true, true, true, true, true, false, false, false, false, false] rfl rfl (by kernel_rfl) (fun _ _ _ h => h) (Or.inl ⟨by rfl, ?_⟩) hHeld ?_ ?_
              rotate_left
              · rintro w' ⟨s0, s1, s2, s3⟩
                go_simp
                with_reducible rfl
              rotate_left
              · simp only [Act.put, List.setIfInBounds_toArray, List.set_cons_zero, List.set_cons_succ, i64_w, i32_w]
                rfl
              refine one_ (i := 19) (N := some 141) #[true, true, true, true, true, true, true, true, true, true, true, true, true, true, true, true, true, true, true, true, false, false, false, false] rfl rfl (by kernel_rfl) (by decide) (fun K hK => ?_)
              refine goes_ Try.func26 (by kernel_rfl) rfl #[.int .u64 N, .int .i64 8] (by rfl) rfl rfl (by first | (simp only [List.map_toArray, List.map_cons, List.map_nil]; done) | (simp only [List.map_toArray, List.map_cons, List.map_nil]; rfl) | rfl) ?_
              with_reducible refine (number8_any N _ N0 N1).mono ?_
              rintro e w3 ⟨v92, rfl, o92⟩
              refine ⟨_, rfl, ?_⟩
              have hb3 := hHeld.1.trans (o92.below.mono hHeld.1.size)
              have k92 := str_of o92.bs
              refine hK.out _ _ ⟨hb3, kr _ hb3, kx _ hb3, ky _ hb3⟩ (fun hHeld => ?_)
              clear hK K
              refine norm_ (a' := ?_) ?_ ?_
              rotate_left
              · show Act.put _ (some 141) _ = _
                simp only [Act.put, List.setIfInBounds_toArray, List.set_cons_zero, List.set_cons_succ, i64_w, i32_w]
                rfl
              refine one_ (i := 20) (N := some 142) #[true, true, true, true, true, true, true, true, true, true, true, true, true, true, true, true, true, true, true, true, true, false, false, false] rfl rfl (by kernel_rfl) (by decide) (fun K hK => ?_)
              refine value_ (w1 := ?_) (v := ?_) (by rfl) rfl ?_ ?_
              rotate_left 2
              · go_simp
                constructor
                · rfl
                · rfl
              refine hK.out _ _ ⟨hHeld.1, kr _ hHeld.1, kx _ hHeld.1, ky _ hHeld.1⟩ (fun hHeld => ?_)
              clear hK K
              refine norm_ (a' := ?_) ?_ ?_
              rotate_left
              · show Act.put _ (some 142) _ = _
                simp only [Act.put, List.setIfInBounds_toArray, List.set_cons_zero, List.set_cons_succ, i64_w, i32_w]
                rfl
              refine pure_ (i := 21) (N := some 143) (v := ?_) (a' := ?_) #[true, true, true, true, true, true, true, true, true, true, true, true, true, true, true, true, true, true, true, true, true, true, false, false] rfl rfl (by kernel_rfl) (fun _ _ _ h => h) (Or.inl ⟨by rfl, ?_⟩) ?_ ?_
              rotate_left
              · intro w'
                go_simp
                with_reducible rfl
              rotate_left
              · simp only [Act.put, List.setIfInBounds_toArray, List.set_cons_zero, List.set_cons_succ, i64_w, i32_w]
                rfl
              refine pure_ (i := 22) (N := some 144) (v := ?_) (a' := ?_) #[true, true, true, true, true, true, true, true, true, true, true, true, true, true, true, true, true, true, true, true, true, true, true, false] rfl rfl (by kernel_rfl) (fun _ _ _ h => h) (Or.inl ⟨by rfl, ?_⟩) ?_ ?_
              rotate_left
              · intro w'
                go_simp
                with_reducible rfl
              rotate_left
              · simp only [Act.put, List.setIfInBounds_toArray, List.set_cons_zero, List.set_cons_succ, i64_w, i32_w]
                rfl
              refine pure_ (i := 23) (N := some 145) (v := ?_) (a' := ?_) #[true, true, true, true, true, true, true, true, true, true, true, true, true, true, true, true, true, true, true, true, true, true, true, true] rfl rfl (by kernel_rfl) (fun _ _ _ h => h) (Or.inl ⟨by rfl, ?_⟩) ?_ ?_
              rotate_left
              · intro w'
                go_simp
                with_reducible rfl
              rotate_left
              · simp only [Act.put, List.setIfInBounds_toArray, List.set_cons_zero, List.set_cons_succ, i64_w, i32_w]
                rfl
              refine done_ (by kernel_rfl) ?_
              have q1 := kz _ hHeld.1
              have q2 := kw _ hHeld.1
              go_wp2_with fail
              refine (awake_any _).mono ?_
              rintro e wa ⟨rfl, hba⟩
              go_wp2_with fail
              go_ret
              exact ⟨rfl, (HBF.out.trans (hHeld.1.mono HBF.out.size)).trans (hba.mono (HBF.out.trans (hHeld.1.mono HBF.out.size)).size)⟩
            · refine (text_long _ fs _ (by omega) (by omega)).mono ?_
              rintro e wf ⟨rfl, hwf⟩
              have hbf : Below wz.heap.size wz wf := by rw [← hwf]; exact below_alloc (Below.refl _ _) _
              clear hwf
              have HBF := Lib.hid (HBZ.out.trans (hbf.mono HBZ.out.size))
              have kr : ∀ wx, Below wf.heap.size wf wx → (convert 22 9 (.slice (some ⟨g, 0, none⟩) xs.length (xs.length + 20))).run Try.prog wx = .ok (.string (strOfNums xs)) wx := fun wx h => str_of (BR.out.below (hbf.trans (h.mono hbf.size)))
              have kx : ∀ wx, Below wf.heap.size wf wx → (convert 22 9 vx).run Try.prog wx = .ok (.string (strOfNums xs ++ strOfNums (leBytes N 4))) wx := fun wx h => by rw [← str_append]; exact str_of (BX.out.below (hbf.trans (h.mono hbf.size)))
              have ky : ∀ wx, Below wf.heap.size wf wx → (convert 22 9 vy).run Try.prog wx = .ok (.string (strOfNums xs ++ strOfNums (leBytes N 8))) wx := fun wx h => by rw [← str_append]; exact str_of (BY.out.below (hbf.trans (h.mono hbf.size)))
              have kz : ∀ wx, Below wf.heap.size wf wx → (convert 22 9 vz).run Try.prog wx = .ok (.string (strOfNums xs ++ strOfNums (textBytes s))) wx := fun wx h => by rw [← str_append]; exact str_of (BZ.out.below (hbf.trans (h.mono hbf.size)))
              have kw : ∀ wx, Below wf.heap.size wf wx → (convert 22 9 vw).run Try.prog wx = .ok (.string (strOfNums (textBytes s))) wx := fun wx h => str_of (BW.out.below (hbf.trans (h.mono hbf.size)))
              go_wp2
              have zx : (strOfNums xs).size = xs.length := str_size xs
              have z4 : ¬ 9223372036854775807 < (strOfNums xs).size + (strOfNums (leBytes N 4)).size := by rw [zx, str_size, leBytes_length]; omega
              have z8 : ¬ 9223372036854775807 < (strOfNums xs).size + (strOfNums (leBytes N 8)).size := by rw [zx, str_size, leBytes_length]; omega
              have zt : ¬ 9223372036854775807 < (strOfNums xs).size + (strOfNums (textBytes s)).size := by rw [zx, str_size, textBytes_length]; omega
              clear zx
              refine start_ (n := 24) (S := fun w' => Below wf.heap.size wf w' ∧ (convert 22 9 (.slice (some ⟨g, 0, none⟩) xs.length (xs.length + 20))).run Try.prog w' = .ok (.string (strOfNums xs)) w' ∧ (convert 22 9 (vx)).run Try.prog w' = .ok (.string (strOfNums xs ++ strOfNums (leBytes N 4))) w' ∧ (convert 22 9 (vy)).run Try.prog w' = .ok (.string (strOfNums xs ++ strOfNums (leBytes N 8))) w') (ds := []) #[false, false, false, false, false, false, false, false, false, false, false, false, false, false, false, false, false, false, false, false, false, false, false, false] (by kernel_rfl) rfl rfl ⟨Below.drew (Below.refl _ _), kr _ (Below.drew (Below.refl _ _)), kx _ (Below.drew (Below.refl _ _)), ky _ (Below.drew (Below.refl _ _))⟩ (fun hHeld => ?_)
              refine pure_ (i := 0) (N := some 122) (v := ?_) (a' := ?_) #[true, false, false, false, false, false, false, false, false, false, false, false, false, false, false, false, false, false, false, false, false, false, false, false] rfl rfl (by kernel_rfl) (fun _ _ _ h => h) (Or.inl ⟨by rfl, ?_⟩) ?_ ?_
              rotate_left
              · intro w'
                go_simp
                with_reducible rfl
              rotate_left
              · simp only [Act.put, List.setIfInBounds_toArray, List.set_cons_zero, List.set_cons_succ, i64_w, i32_w]
                rfl
              refine pure_ (i := 2) (N := some 124) (v := ?_) (a' := ?_) #[true, false, true, false, false, false, false, false, false, false, false, false, false, false, false, false, false, false, false, false, false, false, false, false] rfl rfl (by kernel_rfl) (fun _ _ _ h => h) (Or.inl ⟨by rfl, ?_⟩) ?_ ?_
              rotate_left
              · intro w'
                go_simp
                with_reducible rfl
              rotate_left
              · simp only [Act.put, List.setIfInBounds_toArray, List.set_cons_zero, List.set_cons_succ, i64_w, i32_w]
                rfl
              refine take_ (i := 1) (N := some 123) (v := ?_) (a' := ?_) #[true, true, true, false, false, false, false, false, false, false, false, false, false, false, false, false, false, false, false, false, false, false, false, false] rfl rfl (by kernel_rfl) (fun _ _ _ h => h) (Or.inl ⟨by rfl, ?_⟩) hHeld ?_ ?_
              rotate_left
              · rintro w' ⟨s0, s1, s2, s3⟩
                go_simp
                with_reducible rfl
              rotate_left
              · simp only [Act.put, List.setIfInBounds_toArray, List.set_cons_zero, List.set_cons_succ, i64_w, i32_w]
                rfl
              refine pure_ (i := 3) (N := some 125) (v := ?_) (a' := ?_) #[true, true, true, true, false, false, false, false, false, false, false, false, false, false, false, false, false, false, false, false, false, false, false, false] rfl rfl (by kernel_rfl) (fun _ _ _ h => h) (Or.inl ⟨by rfl, ?_⟩) ?_ ?_
              rotate_left
              · intro w'
                go_simp
                with_reducible rfl
              rotate_left
              · simp only [Act.put, List.setIfInBounds_toArray, List.set_cons_zero, List.set_cons_succ, i64_w, i32_w]
                rfl
              refine pure_ (i := 4) (N := some 126) (v := ?_) (a' := ?_) #[true, true, true, true, true, false, false, false, false, false, false, false, false, false, false, false, false, false, false, false, false, false, false, false] rfl rfl (by kernel_rfl) (fun _ _ _ h => h) (Or.inl ⟨by rfl, ?_⟩) ?_ ?_
              rotate_left
              · intro w'
                go_simp
                with_reducible rfl
              rotate_left
              · simp only [Act.put, List.setIfInBounds_toArray, List.set_cons_zero, List.set_cons_succ, i64_w, i32_w]
                rfl
              refine pure_ (i := 5) (N := some 127) (v := ?_) (a' := ?_) #[true, true, true, true, true, true, false, false, false, false, false, false, false, false, false, false, false, false, false, false, false, false, false, false] rfl rfl (by kernel_rfl) (fun _ _ _ h => h) (Or.inl ⟨by rfl, ?_⟩) ?_ ?_
              rotate_left
              · intro w'
                go_simp
                with_reducible rfl
              rotate_left
              · simp only [Act.put, List.setIfInBounds_toArray, List.set_cons_zero, List.set_cons_succ, i64_w, i32_w]
                rfl
              refine pure_ (i := 7) (N := some 129) (v := ?_) (a' := ?_) #[true, true, true, true, true, true, false, true, false, false, false, false, false, false, false, false, false, false, false, false, false, false, false, false] rfl rfl (by kernel_rfl) (fun _ _ _ h => h) (Or.inl ⟨by rfl, ?_⟩) ?_ ?_
              rotate_left
              · intro w'
                go_simp
                with_reducible rfl
              rotate_left
              · simp only [Act.put, List.setIfInBounds_toArray, List.set_cons_zero, List.set_cons_succ, i64_w, i32_w]
                rfl
              refine pure_ (i := 8) (N := some 130) (v := ?_) (a' := ?_) #[true, true, true, true, true, true, false, true, true, false, false, false, false, false, false, false, false, false, false, false, false, false, false, false] rfl rfl (by kernel_rfl) (fun _ _ _ h => h) (Or.inl ⟨by rfl, ?_⟩) ?_ ?_
              rotate_left
              · intro w'
                go_simp
                with_reducible rfl
              rotate_left
              · simp only [Act.put, List.setIfInBounds_toArray, List.set_cons_zero, List.set_cons_succ, i64_w, i32_w]
                rfl
              refine take_ (i := 6) (N := some 128) (v := ?_) (a' := ?_) #[true, true, true, true, true, true, true, true, true, false, false, false, false, false, false, false, false, false, false, false, false, false, false, false] rfl rfl (by kernel_rfl) (fun _ _ _ h => h) (Or.inl ⟨by rfl, ?_⟩) hHeld ?_ ?_
              rotate_left
              · rintro w' ⟨s0, s1, s2, s3⟩
                go_simp
                with_reducible rfl
              rotate_left
              · simp only [Act.put, List.setIfInBounds_toArray, List.set_cons_zero, List.set_cons_succ, i64_w, i32_w]
                rfl
              refine one_ (i := 9) (N := some 131) #[true, true, true, true, true, true, true, true, true, true, false, false, false, false, false, false, false, false, false, false, false, false, false, false] rfl rfl (by kernel_rfl) (by decide) (fun K hK => ?_)
              refine goes_ Try.func26 (by kernel_rfl) rfl #[.int .u64 N, .int .i64 4] (by rfl) rfl rfl (by first | (simp only [List.map_toArray, List.map_cons, List.map_nil]; done) | (simp only [List.map_toArray, List.map_cons, List.map_nil]; rfl) | rfl) ?_
              with_reducible refine (number4_any N _ N0 N1).mono ?_
              rintro e w3 ⟨v91, rfl, o91⟩
              refine ⟨_, rfl, ?_⟩
              have hb3 := hHeld.1.trans (o91.below.mono hHeld.1.size)
              have k91 := str_of o91.bs
              refine hK.out _ _ ⟨hb3, kr _ hb3, kx _ hb3, ky _ hb3⟩ (fun hHeld => ?_)
              clear hK K
              refine norm_ (a' := ?_) ?_ ?_
              rotate_left
              · show Act.put _ (some 131) _ = _
                simp only [Act.put, List.setIfInBounds_toArray, List.set_cons_zero, List.set_cons_succ, i64_w, i32_w]
                rfl
              refine one_ (i := 10) (N := some 132) #[true, true, true, true, true, true, true, true, true, true, true, false, false, false, false, false, false, false, false, false, false, false, false, false] rfl rfl (by kernel_rfl) (by decide) (fun K hK => ?_)
              refine value_ (w1 := ?_) (v := ?_) (by rfl) rfl ?_ ?_
              rotate_left 2
              · go_simp
                constructor
                · rfl
                · rfl
              refine hK.out _ _ ⟨hHeld.1, kr _ hHeld.1, kx _ hHeld.1, ky _ hHeld.1⟩ (fun hHeld => ?_)
              clear hK K
              refine norm_ (a' := ?_) ?_ ?_
              rotate_left
              · show Act.put _ (some 132) _ = _
                simp only [Act.put, List.setIfInBounds_toArray, List.set_cons_zero, List.set_cons_succ, i64_w, i32_w]
                rfl
              refine pure_ (i := 11) (N := some 133) (v := ?_) (a' := ?_) #[true, true, true, true, true, true, true, true, true, true, true, true, false, false, false, false, false, false, false, false, false, false, false, false] rfl rfl (by kernel_rfl) (fun _ _ _ h => h) (Or.inl ⟨by rfl, ?_⟩) ?_ ?_
              rotate_left
              · intro w'
                go_simp
                with_reducible rfl
              rotate_left
              · simp only [Act.put, List.setIfInBounds_toArray, List.set_cons_zero, List.set_cons_succ, i64_w, i32_w]
                rfl
              refine pure_ (i := 12) (N := some 134) (v := ?_) (a' := ?_) #[true, true, true, true, true, true, true, true, true, true, true, true, true, false, false, false, false, false, false, false, false, false, false, false] rfl rfl (by kernel_rfl) (fun _ _ _ h => h) (Or.inl ⟨by rfl, ?_⟩) ?_ ?_
              rotate_left
              · intro w'
                go_simp
                with_reducible rfl
              rotate_left
              · simp only [Act.put, List.setIfInBounds_toArray, List.set_cons_zero, List.set_cons_succ, i64_w, i32_w]
                rfl
              refine pure_ (i := 13) (N := some 135) (v := ?_) (a' := ?_) #[true, true, true, true, true, true, true, true, true, true, true, true, true, true, false, false, false, false, false, false, false, false, false, false] rfl rfl (by kernel_rfl) (fun _ _ _ h => h) (Or.inl ⟨by rfl, ?_⟩) ?_ ?_
              rotate_left
              · intro w'
                go_simp
                with_reducible rfl
              rotate_left
              · simp only [Act.put, List.setIfInBounds_toArray, List.set_cons_zero, List.set_cons_succ, i64_w, i32_w]
                rfl
              refine pure_ (i := 14) (N := some 136) (v := ?_) (a' := ?_) #[true, true, true, true, true, true, true, true, true, true, true, true, true, true, true, false, false, false, false, false, false, false, false, false] rfl rfl (by kernel_rfl) (fun _ _ _ h => h) (Or.inl ⟨by rfl, ?_⟩) ?_ ?_
              rotate_left
              · intro w'
                go_simp
                with_reducible rfl
              rotate_left
              · simp only [Act.put, List.setIfInBounds_toArray, List.set_cons_zero, List.set_cons_succ, i64_w, i32_w]
                rfl
              refine pure_ (i := 15) (N := some 137) (v := ?_) (a' := ?_) #[true, true, true, true, true, true, true, true, true, true, true, true, true, true, true, true, false, false, false, false, false, false, false, false] rfl rfl (by kernel_rfl) (fun _ _ _ h => h) (Or.inl ⟨by rfl, ?_⟩) ?_ ?_
              rotate_left
              · intro w'
                go_simp
                with_reducible rfl
              rotate_left
              · simp only [Act.put, List.setIfInBounds_toArray, List.set_cons_zero, List.set_cons_succ, i64_w, i32_w]
                rfl
              refine pure_ (i := 17) (N := some 139) (v := ?_) (a' := ?_) #[true, true, true, true, true, true, true, true, true, true, true, true, true, true, true, true, false, true, false, false, false, false, false, false] rfl rfl (by kernel_rfl) (fun _ _ _ h => h) (Or.inl ⟨by rfl, ?_⟩) ?_ ?_
              rotate_left
              · intro w'
                go_simp
                with_reducible rfl
              rotate_left
              · simp only [Act.put, List.setIfInBounds_toArray, List.set_cons_zero, List.set_cons_succ, i64_w, i32_w]
                rfl
              refine pure_ (i := 18) (N := some 140) (v := ?_) (a' := ?_) #[true, true, true, true, true, true, true, true, true, true, true, true, true, true, true, true, false, true, true, false, false, false, false, false] rfl rfl (by kernel_rfl) (fun _ _ _ h => h) (Or.inl ⟨by rfl, ?_⟩) ?_ ?_
              rotate_left
              · intro w'
                go_simp
                with_reducible rfl
              rotate_left
              · simp only [Act.put, List.setIfInBounds_toArray, List.set_cons_zero, List.set_cons_succ, i64_w, i32_w]
                rfl
              refine take_ (i := 16) (N := some 138) (v := ?_) (a' := ?_) #[true, true, true, true, true, true, true, true, true, true, true, true, true, true, true, true, true, true, true, false, false, false, false, false] rfl rfl (by kernel_rfl) (fun _ _ _ h => h) (Or.inl ⟨by rfl, ?_⟩) hHeld ?_ ?_
              rotate_left
              · rintro w' ⟨s0, s1, s2, s3⟩
                go_simp
                with_reducible rfl
              rotate_left
              · simp only [Act.put, List.setIfInBounds_toArray, List.set_cons_zero, List.set_cons_succ, i64_w, i32_w]
                rfl
              refine one_ (i := 19) (N := some 141) #[true, true, true, true, true, true, true, true, true, true, true, true, true, true, true, true, true, true, true, true, false, false, false, false] rfl rfl (by kernel_rfl) (by decide) (fun K hK => ?_)
              refine goes_ Try.func26 (by kernel_rfl) rfl #[.int .u64 N, .int .i64 8] (by rfl) rfl rfl (by first | (simp only [List.map_toArray, List.map_cons, List.map_nil]; done) | (simp only [List.map_toArray, List.map_cons, List.map_nil]; rfl) | rfl) ?_
              with_reducible refine (number8_any N _ N0 N1).mono ?_
              rintro e w3 ⟨v92, rfl, o92⟩
              refine ⟨_, rfl, ?_⟩
              have hb3 := hHeld.1.trans (o92.below.mono hHeld.1.size)
              have k92 := str_of o92.bs
              refine hK.out _ _ ⟨hb3, kr _ hb3, kx _ hb3, ky _ hb3⟩ (fun hHeld => ?_)
              clear hK K
              refine norm_ (a' := ?_) ?_ ?_
              rotate_left
              · show Act.put _ (some 141) _ = _
                simp only [Act.put, List.setIfInBounds_toArray, List.set_cons_zero, List.set_cons_succ, i64_w, i32_w]
                rfl
              refine one_ (i := 20) (N := some 142) #[true, true, true, true, true, true, true, true, true, true, true, true, true, true, true, true, true, true, true, true, true, false, false, false] rfl rfl (by kernel_rfl) (by decide) (fun K hK => ?_)
              refine value_ (w1 := ?_) (v := ?_) (by rfl) rfl ?_ ?_
              rotate_left 2
              · go_simp
                constructor
                · rfl
                · rfl
              refine hK.out _ _ ⟨hHeld.1, kr _ hHeld.1, kx _ hHeld.1, ky _ hHeld.1⟩ (fun hHeld => ?_)
              clear hK K
              refine norm_ (a' := ?_) ?_ ?_
              rotate_left
              · show Act.put _ (some 142) _ = _
                simp only [Act.put, List.setIfInBounds_toArray, List.set_cons_zero, List.set_cons_succ, i64_w, i32_w]
                rfl
              refine pure_ (i := 21) (N := some 143) (v := ?_) (a' := ?_) #[true, true, true, true, true, true, true, true, true, true, true, true, true, true, true, true, true, true, true, true, true, true, false, false] rfl rfl (by kernel_rfl) (fun _ _ _ h => h) (Or.inl ⟨by rfl, ?_⟩) ?_ ?_
              rotate_left
              · intro w'
                go_simp
                with_reducible rfl
              rotate_left
              · simp only [Act.put, List.setIfInBounds_toArray, List.set_cons_zero, List.set_cons_succ, i64_w, i32_w]
                rfl
              refine pure_ (i := 22) (N := some 144) (v := ?_) (a' := ?_) #[true, true, true, true, true, true, true, true, true, true, true, true, true, true, true, true, true, true, true, true, true, true, true, false] rfl rfl (by kernel_rfl) (fun _ _ _ h => h) (Or.inl ⟨by rfl, ?_⟩) ?_ ?_
              rotate_left
              · intro w'
                go_simp
                with_reducible rfl
              rotate_left
              · simp only [Act.put, List.setIfInBounds_toArray, List.set_cons_zero, List.set_cons_succ, i64_w, i32_w]
                rfl
              refine pure_ (i := 23) (N := some 145) (v := ?_) (a' := ?_) #[true, true, true, true, true, true, true, true, true, true, true, true, true, true, true, true, true, true, true, true, true, true, true, true] rfl rfl (by kernel_rfl) (fun _ _ _ h => h) (Or.inl ⟨by rfl, ?_⟩) ?_ ?_
              rotate_left
              · intro w'
                go_simp
                with_reducible rfl
              rotate_left
              · simp only [Act.put, List.setIfInBounds_toArray, List.set_cons_zero, List.set_cons_succ, i64_w, i32_w]
                rfl
              refine done_ (by kernel_rfl) ?_
              have q1 := kz _ hHeld.1
              have q2 := kw _ hHeld.1
              go_wp2_with fail
              refine (awake_any _).mono ?_
              rintro e wa ⟨rfl, hba⟩
              go_wp2_with fail
              go_ret
              exact ⟨rfl, (HBF.out.trans (hHeld.1.mono HBF.out.size)).trans (hba.mono (HBF.out.trans (hHeld.1.mono HBF.out.size)).size)⟩
      · refine (text_long _ s _ (by omega) (by omega)).mono ?_
        rintro e w4 ⟨rfl, rfl⟩
        go_wp2_with fail
        refine (reftext_long s _ (by omega) (by omega)).mono ?_
        rintro e w5 ⟨rfl, rfl⟩
        obtain ⟨wz, hwz⟩ : ∃ wz, wz = w3 := ⟨_, rfl⟩
        subst hwz
        have HBZ := Lib.hid HB3.out
        have FR := Lib.hid ((FR1.out.step O2.out.below).step O3.out.below)
        have BR := Lib.hid ((BR1.out.below O2.out.below).below O3.out.below)
        have BX := Lib.hid (O2.out.bs.below O3.out.below)
        have BY := Lib.hid O3.out.bs
        clear O2 O3 FR1 BR1 HB3
        have hN : xs.length + 20 ≤ 1000 := by omega
        go_wp2
        go_loop [16] (fun i => ∃ k : Nat, xs.length ≤ k ∧ k ≤ xs.length + 20 ∧ i = .int .i64 k) (fun i => xs.length + 20 - (intOf i).toNat)
        case atStart => exact ⟨xs.length, by omega, by omega, rfl⟩
        case round =>
          obtain ⟨k, hk0, hk, rfl⟩ := hrel
          by_cases hlt : k < xs.length + 20
          · obtain ⟨hcell, _⟩ := own_at (W := wz) (g := g) (n := xs.length + 20) (cap := xs.length + 20) (by have := FR.out.own; rw [full_length] at this; exact this) (i := (k : Int)) (by omega) (by omega)
            rw [Int.toNat_natCast, full_zero xs k hk0 hlt] at hcell
            go_wp2
            go_round
            case rel => exact ⟨k + 1, by omega, by omega, by go_num⟩
            case measure => simp [intOf]; omega
          · clear hk0
            obtain ⟨m, hm2, hm3⟩ : ∃ m : Nat, (65435 : Int) + (L : Int) % 200 = (m : Int) ∧ m ≤ 65634 := ⟨65435 + L % 200, by omega, by omega⟩
            have hmk2 := print_make (P := Try.prog) 22 5 .u8 1 Try.underlying22 info_u8 (by decide) m (by omega)
            have hfm := fun W : World => str_of (Ow.made (Below.refl W.heap.size W) m (by omega)).bs
            have hfs : (strOfNums (List.replicate m 0)).size = m := by rw [str_size, List.length_replicate]
            have HFS := Lib.hid hfs
            have HM2 := Lib.hid hm2
            have hfs2 : (strOfNums (List.replicate m 0)).size ≤ 65634 := by omega
            clear hfs
            have k2 := hm2
            clear hm2 hfm
            have hfm := str_of (Ow.made (Below.refl wz.heap.size wz) m (by omega)).bs
            go_wp2_with fail
            obtain ⟨fs, hfs⟩ : ∃ fs, strOfNums (List.replicate m 0) = fs := ⟨_, rfl⟩
            rw [hfs] at HFS hfs2 ⊢
            clear hfm k2 hmk2 hfs
            by_cases g4 : fs.size ≤ 65535
            · refine (text_any _ [] fs _ (Bs.nil _) (by simp) g4).mono ?_
              rintro e wf ⟨vf, rfl, of⟩
              rw [List.nil_append] at of
              obtain ⟨Af, nf, cf, rfl, hnf⟩ := of.slice
              rw [textBytes_length] at hnf
              subst hnf
              have hbf : Below wz.heap.size wz wf := (below_alloc (Below.refl _ _) _).trans (of.below.mono (by simp))
              have HBF := Lib.hid (HBZ.out.trans (hbf.mono HBZ.out.size))
              have kr : ∀ wx, Below wf.heap.size wf wx → (convert 22 9 (.slice (some ⟨g, 0, none⟩) xs.length (xs.length + 20))).run Try.prog wx = .ok (.string (strOfNums xs)) wx := fun wx h => str_of (BR.out.below (hbf.trans (h.mono hbf.size)))
              have kx : ∀ wx, Below wf.heap.size wf wx → (convert 22 9 vx).run Try.prog wx = .ok (.string (strOfNums xs ++ strOfNums (leBytes N 4))) wx := fun wx h => by rw [← str_append]; exact str_of (BX.out.below (hbf.trans (h.mono hbf.size)))
              have ky : ∀ wx, Below wf.heap.size wf wx → (convert 22 9 vy).run Try.prog wx = .ok (.string (strOfNums xs ++ strOfNums (leBytes N 8))) wx := fun wx h => by rw [← str_append]; exact str_of (BY.out.below (hbf.trans (h.mono hbf.size)))
              go_wp2
              have zx : (strOfNums xs).size = xs.length := str_size xs
              have z4 : ¬ 9223372036854775807 < (strOfNums xs).size + (strOfNums (leBytes N 4)).size := by rw [zx, str_size, leBytes_length]; omega
              have z8 : ¬ 9223372036854775807 < (strOfNums xs).size + (strOfNums (leBytes N 8)).size := by rw [zx, str_size, leBytes_length]; omega
              have zt : ¬ 9223372036854775807 < (strOfNums xs).size + (strOfNums (textBytes s)).size := by rw [zx, str_size, textBytes_length]; omega
              clear zx
              refine start_ (n := 24) (S := fun w' => Below wf.heap.size wf w' ∧ (convert 22 9 (.slice (some ⟨g, 0, none⟩) xs.length (xs.length + 20))).run Try.prog w' = .ok (.string (strOfNums xs)) w' ∧ (convert 22 9 (vx)).run Try.prog w' = .ok (.string (strOfNums xs ++ strOfNums (leBytes N 4))) w' ∧ (convert 22 9 (vy)).run Try.prog w' = .ok (.string (strOfNums xs ++ strOfNums (leBytes N 8))) w') (ds := []) #[false, false, false, false, false, false, false, false, false, false, false, false, false, false, false, false, false, false, false, false, false, false, false, false] (by kernel_rfl) rfl rfl ⟨Below.drew (Below.refl _ _), kr _ (Below.drew (Below.refl _ _)), kx _ (Below.drew (Below.refl _ _)), ky _ (Below.drew (Below.refl _ _))⟩ (fun hHeld => ?_)
              refine pure_ (i := 0) (N := some 122) (v := ?_) (a' := ?_) #[true, false, false, false, false, false, false, false, false, false, false, false, false, false, false, false, false, false, false, false, false, false, false, false] rfl rfl (by kernel_rfl) (fun _ _ _ h => h) (Or.inl ⟨by rfl, ?_⟩) ?_ ?_
              rotate_left
              · intro w'
                go_simp
                with_reducible rfl
              rotate_left
              · simp only [Act.put, List.setIfInBounds_toArray, List.set_cons_zero, List.set_cons_succ, i64_w, i32_w]
                rfl
              refine pure_ (i := 2) (N := some 124) (v := ?_) (a' := ?_) #[true, false, true, false, false, false, false, false, false, false, false, false, false, false, false, false, false, false, false, false, false, false, false, false] rfl rfl (by kernel_rfl) (fun _ _ _ h => h) (Or.inl ⟨by rfl, ?_⟩) ?_ ?_
              rotate_left
              · intro w'
                go_simp
                with_reducible rfl
              rotate_left
              · simp only [Act.put, List.setIfInBounds_toArray, List.set_cons_zero, List.set_cons_succ, i64_w, i32_w]
                rfl
              refine take_ (i := 1) (N := some 123) (v := ?_) (a' := ?_) #[true, true, true, false, false, false, false, false, false, false, false, false, false, false, false, false, false, false, false, false, false, false, false, false] rfl rfl (by kernel_rfl) (fun _ _ _ h => h) (Or.inl ⟨by rfl, ?_⟩) hHeld ?_ ?_
              rotate_left
              · rintro w' ⟨s0, s1, s2, s3⟩
                go_simp
                with_reducible rfl
              rotate_left
              · simp only [Act.put, List.setIfInBounds_toArray, List.set_cons_zero, List.set_cons_succ, i64_w, i32_w]
                rfl
              refine pure_ (i := 3) (N := some 125) (v := ?_) (a' := ?_) #[true, true, true, true, false, false, false, false, false, false, false, false, false, false, false, false, false, false, false, false, false, false, false, false] rfl rfl (by kernel_rfl) (fun _ _ _ h => h) (Or.inl ⟨by rfl, ?_⟩) ?_ ?_
              rotate_left
              · intro w'
                go_simp
                with_reducible rfl
              rotate_left
              · simp only [Act.put, List.setIfInBounds_toArray, List.set_cons_zero, List.set_cons_succ, i64_w, i32_w]
                rfl
              refine pure_ (i := 4) (N := some 126) (v := ?_) (a' := ?_) #[true, true, true, true, true, false, false, false, false, false, false, false, false, false, false, false, false, false, false, false, false, false, false, false] rfl rfl (by kernel_rfl) (fun _ _ _ h => h) (Or.inl ⟨by rfl, ?_⟩) ?_ ?_
              rotate_left
              · intro w'
                go_simp
                with_reducible rfl
              rotate_left
              · simp only [Act.put, List.setIfInBounds_toArray, List.set_cons_zero, List.set_cons_succ, i64_w, i32_w]
                rfl
              refine pure_ (i := 5) (N := some 127) (v := ?_) (a' := ?_) #[true, true, true, true, true, true, false, false, false, false, false, false, false, false, false, false, false, false, false, false, false, false, false, false] rfl rfl (by kernel_rfl) (fun _ _ _ h => h) (Or.inl ⟨by rfl, ?_⟩) ?_ ?_
              rotate_left
              · intro w'
                go_simp
                with_reducible rfl
              rotate_left
              · simp only [Act.put, List.setIfInBounds_toArray, List.set_cons_zero, List.set_cons_succ, i64_w, i32_w]
                rfl
              refine pure_ (i := 7) (N := some 129) (v := ?_) (a' := ?_) #[true, true, true, true, true, true, false, true, false, false, false, false, false, false, false, false, false, false, false, false, false, false, false, false] rfl rfl (by kernel_rfl) (fun _ _ _ h => h) (Or.inl ⟨by rfl, ?_⟩) ?_ ?_
              rotate_left
              · intro w'
                go_simp
                with_reducible rfl
              rotate_left
              · simp only [Act.put, List.setIfInBounds_toArray, List.set_cons_zero, List.set_cons_succ, i64_w, i32_w]
                rfl
              refine pure_ (i := 8) (N := some 130) (v := ?_) (a' := ?_) #[true, true, true, true, true, true, false, true, true, false, false, false, false, false, false, false, false, false, false, false, false, false, false, false] rfl rfl (by kernel_rfl) (fun _ _ _ h => h) (Or.inl ⟨by rfl, ?_⟩) ?_ ?_
              rotate_left
              · intro w'
                go_simp
                with_reducible rfl
              rotate_left
              · simp only [Act.put, List.setIfInBounds_toArray, List.set_cons_zero, List.set_cons_succ, i64_w, i32_w]
                rfl
              refine take_ (i := 6) (N := some 128) (v := ?_) (a' := ?_) #[true, true, true, true, true, true, true, true, true, false, false, false, false, false, false, false, false, false, false, false, false, false, false, false] rfl rfl (by kernel_rfl) (fun _ _ _ h => h) (Or.inl ⟨by rfl, ?_⟩) hHeld ?_ ?_
              rotate_left
              · rintro w' ⟨s0, s1, s2, s3⟩
                go_simp
                with_reducible rfl
              rotate_left
              · simp only [Act.put, List.setIfInBounds_toArray, List.set_cons_zero, List.set_cons_succ, i64_w, i32_w]
                rfl
              refine one_ (i := 9) (N := some 131) #[true, true, true, true, true, true, true, true, true, true, false, false, false, false, false, false, false, false, false, false, false, false, false, false] rfl rfl (by kernel_rfl) (by decide) (fun K hK => ?_)
              refine goes_ Try.func26 (by kernel_rfl) rfl #[.int .u64 N, .int .i64 4] (by rfl) rfl rfl (by first | (simp only [List.map_toArray, List.map_cons, List.map_nil]; done) | (simp only [List.map_toArray, List.map_cons, List.map_nil]; rfl) | rfl) ?_
              with_reducible refine (number4_any N _ N0 N1).mono ?_
              rintro e w3 ⟨v91, rfl, o91⟩
              refine ⟨_, rfl, ?_⟩
              have hb3 := hHeld.1.trans (o91.below.mono hHeld.1.size)
              have k91 := str_of o91.bs
              refine hK.out _ _ ⟨hb3, kr _ hb3, kx _ hb3, ky _ hb3⟩ (fun hHeld => ?_)
              clear hK K
              refine norm_ (a' := ?_) ?_ ?_
              rotate_left
              · show Act.put _ (some 131) _ = _
                simp only [Act.put, List.setIfInBounds_toArray, List.set_cons_zero, List.set_cons_succ, i64_w, i32_w]
                rfl
              refine one_ (i := 10) (N := some 132) #[true, true, true, true, true, true, true, true, true, true, true, false, false, false, false, false, false, false, false, false, false, false, false, false] rfl rfl (by kernel_rfl) (by decide) (fun K hK => ?_)
              refine value_ (w1 := ?_) (v := ?_) (by rfl) rfl ?_ ?_
              rotate_left 2
              · go_simp
                constructor
                · rfl
                · rfl
              refine hK.out _ _ ⟨hHeld.1, kr _ hHeld.1, kx _ hHeld.1, ky _ hHeld.1⟩ (fun hHeld => ?_)
              clear hK K
              refine norm_ (a' := ?_) ?_ ?_
              rotate_left
              · show Act.put _ (some 132) _ = _
                simp only [Act.put, List.setIfInBounds_toArray, List.set_cons_zero, List.set_cons_succ, i64_w, i32_w]
                rfl
              refine pure_ (i := 11) (N := some 133) (v := ?_) (a' := ?_) #[true, true, true, true, true, true, true, true, true, true, true, true, false, false, false, false, false, false, false, false, false, false, false, false] rfl rfl (by kernel_rfl) (fun _ _ _ h => h) (Or.inl ⟨by rfl, ?_⟩) ?_ ?_
              rotate_left
              · intro w'
                go_simp
                with_reducible rfl
              rotate_left
              · simp only [Act.put, List.setIfInBounds_toArray, List.set_cons_zero, List.set_cons_succ, i64_w, i32_w]
                rfl
              refine pure_ (i := 12) (N := some 134) (v := ?_) (a' := ?_) #[true, true, true, true, true, true, true, true, true, true, true, true, true, false, false, false, false, false, false, false, false, false, false, false] rfl rfl (by kernel_rfl) (fun _ _ _ h => h) (Or.inl ⟨by rfl, ?_⟩) ?_ ?_
              rotate_left
              · intro w'
                go_simp
                with_reducible rfl
              rotate_left
              · simp only [Act.put, List.setIfInBounds_toArray, List.set_cons_zero, List.set_cons_succ, i64_w, i32_w]
                rfl
              refine pure_ (i := 13) (N := some 135) (v := ?_) (a' := ?_) #[true, true, true, true, true, true, true, true, true, true, true, true, true, true, false, false, false, false, false, false, false, false, false, false] rfl rfl (by kernel_rfl) (fun _ _ _ h => h) (Or.inl ⟨by rfl, ?_⟩) ?_ ?_
              rotate_left
              · intro w'
                go_simp
                with_reducible rfl
              rotate_left
              · simp only [Act.put, List.setIfInBounds_toArray, List.set_cons_zero, List.set_cons_succ, i64_w, i32_w]
                rfl
              refine pure_ (i := 14) (N := some 136) (v := ?_) (a' := ?_) #[true, true, true, true, true, true, true, true, true, true, true, true, true, true, true, false, false, false, false, false, false, false, false, false] rfl rfl (by kernel_rfl) (fun _ _ _ h => h) (Or.inl ⟨by rfl, ?_⟩) ?_ ?_
              rotate_left
              · intro w'
                go_simp
                with_reducible rfl
              rotate_left
              · simp only [Act.put, List.setIfInBounds_toArray, List.set_cons_zero, List.set_cons_succ, i64_w, i32_w]
                rfl
              refine pure_ (i := 15) (N := some 137) (v := ?_) (a' := ?_) #[true, true, true, true, true, true, true, true, true, true, true, true, true, true, true, true, false, false, false, false, false, false, false, false] rfl rfl (by kernel_rfl) (fun _ _ _ h => h) (Or.inl ⟨by rfl, ?_⟩) ?_ ?_
              rotate_left
              · intro w'
                go_simp
                with_reducible rfl
              rotate_left
              · simp only [Act.put, List.setIfInBounds_toArray, List.set_cons_zero, List.set_cons_succ, i64_w, i32_w]
                rfl
              refine pure_ (i := 17) (N := some 139) (v := ?_) (a' := ?_) #[true, true, true, true, true, true, true, true, true, true, true, true, true, true, true, true, false, true, false, false, false, false, false, false] rfl rfl (by kernel_rfl) (fun _ _ _ h => h) (Or.inl ⟨by rfl, ?_⟩) ?_ ?_
              rotate_left
              · intro w'
                go_simp
                with_reducible rfl
              rotate_left
              · simp only [Act.put, List.setIfInBounds_toArray, List.set_cons_zero, List.set_cons_succ, i64_w, i32_w]
                rfl
              refine pure_ (i := 18) (N := some 140) (v := ?_) (a' := ?_) #[true, true, true, true, true, true, true, true, true, true, true, true, true, true, true, true, false, true, true, false, false, false, false, false] rfl rfl (by kernel_rfl) (fun _ _ _ h => h) (Or.inl ⟨by rfl, ?_⟩) ?_ ?_
              rotate_left
              · intro w'
                go_simp
                with_reducible rfl
              rotate_left
              · simp only [Act.put, List.setIfInBounds_toArray, List.set_cons_zero, List.set_cons_succ, i64_w, i32_w]
                rfl
              refine take_ (i := 16) (N := some 138) (v := ?_) (a' := ?_) #[true, true, true, true, true, true, true, true, true, true, true, true, true, true, true, true, true, true, true, false, false, false, false, false] rfl rfl (by kernel_rfl) (fun _ _ _ h => h) (Or.inl ⟨by rfl, ?_⟩) hHeld ?_ ?_
              rotate_left
              · rintro w' ⟨s0, s1, s2, s3⟩
                go_simp
                with_reducible rfl
              rotate_left
              · simp only [Act.put, List.setIfInBounds_toArray, List.set_cons_zero, List.set_cons_succ, i64_w, i32_w]
                rfl
              refine one_ (i := 19) (N := some 141) #[true, true, true, true, true, true, true, true, true, true, true, true, true, true, true, true, true, true, true, true, false, false, false, false] rfl rfl (by kernel_rfl) (by decide) (fun K hK => ?_)
              refine goes_ Try.func26 (by kernel_rfl) rfl #[.int .u64 N, .int .i64 8] (by rfl) rfl rfl (by first | (simp only [List.map_toArray, List.map_cons, List.map_nil]; done) | (simp only [List.map_toArray, List.map_cons, List.map_nil]; rfl) | rfl) ?_
              with_reducible refine (number8_any N _ N0 N1).mono ?_
              rintro e w3 ⟨v92, rfl, o92⟩
              refine ⟨_, rfl, ?_⟩
              have hb3 := hHeld.1.trans (o92.below.mono hHeld.1.size)
              have k92 := str_of o92.bs
              refine hK.out _ _ ⟨hb3, kr _ hb3, kx _ hb3, ky _ hb3⟩ (fun hHeld => ?_)
              clear hK K
              refine norm_ (a' := ?_) ?_ ?_
              rotate_left
              · show Act.put _ (some 141) _ = _
                simp only [Act.put, List.setIfInBounds_toArray, List.set_cons_zero, List.set_cons_succ, i64_w, i32_w]
                rfl
              refine one_ (i := 20) (N := some 142) #[true, true, true, true, true, true, true, true, true, true, true, true, true, true, true, true, true, true, true, true, true, false, false, false] rfl rfl (by kernel_rfl) (by decide) (fun K hK => ?_)
              refine value_ (w1 := ?_) (v := ?_) (by rfl) rfl ?_ ?_
              rotate_left 2
              · go_simp
                constructor
                · rfl
                · rfl
              refine hK.out _ _ ⟨hHeld.1, kr _ hHeld.1, kx _ hHeld.1, ky _ hHeld.1⟩ (fun hHeld => ?_)
              clear hK K
              refine norm_ (a' := ?_) ?_ ?_
              rotate_left
              · show Act.put _ (some 142) _ = _
                simp only [Act.put, List.setIfInBounds_toArray, List.set_cons_zero, List.set_cons_succ, i64_w, i32_w]
                rfl
              refine pure_ (i := 21) (N := some 143) (v := ?_) (a' := ?_) #[true, true, true, true, true, true, true, true, true, true, true, true, true, true, true, true, true, true, true, true, true, true, false, false] rfl rfl (by kernel_rfl) (fun _ _ _ h => h) (Or.inl ⟨by rfl, ?_⟩) ?_ ?_
              rotate_left
              · intro w'
                go_simp
                with_reducible rfl
              rotate_left
              · simp only [Act.put, List.setIfInBounds_toArray, List.set_cons_zero, List.set_cons_succ, i64_w, i32_w]
                rfl
              refine pure_ (i := 22) (N := some 144) (v := ?_) (a' := ?_) #[true, true, true, true, true, true, true, true, true, true, true, true, true, true, true, true, true, true, true, true, true, true, true, false] rfl rfl (by kernel_rfl) (fun _ _ _ h => h) (Or.inl ⟨by rfl, ?_⟩) ?_ ?_
              rotate_left
              · intro w'
                go_simp
                with_reducible rfl
              rotate_left
              · simp only [Act.put, List.setIfInBounds_toArray, List.set_cons_zero, List.set_cons_succ, i64_w, i32_w]
                rfl
              refine pure_ (i := 23) (N := some 145) (v := ?_) (a' := ?_) #[true, true, true, true, true, true, true, true, true, true, true, true, true, true, true, true, true, true, true, true, true, true, true, true] rfl rfl (by kernel_rfl) (fun _ _ _ h => h) (Or.inl ⟨by rfl, ?_⟩) ?_ ?_
              rotate_left
              · intro w'
                go_simp
                with_reducible rfl
              rotate_left
              · simp only [Act.put, List.setIfInBounds_toArray, List.set_cons_zero, List.set_cons_succ, i64_w, i32_w]
                rfl
              refine done_ (by kernel_rfl) ?_
              go_wp2_with fail
              refine (awake_any _).mono ?_
              rintro e wa ⟨rfl, hba⟩
              go_wp2_with fail
              go_ret
              exact ⟨rfl, (HBF.out.trans (hHeld.1.mono HBF.out.size)).trans (hba.mono (HBF.out.trans (hHeld.1.mono HBF.out.size)).size)⟩
            · refine (text_long _ fs _ (by omega) (by omega)).mono ?_
              rintro e wf ⟨rfl, hwf⟩
              have hbf : Below wz.heap.size wz wf := by rw [← hwf]; exact below_alloc (Below.refl _ _) _
              clear hwf
              have HBF := Lib.hid (HBZ.out.trans (hbf.mono HBZ.out.size))
              have kr : ∀ wx, Below wf.heap.size wf wx → (convert 22 9 (.slice (some ⟨g, 0, none⟩) xs.length (xs.length + 20))).run Try.prog wx = .ok (.string (strOfNums xs)) wx := fun wx h => str_of (BR.out.below (hbf.trans (h.mono hbf.size)))
              have kx : ∀ wx, Below wf.heap.size wf wx → (convert 22 9 vx).run Try.prog wx = .ok (.string (strOfNums xs ++ strOfNums (leBytes N 4))) wx := fun wx h => by rw [← str_append]; exact str_of (BX.out.below (hbf.trans (h.mono hbf.size)))
              have ky : ∀ wx, Below wf.heap.size wf wx → (convert 22 9 vy).run Try.prog wx = .ok (.string (strOfNums xs ++ strOfNums (leBytes N 8))) wx := fun wx h => by rw [← str_append]; exact str_of (BY.out.below (hbf.trans (h.mono hbf.size)))
              go_wp2
              have zx : (strOfNums xs).size = xs.length := str_size xs
              have z4 : ¬ 9223372036854775807 < (strOfNums xs).size + (strOfNums (leBytes N 4)).size := by rw [zx, str_size, leBytes_length]; omega
              have z8 : ¬ 9223372036854775807 < (strOfNums xs).size + (strOfNums (leBytes N 8)).size := by rw [zx, str_size, leBytes_length]; omega
              have zt : ¬ 9223372036854775807 < (strOfNums xs).size + (strOfNums (textBytes s)).size := by rw [zx, str_size, textBytes_length]; omega
              clear zx
              refine start_ (n := 24) (S := fun w' => Below wf.heap.size wf w' ∧ (convert 22 9 (.slice (some ⟨g, 0, none⟩) xs.length (xs.length + 20))).run Try.prog w' = .ok (.string (strOfNums xs)) w' ∧ (convert 22 9 (vx)).run Try.prog w' = .ok (.string (strOfNums xs ++ strOfNums (leBytes N 4))) w' ∧ (convert 22 9 (vy)).run Try.prog w' = .ok (.string (strOfNums xs ++ strOfNums (leBytes N 8))) w') (ds := []) #[false, false, false, false, false, false, false, false, false, false, false, false, false, false, false, false, false, false, false, false, false, false, false, false] (by kernel_rfl) rfl rfl ⟨Below.drew (Below.refl _ _), kr _ (Below.drew (Below.refl _ _)), kx _ (Below.drew (Below.refl _ _)), ky _ (Below.drew (Below.refl _ _))⟩ (fun hHeld => ?_)
              refine pure_ (i := 0) (N := some 122) (v := ?_) (a' := ?_) #[true, false, false, false, false, false, false, false, false, false, false, false, false, false, false, false, false, false, false, false, false, false, false, false] rfl rfl (by kernel_rfl) (fun _ _ _ h => h) (Or.inl ⟨by rfl, ?_⟩) ?_ ?_
              rotate_left
              · intro w'
                go_simp
                with_reducible rfl
              rotate_left
              · simp only [Act.put, List.setIfInBounds_toArray, List.set_cons_zero, List.set_cons_succ, i64_w, i32_w]
                rfl
              refine pure_ (i := 2) (N := some 124) (v := ?_) (a' := ?_) #[true, false, true, false, false, false, false, false, false, false, false, false, false, false, false, false, false, false, false, false, false, false, false, false] rfl rfl (by kernel_rfl) (fun _ _ _ h => h) (Or.inl ⟨by rfl, ?_⟩) ?_ ?_
              rotate_left
              · intro w'
                go_simp
                with_reducible rfl
              rotate_left
              · simp only [Act.put, List.setIfInBounds_toArray, List.set_cons_zero, List.set_cons_succ, i64_w, i32_w]
                rfl
              refine take_ (i := 1) (N := some 123) (v := ?_) (a' := ?_) #[true, true, true, false, false, false, false, false, false, false, false, false, false, false, false, false, false, false, false, false, false, false, false, false] rfl rfl (by kernel_rfl) (fun _ _ _ h => h) (Or.inl ⟨by rfl, ?_⟩) hHeld ?_ ?_
              rotate_left
              · rintro w' ⟨s0, s1, s2, s3⟩
                go_simp
                with_reducible rfl
              rotate_left
              · simp only [Act.put, List.setIfInBounds_toArray, List.set_cons_zero, List.set_cons_succ, i64_w, i32_w]
                rfl
              refine pure_ (i := 3) (N := some 125) (v := ?_) (a' := ?_) #[true, true, true, true, false, false, false, false, false, false, false, false, false, false, false, false, false, false, false, false, false, false, false, false] rfl rfl (by kernel_rfl) (fun _ _ _ h => h) (Or.inl ⟨by rfl, ?_⟩) ?_ ?_
              rotate_left
              · intro w'
                go_simp
                with_reducible rfl
              rotate_left
              · simp only [Act.put, List.setIfInBounds_toArray, List.set_cons_zero, List.set_cons_succ, i64_w, i32_w]
                rfl
              refine pure_ (i := 4) (N := some 126) (v := ?_) (a' := ?_) #[true, true, true, true, true, false, false, false, false, false, false, false, false, false, false, false, false, false, false, false, false, false, false, false] rfl rfl (by kernel_rfl) (fun _ _ _ h => h) (Or.inl ⟨by rfl, ?_⟩) ?_ ?_
              rotate_left
              · intro w'
                go_simp
                with_reducible rfl
              rotate_left
              · simp only [Act.put, List.setIfInBounds_toArray, List.set_cons_zero, List.set_cons_succ, i64_w, i32_w]
                rfl
              refine pure_ (i := 5) (N := some 127) (v := ?_) (a' := ?_) #[true, true, true, true, true, true, false, false, false, false, false, false, false, false, false, false, false, false, false, false, false, false, false, false] rfl rfl (by kernel_rfl) (fun _ _ _ h => h) (Or.inl ⟨by rfl, ?_⟩) ?_ ?_
              rotate_left
              · intro w'
                go_simp
                with_reducible rfl
              rotate_left
              · simp only [Act.put, List.setIfInBounds_toArray, List.set_cons_zero, List.set_cons_succ, i64_w, i32_w]
                rfl
              refine pure_ (i := 7) (N := some 129) (v := ?_) (a' := ?_) #[true, true, true, true, true, true, false, true, false, false, false, false, false, false, false, false, false, false, false, false, false, false, false, false] rfl rfl (by kernel_rfl) (fun _ _ _ h => h) (Or.inl ⟨by rfl, ?_⟩) ?_ ?_
              rotate_left
              · intro w'
                go_simp
                with_reducible rfl
              rotate_left
              · simp only [Act.put, List.setIfInBounds_toArray, List.set_cons_zero, List.set_cons_succ, i64_w, i32_w]
                rfl
              refine pure_ (i := 8) (N := some 130) (v := ?_) (a' := ?_) #[true, true, true, true, true, true, false, true, true, false, false, false, false, false, false, false, false, false, false, false, false, false, false, false] rfl rfl (by kernel_rfl) (fun _ _ _ h => h) (Or.inl ⟨by rfl, ?_⟩) ?_ ?_
              rotate_left
              · intro w'
                go_simp
                with_reducible rfl
              rotate_left
              · simp only [Act.put, List.setIfInBounds_toArray, List.set_cons_zero, List.set_cons_succ, i64_w, i32_w]
                rfl
              refine take_ (i := 6) (N := some 128) (v := ?_) (a' := ?_) #[true, true, true, true, true, true, true, true, true, false, false, false, false, false, false, false, false, false, false, false, false, false, false, false] rfl rfl (by kernel_rfl) (fun _ _ _ h => h) (Or.inl ⟨by rfl, ?_⟩) hHeld ?_ ?_
              rotate_left
              · rintro w' ⟨s0, s1, s2, s3⟩
                go_simp
                with_reducible rfl
              rotate_left
              · simp only [Act.put, List.setIfInBounds_toArray, List.set_cons_zero, List.set_cons_succ, i64_w, i32_w]
                rfl
              refine one_ (i := 9) (N := some 131) #[true, true, true, true, true, true, true, true, true, true, false, false, false, false, false, false, false, false, false, false, false, false, false, false] rfl rfl (by kernel_rfl) (by decide) (fun K hK => ?_)
              refine goes_ Try.func26 (by kernel_rfl) rfl #[.int .u64 N, .int .i64 4] (by rfl) rfl rfl (by first | (simp only [List.map_toArray, List.map_cons, List.map_nil]; done) | (simp only [List.map_toArray, List.map_cons, List.map_nil]; rfl) | rfl) ?_
              with_reducible refine (number4_any N _ N0 N1).mono ?_
              rintro e w3 ⟨v91, rfl, o91⟩
              refine ⟨_, rfl, ?_⟩
              have hb3 := hHeld.1.trans (o91.below.mono hHeld.1.size)
              have k91 := str_of o91.bs
              refine hK.out _ _ ⟨hb3, kr _ hb3, kx _ hb3, ky _ hb3⟩ (fun hHeld => ?_)
              clear hK K
              refine norm_ (a' := ?_) ?_ ?_
              rotate_left
              · show Act.put _ (some 131) _ = _
                simp only [Act.put, List.setIfInBounds_toArray, List.set_cons_zero, List.set_cons_succ, i64_w, i32_w]
                rfl
              refine one_ (i := 10) (N := some 132) #[true, true, true, true, true, true, true, true, true, true, true, false, false, false, false, false, false, false, false, false, false, false, false, false] rfl rfl (by kernel_rfl) (by decide) (fun K hK => ?_)
              refine value_ (w1 := ?_) (v := ?_) (by rfl) rfl ?_ ?_
              rotate_left 2
              · go_simp
                constructor
                · rfl
                · rfl
              refine hK.out _ _ ⟨hHeld.1, kr _ hHeld.1, kx _ hHeld.1, ky _ hHeld.1⟩ (fun hHeld => ?_)
              clear hK K
              refine norm_ (a' := ?_) ?_ ?_
              rotate_left
              · show Act.put _ (some 132) _ = _
                simp only [Act.put, List.setIfInBounds_toArray, List.set_cons_zero, List.set_cons_succ, i64_w, i32_w]
                rfl
              refine pure_ (i := 11) (N := some 133) (v := ?_) (a' := ?_) #[true, true, true, true, true, true, true, true, true, true, true, true, false, false, false, false, false, false, false, false, false, false, false, false] rfl rfl (by kernel_rfl) (fun _ _ _ h => h) (Or.inl ⟨by rfl, ?_⟩) ?_ ?_
              rotate_left
              · intro w'
                go_simp
                with_reducible rfl
              rotate_left
              · simp only [Act.put, List.setIfInBounds_toArray, List.set_cons_zero, List.set_cons_succ, i64_w, i32_w]
                rfl
              refine pure_ (i := 12) (N := some 134) (v := ?_) (a' := ?_) #[true, true, true, true, true, true, true, true, true, true, true, true, true, false, false, false, false, false, false, false, false, false, false, false] rfl rfl (by kernel_rfl) (fun _ _ _ h => h) (Or.inl ⟨by rfl, ?_⟩) ?_ ?_
              rotate_left
              · intro w'
                go_simp
                with_reducible rfl
              rotate_left
              · simp only [Act.put, List.setIfInBounds_toArray, List.set_cons_zero, List.set_cons_succ, i64_w, i32_w]
                rfl
              refine pure_ (i := 13) (N := some 135) (v := ?_) (a' := ?_) #[true, true, true, true, true, true, true, true, true, true, true, true, true, true, false, false, false, false, false, false, false, false, false, false] rfl rfl (by kernel_rfl) (fun _ _ _ h => h) (Or.inl ⟨by rfl, ?_⟩) ?_ ?_
              rotate_left
              · intro w'
                go_simp
                with_reducible rfl
              rotate_left
              · simp only [Act.put, List.setIfInBounds_toArray, List.set_cons_zero, List.set_cons_succ, i64_w, i32_w]
                rfl
              refine pure_ (i := 14) (N := some 136) (v := ?_) (a' := ?_) #[true, true, true, true, true, true, true, true, true, true, true, true, true, true, true, false, false, false, false, false, false, false, false, false] rfl rfl (by kernel_rfl) (fun _ _ _ h => h) (Or.inl ⟨by rfl, ?_⟩) ?_ ?_
              rotate_left
              · intro w'
                go_simp
                with_reducible rfl
              rotate_left
              · simp only [Act.put, List.setIfInBounds_toArray, List.set_cons_zero, List.set_cons_succ, i64_w, i32_w]
                rfl
              refine pure_ (i := 15) (N := some 137) (v := ?_) (a' := ?_) #[true, true, true, true, true, true, true, true, true, true, true, true, true, true, true, true, false, false, false, false, false, false, false, false] rfl rfl (by kernel_rfl) (fun _ _ _ h => h) (Or.inl ⟨by rfl, ?_⟩) ?_ ?_
              rotate_left
              · intro w'
                go_simp
                with_reducible rfl
              rotate_left
              · simp only [Act.put, List.setIfInBounds_toArray, List.set_cons_zero, List.set_cons_succ, i64_w, i32_w]
                rfl
              refine pure_ (i := 17) (N := some 139) (v := ?_) (a' := ?_) #[true, true, true, true, true, true, true, true, true, true, true, true, true, true, true, true, false, true, false, false, false, false, false, false] rfl rfl (by kernel_rfl) (fun _ _ _ h => h) (Or.inl ⟨by rfl, ?_⟩) ?_ ?_
              rotate_left
              · intro w'
                go_simp
                with_reducible rfl
              rotate_left
              · simp only [Act.put, List.setIfInBounds_toArray, List.set_cons_zero, List.set_cons_succ, i64_w, i32_w]
                rfl
              refine pure_ (i := 18) (N := some 140) (v := ?_) (a' := ?_) #[true, true, true, true, true, true, true, true, true, true, true, true, true, true, true, true, false, true, true, false, false, false, false, false] rfl rfl (by kernel_rfl) (fun _ _ _ h => h) (Or.inl ⟨by rfl, ?_⟩) ?_ ?_
              rotate_left
              · intro w'
                go_simp
                with_reducible rfl
              rotate_left
              · simp only [Act.put, List.setIfInBounds_toArray, List.set_cons_zero, List.set_cons_succ, i64_w, i32_w]
                rfl
              refine take_ (i := 16) (N := some 138) (v := ?_) (a' := ?_) #[true, true, true, true, true, true, true, true, true, true, true, true, true, true, true, true, true, true, true, false, false, false, false, false] rfl rfl (by kernel_rfl) (fun _ _ _ h => h) (Or.inl ⟨by rfl, ?_⟩) hHeld ?_ ?_
              rotate_left
              · rintro w' ⟨s0, s1, s2, s3⟩
                go_simp
                with_reducible rfl
              rotate_left
              · simp only [Act.put, List.setIfInBounds_toArray, List.set_cons_zero, List.set_cons_succ, i64_w, i32_w]
                rfl
              refine one_ (i := 19) (N := some 141) #[true, true, true, true, true, true, true, true, true, true, true, true, true, true, true, true, true, true, true, true, false, false, false, false] rfl rfl (by kernel_rfl) (by decide) (fun K hK => ?_)
              refine goes_ Try.func26 (by kernel_rfl) rfl #[.int .u64 N, .int .i64 8] (by rfl) rfl rfl (by first | (simp only [List.map_toArray, List.map_cons, List.map_nil]; done) | (simp only [List.map_toArray, List.map_cons, List.map_nil]; rfl) | rfl) ?_
              with_reducible refine (number8_any N _ N0 N1).mono ?_
              rintro e w3 ⟨v92, rfl, o92⟩
              refine ⟨_, rfl, ?_⟩
              have hb3 := hHeld.1.trans (o92.below.mono hHeld.1.size)
              have k92 := str_of o92.bs
              refine hK.out _ _ ⟨hb3, kr _ hb3, kx _ hb3, ky _ hb3⟩ (fun hHeld => ?_)
              clear hK K
              refine norm_ (a' := ?_) ?_ ?_
              rotate_left
              · show Act.put _ (some 141) _ = _
                simp only [Act.put, List.setIfInBounds_toArray, List.set_cons_zero, List.set_cons_succ, i64_w, i32_w]
                rfl
              refine one_ (i := 20) (N := some 142) #[true, true, true, true, true, true, true, true, true, true, true, true, true, true, true, true, true, true, true, true, true, false, false, false] rfl rfl (by kernel_rfl) (by decide) (fun K hK => ?_)
              refine value_ (w1 := ?_) (v := ?_) (by rfl) rfl ?_ ?_
              rotate_left 2
              · go_simp
                constructor
                · rfl
                · rfl
              refine hK.out _ _ ⟨hHeld.1, kr _ hHeld.1, kx _ hHeld.1, ky _ hHeld.1⟩ (fun hHeld => ?_)
              clear hK K
              refine norm_ (a' := ?_) ?_ ?_
              rotate_left
              · show Act.put _ (some 142) _ = _
                simp only [Act.put, List.setIfInBounds_toArray, List.set_cons_zero, List.set_cons_succ, i64_w, i32_w]
                rfl
              refine pure_ (i := 21) (N := some 143) (v := ?_) (a' := ?_) #[true, true, true, true, true, true, true, true, true, true, true, true, true, true, true, true, true, true, true, true, true, true, false, false] rfl rfl (by kernel_rfl) (fun _ _ _ h => h) (Or.inl ⟨by rfl, ?_⟩) ?_ ?_
              rotate_left
              · intro w'
                go_simp
                with_reducible rfl
              rotate_left
              · simp only [Act.put, List.setIfInBounds_toArray, List.set_cons_zero, List.set_cons_succ, i64_w, i32_w]
                rfl
              refine pure_ (i := 22) (N := some 144) (v := ?_) (a' := ?_) #[true, true, true, true, true, true, true, true, true, true, true, true, true, true, true, true, true, true, true, true, true, true, true, false] rfl rfl (by kernel_rfl) (fun _ _ _ h => h) (Or.inl ⟨by rfl, ?_⟩) ?_ ?_
              rotate_left
              · intro w'
                go_simp
                with_reducible rfl
              rotate_left
              · simp only [Act.put, List.setIfInBounds_toArray, List.set_cons_zero, List.set_cons_succ, i64_w, i32_w]
                rfl
              refine pure_ (i := 23) (N := some 145) (v := ?_) (a' := ?_) #[true, true, true, true, true, true, true, true, true, true, true, true, true, true, true, true, true, true, true, true, true, true, true, true] rfl rfl (by kernel_rfl) (fun _ _ _ h => h) (Or.inl ⟨by rfl, ?_⟩) ?_ ?_
              rotate_left
              · intro w'
                go_simp
                with_reducible rfl
              rotate_left
              · simp only [Act.put, List.setIfInBounds_toArray, List.set_cons_zero, List.set_cons_succ, i64_w, i32_w]
                rfl
              refine done_ (by kernel_rfl) ?_
              go_wp2_with fail
              refine (awake_any _).mono ?_
              rintro e wa ⟨rfl, hba⟩
              go_wp2_with fail
              go_ret
              exact ⟨rfl, (HBF.out.trans (hHeld.1.mono HBF.out.size)).trans (hba.mono (HBF.out.trans (hHeld.1.mono HBF.out.size)).size)⟩
    · have d1 : decide ((300 : Int) < (xs.length : Int)) = false := decide_eq_false (by omega)
      have d2 : decide ((70000 : Int) < (s.size : Int)) = true := decide_eq_true (by omega)
      go_enter Try.func10, Try.ntmps10
      go_wp2
      go_quiet (fail)
      go_wp2
      go_ret
      exact ⟨rfl, pw_below_drewN (below_alloc (Below.refl _ _) _) _⟩
  · have d1 : decide ((300 : Int) < (xs.length : Int)) = true := decide_eq_true (by omega)
    go_enter Try.func10, Try.ntmps10
    go_wp2
    go_quiet (fail)
    go_wp2
    go_ret
    exact ⟨rfl, pw_below_drewN (below_alloc (Below.refl _ _) _) _⟩
--END WALK
end Go.Proofs.Ytokempdkfpbpmaa.Pack
