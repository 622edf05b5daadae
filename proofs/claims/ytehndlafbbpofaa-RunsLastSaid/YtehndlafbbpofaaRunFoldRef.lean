/- The contract of the reference's Fold (a walk). -/
import Derived.Test.YtehndlafbbpofaaRunFoldPure
import Derived.Test.YtehndlafbbpofaaRunSame
import Derived.Deep.CutRange
namespace Go.Proofs.Ytehndlafbbpofaa.Run
open Go.RowKit Go.Proofs.YtehndlafbbpofaaW.PrintWords Go.Proofs.YtehndlafbbpofaaW.PrintLast Go.Proofs.Ytehndlafbbpofaa.Base Go.Proofs.Ytehndlafbbpofaa.Pack
set_option linter.unusedVariables false
set_option linter.unusedSimpArgs false

theorem new_block {v v1 : Value} {W : World} {n : Nat} (hat : v1.ownBlock = v.ownBlock ∨ ∃ b, v1.ownBlock = some b ∧ W.heap.size ≤ b) (h1 : ∀ k, v.ownBlock = some k → n ≤ k) (h2 : n ≤ W.heap.size) : ∀ k, v1.ownBlock = some k → n ≤ k := by
  intro k hk
  rcases hat with h | ⟨b, hb, hl⟩
  · exact h1 k (h ▸ hk)
  · rw [hb] at hk
    injection hk with hk
    omega
theorem r_lit0 (W0 W : World) (base : Nat) (hb : base ≤ W.heap.size) : (krun W0).R 25 (W.alloc (.cells #[] 25)) base (fun _ => True) (.slice (some ⟨W.heap.size, 0, none⟩) 0 0) [] :=
  ⟨fun _ _ => trivial, [], by have h := World.ownsRow_lit (base := base) (e := 25) (size := 6) W #[] 0 hb (by simp [maxLen]) rfl; exact h, Reps.none _ _⟩
theorem box_row {W0 w : World} {b : Nat} {r : RunV} {vi vf : Value} (h : w.heap[b]? = some (.cells #[.string r.out, .string r.cmd, .int .i64 r.time, .int .i64 r.mark, vi, vf] 25 (0, 0))) (h1 : Is W0 vi r.ins) (h2 : Fs W0 vf r.found) {W' : World} : ReadsRow ((krun W0).K W') (krun W0).sz w (some ⟨b, 0, none⟩) 1 [r] := by
  refine ⟨rfl, by decide, fun _ => ⟨_, rfl, fun j p hj => ?_⟩⟩
  cases j with
  | zero =>
    obtain rfl : r = p := by simpa using hj
    refine ⟨_, rfl, ⟨vi, vf, rfl, h1, h2⟩, fun i u hu => ?_⟩
    rw [add_plain, cell_of_row w b _ _ _ _ h]
    have e : 0 * (krun W0).sz + i = i := by omega
    rw [e]
    simpa using hu
  | succ j => simp at hj
theorem info_run' : ∃ i, Try.prog.info? 25 = some i ∧ i.size = 6 := by
  have h : (Try.prog.info? 25).map (·.size) = some 6 := by kernel_rfl
  obtain ⟨i, hi, hz⟩ := Option.map_eq_some_iff.1 h
  exact ⟨i, hi, hz⟩
theorem cut_cap_runs (A : Option Addr) (n c m : Nat) (hm : m ≤ c) (W : World) : (Instr.slice 52 (.slice A n c) none (some (.int .i64 (m : Int))) none).run Try.prog W = .ok (.slice A m c) W := by
  obtain ⟨i0, hi, hz⟩ := info_run'
  have hel : Try.prog.elem 52 = 25 := by simp [Program.elem, Try.underlying52]
  have hu : Try.prog.underlying 52 = some (.slice (Try.prog.elem 52)) := by rw [hel]; exact Try.underlying52
  have ha : (A.map fun x => x.add 0) = A := by cases A <;> simp [Addr.add]
  rw [run_slice_h W 52 A n c hu .i64 (m : Int) (by omega) (by omega), hel]
  simp [sizeOf, typeInfo, hi, hz, sliced, Result.andThen, ha]
theorem cut_from_runs (A : Option Addr) (n c m : Nat) (hm : m ≤ n) (W : World) : (Instr.slice 52 (.slice A n c) (some (.int .i64 (m : Int))) none none).run Try.prog W = .ok (.slice (if c = m then A else A.map (·.add (m * 6))) (n - m) (c - m)) W := by
  obtain ⟨i0, hi, hz⟩ := info_run'
  have hel : Try.prog.elem 52 = 25 := by simp [Program.elem, Try.underlying52]
  have hu : Try.prog.underlying 52 = some (.slice (Try.prog.elem 52)) := by rw [hel]; exact Try.underlying52
  rw [run_slice_l W 52 A n c hu .i64 (m : Int) (by omega) (by omega), hel]
  simp [sizeOf, typeInfo, hi, hz, sliced, Result.andThen]

--BEGIN WALK
set_option maxRecDepth 100000 in
set_option maxHeartbeats 8000000 in
theorem reffold_any (v : Value) (l : List RunV) (w : World) (h : Rz w w v l) (hl : l.length ≤ 1000) :
    Calls Try.prog 25 #[v] w fun e w' => ∃ v', e = .returned v' ∧ (krun w).R 25 w' w.heap.size (fun _ => True) v' (foldR l) ∧ Below w.heap.size w w' := by
  obtain ⟨A, c, rfl, hc, hC⟩ := h
  have hm := hC.2.1
  have HC := Lib.hid hC
  clear hC
  go_enter Try.func25, Try.ntmps25
  go_wp2
  go_loopw [3, 4] (fun s3 s4 wr => ∃ (k : Nat) (acc : List RunV), k ≤ l.length ∧ s4 = .int .i64 k ∧ acc.length ≤ k ∧ Hid (acc = foldR (l.take k)) ∧ Hid ((krun w).R 25 wr w.heap.size (fun _ => True) s3 acc) ∧ Hid (Below w.heap.size w wr)) (fun _ s4 _ => l.length - (intOf s4).toNat)
  case atStart => exact ⟨0, [], by omega, rfl, by simp, rfl, Kd.R_nil _ _ _ _ _, Below.refl _ _⟩
  case round =>
    obtain ⟨k, acc, hk, rfl, hak, HA, HO, HB⟩ := hrel
    have hsl : ∃ A2 c2, u3 = .slice A2 acc.length c2 ∧ acc.length ≤ c2 ∧ (krun w).C wr A2 acc.length acc := by
      obtain ⟨A2, c2, e, h1, h2⟩ := Kd.R_reads HO.out
      exact ⟨A2, c2, e, h1, h2⟩
    obtain ⟨A2, c2, e2, hc2, hC2⟩ := hsl
    subst e2
    have HC2 := Lib.hid hC2
    have hm2 := hC2.2.1
    clear hC2
    by_cases l1 : k < l.length
    · obtain ⟨ad, vi, vf, e1, a6, h1, h2⟩ := c_at6 HC.out k l1
      cases e1
      have HIN : Hid (l.take (k + 1) = l.take k ++ [l.getD k zv]) := by
        show _ = _
        rw [List.take_add_one, List.getElem?_eq_getElem l1, List.getD_eq_getElem?_getD, List.getElem?_eq_getElem l1]; rfl
      have HW6 := Lib.hid a6
      have HI6 := Lib.hid (a6.below HB.out)
      have H12 := Lib.hid (And.intro h1 h2)
      clear a6 h1 h2
      generalize l.getD k zv = r at HIN HI6 H12 HW6
      obtain ⟨A5, c5, e5, _, _⟩ := H12.out.1.len
      obtain ⟨A6, c6, e6, _, _⟩ := H12.out.2.len
      subst e5
      subst e6
      obtain ⟨ri, hri⟩ : ∃ ri, ri = r.ins.length := ⟨_, rfl⟩
      obtain ⟨rf, hrf⟩ : ∃ rf, rf = r.found.length := ⟨_, rfl⟩
      rw [← hri, ← hrf] at HI6 H12 HW6
      clear hri hrf
      obtain ⟨n2, hn2⟩ : ∃ n2, n2 = acc.length := ⟨_, rfl⟩
      rw [← hn2] at HO HC2 hc2 hm2 hak ⊢
      obtain ⟨pp, hpp⟩ : ∃ pp, pp = posR r.out acc := ⟨_, rfl⟩
      have hple : pp ≤ n2 := by rw [hpp, hn2]; exact posR_le _ _
      have HPP := Lib.hid hpp
      have HN2 := Lib.hid hn2
      clear hpp hn2
      obtain ⟨wo, hwo⟩ : ∃ wo, wo = wr := ⟨_, rfl⟩
      subst hwo
      go_wp2
      go_loopw [5] (fun s5 wx => ∃ (j : Nat), j ≤ pp ∧ s5 = .int .i64 j ∧ Hid (Below wo.heap.size wo wx)) (fun s5 _ => pp - (intOf s5).toNat)
      case atStart => exact ⟨0, by omega, rfl, Below.refl _ _⟩
      case round =>
        obtain ⟨j, hj, rfl, HX⟩ := hrel
        have q0 : wr.cell? (ad.add (k * 6)) = some (.string r.out) := pw_cell_below HX.out HI6.out.c0
        by_cases l2 : j < pp
        · have hjn : j < acc.length := by rw [← HN2.out]; omega
          obtain ⟨ad2, vi2, vf2, e3, b6, _, _⟩ := c_at6 HC2.out j hjn
          cases e3
          have hlt := posR_lt r.out acc j (by rw [← HPP.out]; exact l2)
          have d0 := b6.c0
          clear b6
          generalize (acc.getD j zv).out = so at d0 hlt
          have q2 : wr.cell? (ad2.add (j * 6)) = some (.string so) := pw_cell_below HX.out d0
          have hb2 : Op.bytesLess so.toList r.out.toList = true := hlt
          have hj2 : j < n2 := by omega
          have hjb : decide ((j : Int) < (n2 : Int)) = true := decide_eq_true (by omega)
          have hjc : decide (j < n2) = true := decide_eq_true hj2
          clear d0 hlt
          go_wp2
          go_quiet (fail)
          go_wp2
          go_roundw
          case rel => exact ⟨j + 1, by omega, by go_num, pw_below_drewN HX.out _⟩
          case measure => simp [intOf]; omega
        · have hjp : j = pp := by omega
          subst hjp
          clear l2 hj
          by_cases l3 : j < n2
          · have hjn : j < acc.length := by rw [← HN2.out]; exact l3
            obtain ⟨ad2, vi2, vf2, e3, b6, _, _⟩ := c_at6 HC2.out j hjn
            cases e3
            have hat := posR_at r.out acc (by rw [← HPP.out]; exact hjn)
            rw [← HPP.out] at hat
            obtain ⟨so, hso⟩ : ∃ so, so = (acc.getD j zv).out := ⟨_, rfl⟩
            have d0 := b6.c0
            clear b6
            rw [← hso] at d0 hat
            have HSO := Lib.hid hso
            have q2 : wr.cell? (ad2.add (j * 6)) = some (.string so) := pw_cell_below HX.out d0
            have hb2 : Op.bytesLess so.toList r.out.toList = false := hat
            have hjb : decide ((j : Int) < (n2 : Int)) = true := decide_eq_true (by omega)
            have hjc : decide (j < n2) = true := decide_eq_true l3
            clear d0 hat hso
            go_wp2
            go_quiet (fail)
            go_wp2
            obtain ⟨wy, hwy⟩ : ∃ wy, wy = wr.drewN nq := ⟨_, rfl⟩
            rw [← hwy]
            have HY : Hid (Below wo.heap.size wo wy) := by show Below _ _ _; rw [hwy]; exact pw_below_drewN HX.out _
            have p2 : wy.cell? (ad2.add (j * 6)) = some (.string so) := by rw [hwy]; exact q2
            have HI7 := Lib.hid (HI6.out.below HY.out)
            have p0 := HI7.out.c0
            clear hwy q0 q2 hb2
            by_cases heq : so = r.out
            · have hq : (so.toList == r.out.toList) = true := by rw [str_eq_iff]; exact decide_eq_true heq
              have HEQ := Lib.hid heq
              clear heq
              go_quiet (fail)
              clear p0 p2
              go_upto_region 9 with fail
              obtain ⟨wz, hwz⟩ : ∃ wz, wz = wy.drewN nq := ⟨_, rfl⟩
              rw [← hwz]
              have HZ : Hid (Below wo.heap.size wo wz) := by show Below _ _ _; rw [hwz]; exact pw_below_drewN HY.out _
              obtain ⟨q0, q1, q2, q3, q4, q5⟩ := HI6.out.below HZ.out
              clear hwz
              have hfm := Kd.R_form HO.out (by rw [← HN2.out]; omega)
              obtain ⟨gg, cap, hfe, hg0, hg1, _⟩ := hfm
              injection hfe with hfa hfn hfc
              injection hfa with hfa
              subst hfa
              subst hfc
              have HOz := Lib.hid (Kd.R_below HO.out HZ.out)
              obtain ⟨cc, hcl, _, hcu⟩ : ∃ cc : List Value, cc.length = 6 ∧ True ∧ ∀ i u, cc[i]? = some u → wz.cell? ((⟨gg, 0, none⟩ : Addr).add (j * 6 + i)) = some u := by
                have hCz := Kd.C_below HC2.out HZ.out
                obtain ⟨ad3, e3, h3⟩ := hCz.2.2 (by omega)
                injection e3 with e3
                subst e3
                obtain ⟨cc, h4, _, h5⟩ := h3 j _ (List.getElem?_eq_getElem hjn)
                exact ⟨cc, h4, trivial, h5⟩
              have HCU := Lib.hid hcu
              have HCL := Lib.hid hcl
              have HBW := Lib.hid (HB.out.trans (HZ.out.mono HB.out.size))
              clear hfn hcu hcl
              go_wp2_with (with_reducible refine gate_ (.store 25 (.tmp 55) (.tmp 54)) rfl ?_; refine Held.of ?_)
              --S2
              refine Held.out (Kd.R_store (krun w) (w0 := w) w.heap.size rfl rfl 25 (.tmp 55) (.tmp 54) rfl 25 (o' := j * 6) (j : Int) 0 acc r (.agg #[.string r.out, .string r.cmd, .int .i64 r.time, .int .i64 r.mark, .slice A5 ri c5, .slice A6 rf c6]) [.string r.out, .string r.cmd, .int .i64 r.time, .int .i64 r.mark, .slice A5 ri c5, .slice A6 rf c6] cc (fun _ => True) (fun _ => False) (by first | rfl | (show Value.pointer (some ((⟨gg, 0, none⟩ : Addr).add (j * 6))) = _; rw [add_plain])) rfl rfl rfl (by kernel_rfl) (by simp [Value.oneCell']) HOz.out (by omega) (by omega) HCL.out (fun j' u hu => by have h := HCU.out j' u hu; rw [add_plain] at h; exact h) (by show 0 + 6 ≤ 6; decide) ?_ (fun _ hk => hk.elim) HBW.out ?_)
              · refine ⟨_, _, ?_, H12.out.1, H12.out.2⟩
                rw [List.take_zero, List.nil_append, List.drop_of_length_le (by rw [HCL.out]; exact Nat.le_refl 6), List.append_nil]
              intro w1 r1 b1 _
              have HR1 := Lib.hid r1
              have HB1 := Lib.hid b1
              have HAF : Hid (acc.set j r = foldR (l.take (k + 1))) := by
                show _ = _
                rw [HIN.out, foldR_snoc, ← HA.out]
                unfold insR
                rw [← HPP.out, if_pos ⟨hjn, by rw [← HSO.out]; exact HEQ.out⟩]
              clear r1 b1 q0 q1 q2 q3 q4 q5
              go_wp2
              go_roundw
              case rel => exact ⟨k + 1, acc.set j r, by omega, by go_num, by rw [List.length_set, ← HN2.out]; omega, HAF.out, HR1.out, HB1.out⟩
              case measure => simp [intOf]; omega
            · have hq : (so.toList == r.out.toList) = false := by rw [str_eq_iff]; exact decide_eq_false heq
              have HEQ := Lib.hid heq
              clear heq
              go_quiet (fail)
              go_wp2
              obtain ⟨wz, hwz⟩ : ∃ wz, wz = wy.drewN nq := ⟨_, rfl⟩
              rw [← hwz]
              have HZ : Hid (Below wo.heap.size wo wz) := by show Below _ _ _; rw [hwz]; exact pw_below_drewN HY.out _
              have HBW := Lib.hid (HB.out.trans (HZ.out.mono HB.out.size))
              have HOz := Lib.hid (Kd.R_below HO.out HZ.out)
              have HCz : Hid ((krun w).C wz (some ad2) n2 acc) := Kd.C_below HC2.out HZ.out
              have hjle : j ≤ acc.length := by rw [← HN2.out]; exact hple
              have HTK : Hid ((krun w).C wz (some ad2) j (acc.take j)) := by
                have h := Kd.C_take (k := krun w) (A := (some ad2)) (by have h := HCz.out; rw [HN2.out] at h; exact h) hjle
                have e : (acc.take j).length = j := by rw [List.length_take]; omega
                rw [e] at h
                exact h
              have ks := cut_cap_runs (some ad2) n2 c2 j (by omega)
              have HWD : Hid (Below w.heap.size w wz.drew) := below_drew HBW.out
              have HL0 : Hid ((krun w).R 25 (wz.drew.alloc (.cells #[] 25)) w.heap.size (fun _ => True) (.slice (some ⟨wz.heap.size, 0, none⟩) 0 0) []) := r_lit0 w wz.drew w.heap.size HBW.out.size
              have HL1 : Hid ((krun w).R 25 ((wz.drew.alloc (.cells #[] 25)).alloc (.cells #[.string r.out, .string r.cmd, .int .i64 r.time, .int .i64 r.mark, .slice A5 ri c5, .slice A6 rf c6] 25)) w.heap.size (fun _ => True) (.slice (some ⟨wz.heap.size, 0, none⟩) 0 0) []) := Kd.R_below HL0.out (below_alloc (Below.refl _ _) _)
              have HL2 : Hid ((krun w).R 25 (((wz.alloc (.cells #[.string r.out, .string r.cmd, .int .i64 r.time, .int .i64 r.mark, .slice A5 ri c5, .slice A6 rf c6] 25)).alloc (.cells #[] 25)).drew) w.heap.size (fun _ => True) (.slice (some ⟨wz.heap.size + 1, 0, none⟩) 0 0) []) := by
                have h := r_lit0 w (wz.alloc (.cells #[.string r.out, .string r.cmd, .int .i64 r.time, .int .i64 r.mark, .slice A5 ri c5, .slice A6 rf c6] 25)) w.heap.size (by rw [World.size_alloc']; have := HBW.out.size; omega)
                rw [World.size_alloc'] at h
                exact Kd.R_below h (below_drew (Below.refl _ _))
              have HX1 : Hid (((wz.drew.alloc (.cells #[] 25)).alloc (.cells #[.string r.out, .string r.cmd, .int .i64 r.time, .int .i64 r.mark, .slice A5 ri c5, .slice A6 rf c6] 25)).heap[wz.heap.size + 1]? = some (.cells #[.string r.out, .string r.cmd, .int .i64 r.time, .int .i64 r.mark, .slice A5 ri c5, .slice A6 rf c6] 25 (0, 0))) := by
                have e : (wz.drew.alloc (.cells #[] 25)).heap.size = wz.heap.size + 1 := World.size_alloc' wz.drew _
                show _ = _
                rw [← e]
                exact heap_alloc_new _ _
              have HX2 : Hid (((wz.alloc (.cells #[.string r.out, .string r.cmd, .int .i64 r.time, .int .i64 r.mark, .slice A5 ri c5, .slice A6 rf c6] 25)).alloc (.cells #[] 25)).drew.heap[wz.heap.size]? = some (.cells #[.string r.out, .string r.cmd, .int .i64 r.time, .int .i64 r.mark, .slice A5 ri c5, .slice A6 rf c6] 25 (0, 0))) := (Below.heap_alloc _ _ _ (by rw [World.size_alloc']; exact Nat.lt_succ_self _)).trans (heap_alloc_new wz _)
              clear hwz hjle
              refine start_ (n := 12) (S := fun w' => Below w.heap.size w w' ∧ w'.cell? (ad.add (k * 6)) = some (.string r.out) ∧ w'.cell? ⟨(ad.add (k * 6)).block, (ad.add (k * 6)).off + 1, none⟩ = some (.string r.cmd) ∧ w'.cell? ⟨(ad.add (k * 6)).block, (ad.add (k * 6)).off + 2, none⟩ = some (.int .i64 r.time) ∧ w'.cell? ⟨(ad.add (k * 6)).block, (ad.add (k * 6)).off + 3, none⟩ = some (.int .i64 r.mark) ∧ w'.cell? ⟨(ad.add (k * 6)).block, (ad.add (k * 6)).off + 4, none⟩ = some (.slice A5 ri c5) ∧ w'.cell? ⟨(ad.add (k * 6)).block, (ad.add (k * 6)).off + 5, none⟩ = some (.slice A6 rf c6)) (ds := []) #[false, false, false, false, false, false, false, false, false, false, false, false] (by kernel_rfl) rfl rfl ⟨HWD.out, pw_cell_below HWD.out HW6.out.c0, pw_cell_below HWD.out HW6.out.c1, pw_cell_below HWD.out HW6.out.c2, pw_cell_below HWD.out HW6.out.c3, pw_cell_below HWD.out HW6.out.c4, pw_cell_below HWD.out HW6.out.c5⟩ (fun hHeld => ?_)
              refine pure_ (i := 1) (N := some 57) (v := ?_) (a' := ?_) #[false, true, false, false, false, false, false, false, false, false, false, false] rfl rfl (by kernel_rfl) (fun _ _ _ h => h) (Or.inl ⟨by rfl, ?_⟩) ?_ ?_
              rotate_left
              · intro w'
                go_simp
                with_reducible rfl
              rotate_left
              · simp only [Act.put, List.setIfInBounds_toArray, List.set_cons_zero, List.set_cons_succ, i64_w, i32_w]
                rfl
              refine pure_ (i := 2) (N := some 58) (v := ?_) (a' := ?_) #[false, true, true, false, false, false, false, false, false, false, false, false] rfl rfl (by kernel_rfl) (fun _ _ _ h => h) (Or.inl ⟨by rfl, ?_⟩) ?_ ?_
              rotate_left
              · intro w'
                go_simp
                with_reducible rfl
              rotate_left
              · simp only [Act.put, List.setIfInBounds_toArray, List.set_cons_zero, List.set_cons_succ, i64_w, i32_w]
                rfl
              refine pure_ (i := 3) (N := some 59) (v := ?_) (a' := ?_) #[false, true, true, true, false, false, false, false, false, false, false, false] rfl rfl (by kernel_rfl) (fun _ _ _ h => h) (Or.inl ⟨by rfl, ?_⟩) ?_ ?_
              rotate_left
              · intro w'
                go_simp
                with_reducible rfl
              rotate_left
              · simp only [Act.put, List.setIfInBounds_toArray, List.set_cons_zero, List.set_cons_succ, i64_w, i32_w]
                rfl
              refine pure_ (i := 5) (N := some 61) (v := ?_) (a' := ?_) #[false, true, true, true, false, true, false, false, false, false, false, false] rfl rfl (by kernel_rfl) (fun _ _ _ h => h) (Or.inl ⟨by rfl, ?_⟩) ?_ ?_
              rotate_left
              · intro w'
                go_simp
                with_reducible rfl
              rotate_left
              · simp only [Act.put, List.setIfInBounds_toArray, List.set_cons_zero, List.set_cons_succ, i64_w, i32_w]
                rfl
              refine pure_ (i := 6) (N := some 62) (v := ?_) (a' := ?_) #[false, true, true, true, false, true, true, false, false, false, false, false] rfl rfl (by kernel_rfl) (fun _ _ _ h => h) (Or.inl ⟨by rfl, ?_⟩) ?_ ?_
              rotate_left
              · intro w'
                go_simp
                with_reducible rfl
              rotate_left
              · simp only [Act.put, List.setIfInBounds_toArray, List.set_cons_zero, List.set_cons_succ, i64_w, i32_w]
                rfl
              refine pure_ (i := 7) (N := some 63) (v := ?_) (a' := ?_) #[false, true, true, true, false, true, true, true, false, false, false, false] rfl rfl (by kernel_rfl) (fun _ _ _ h => h) (Or.inl ⟨by rfl, ?_⟩) ?_ ?_
              rotate_left
              · intro w'
                go_simp
                with_reducible rfl
              rotate_left
              · simp only [Act.put, List.setIfInBounds_toArray, List.set_cons_zero, List.set_cons_succ, i64_w, i32_w]
                rfl
              refine take_ (i := 8) (N := some 64) (v := ?_) (a' := ?_) #[false, true, true, true, false, true, true, true, true, false, false, false] rfl rfl (by kernel_rfl) (fun _ _ _ h => h) (Or.inl ⟨by rfl, ?_⟩) hHeld ?_ ?_
              rotate_left
              · rintro w' ⟨s0, s1, s2, s3, s4, s5, s6⟩
                go_simp
                with_reducible rfl
              rotate_left
              · simp only [Act.put, List.setIfInBounds_toArray, List.set_cons_zero, List.set_cons_succ, i64_w, i32_w]
                rfl
              refine join_ (σ := Value × Value × Nat) 2 #[true, true, true, true, true, true, true, true, true, true, false, false] (fun s => [(56, s.1), (60, s.2.1), (65, .slice (some ⟨s.2.2, 0, none⟩) 1 1)]) (fun s w' => Below w.heap.size w w' ∧ (krun w).R 25 w' w.heap.size (fun _ => True) s.2.1 (acc.take j) ∧ w'.heap[s.2.2]? = some (.cells #[.string r.out, .string r.cmd, .int .i64 r.time, .int .i64 r.mark, .slice A5 ri c5, .slice A6 rf c6] 25 (0, 0)) ∧ Below wz.heap.size wz w' ∧ ∀ k', s.2.1.ownBlock = some k' → wz.heap.size ≤ k') ?_ ?_
              rotate_left
              · intro hCont
                refine two_ (i := 0) (j := 9) (Ni := some 56) (Nj := some 65) #[true, true, true, true, false, true, true, true, true, false, false, false] #[false, true, true, true, false, true, true, true, true, true, false, false] rfl rfl rfl rfl (by kernel_rfl) (by decide) (by decide) (fun K hK => ?_) (fun K hK => ?_)
                · skip
                  refine value_ (w1 := ?_) (v := ?_) (by rfl) rfl ?_ ?_
                  rotate_left 2
                  · go_simp
                    constructor
                    · rfl
                    · rfl
                  refine hK.out _ _ ⟨hHeld.1.alloc hHeld.1.size _, pw_cell_below (hHeld.1.alloc hHeld.1.size _) HW6.out.c0, pw_cell_below (hHeld.1.alloc hHeld.1.size _) HW6.out.c1, pw_cell_below (hHeld.1.alloc hHeld.1.size _) HW6.out.c2, pw_cell_below (hHeld.1.alloc hHeld.1.size _) HW6.out.c3, pw_cell_below (hHeld.1.alloc hHeld.1.size _) HW6.out.c4, pw_cell_below (hHeld.1.alloc hHeld.1.size _) HW6.out.c5⟩ (fun hHeld => ?_)
                  clear hK K
                  refine norm_ (a' := ?_) ?_ ?_
                  rotate_left
                  · show Act.put _ (some 56) _ = _
                    simp only [Act.put, List.setIfInBounds_toArray, List.set_cons_zero, List.set_cons_succ, i64_w, i32_w]
                    rfl
                  refine two_ (i := 4) (j := 9) (Ni := some 60) (Nj := some 65) #[true, true, true, true, true, true, true, true, true, false, false, false] #[true, true, true, true, false, true, true, true, true, true, false, false] rfl rfl rfl rfl (by kernel_rfl) (by decide) (by decide) (fun K hK => ?_) (fun K hK => ?_)
                  · skip
                    refine Kd.R_append_rows_step (krun w) (Rr := (krun w).K wz) (w0 := w) w.heap.size rfl (.tmp 56) (.tmp 59) 52 25 (.agg #[.string ⟨#[]⟩, .string ⟨#[]⟩, .int .i64 0, .int .i64 0, .slice none 0 0, .slice none 0 0]) 96 rfl Try.underlying52 (by kernel_rfl) rfl (by show 0 < 6; decide) (by decide) (.slice (some ⟨wz.heap.size, 0, none⟩) 0 0) [] (acc.take j) (some ad2) j c2 (fun _ => True) (fun _ => False) rfl rfl HL0.out (Kd.C_below HTK.out (below_alloc (below_drew (Below.refl _ _)) _)) (fun _ _ h => h) (fun _ hk => hk.elim) (fun _ _ => trivial) hHeld.1 hHeld.1.size (by simp only [List.length_nil]; omega) ?_
                    intro va wa ra ba ga hat
                    rw [List.nil_append] at ra
                    have HRA := Lib.hid ra
                    have HZA : Hid (Below wz.heap.size wz wa) := pw_below_grown (below_alloc (below_drew (Below.refl wz.heap.size wz)) _) _ (below_alloc (below_drew (Below.refl wz.heap.size wz)) _).size ga (fun k' hk' => by simp only [Value.ownBlock] at hk'; injection hk' with hk'; omega)
                    have HVB : Hid (∀ k', va.ownBlock = some k' → wz.heap.size ≤ k') := new_block hat (fun k' hk' => by simp only [Value.ownBlock] at hk'; injection hk' with hk'; omega) (below_alloc (below_drew (Below.refl wz.heap.size wz)) _).size
                    clear hat
                    clear ra ga
                    refine hK.out _ _ ⟨ba, pw_cell_below (ba) HW6.out.c0, pw_cell_below (ba) HW6.out.c1, pw_cell_below (ba) HW6.out.c2, pw_cell_below (ba) HW6.out.c3, pw_cell_below (ba) HW6.out.c4, pw_cell_below (ba) HW6.out.c5⟩ (fun hHeld => ?_)
                    clear hK K
                    refine norm_ (a' := ?_) ?_ ?_
                    rotate_left
                    · show Act.put _ (some 60) _ = _
                      simp only [Act.put, List.setIfInBounds_toArray, List.set_cons_zero, List.set_cons_succ, i64_w, i32_w]
                      rfl
                    refine one_ (i := 9) (N := some 65) #[true, true, true, true, true, true, true, true, true, true, false, false] rfl rfl (by kernel_rfl) (by decide) (fun K hK => ?_)
                    refine value_ (w1 := ?_) (v := ?_) (by rfl) rfl ?_ ?_
                    rotate_left 2
                    · go_simp
                      constructor
                      · rfl
                      · rfl
                    refine hK.out _ _ ⟨hHeld.1.alloc hHeld.1.size _, pw_cell_below (hHeld.1.alloc hHeld.1.size _) HW6.out.c0, pw_cell_below (hHeld.1.alloc hHeld.1.size _) HW6.out.c1, pw_cell_below (hHeld.1.alloc hHeld.1.size _) HW6.out.c2, pw_cell_below (hHeld.1.alloc hHeld.1.size _) HW6.out.c3, pw_cell_below (hHeld.1.alloc hHeld.1.size _) HW6.out.c4, pw_cell_below (hHeld.1.alloc hHeld.1.size _) HW6.out.c5⟩ (fun hHeld => ?_)
                    clear hK K
                    refine norm_ (a' := ?_) ?_ ?_
                    rotate_left
                    · show Act.put _ (some 65) _ = _
                      simp only [Act.put, List.setIfInBounds_toArray, List.set_cons_zero, List.set_cons_succ, i64_w, i32_w]
                      rfl
                    exact norm_ (by simp only [putAll, Act.put, List.setIfInBounds_toArray, List.set_cons_zero, List.set_cons_succ]) (hCont (.slice (some ⟨wz.heap.size, 0, none⟩) 0 0, va, wa.heap.size) _ ⟨hHeld.1, Kd.R_below HRA.out (below_alloc (Below.refl _ _) _), heap_alloc_new wa _, below_alloc HZA.out _, HVB.out⟩)
                  · skip
                    refine value_ (w1 := ?_) (v := ?_) (by rfl) rfl ?_ ?_
                    rotate_left 2
                    · go_simp
                      constructor
                      · rfl
                      · rfl
                    refine hK.out _ _ ⟨hHeld.1.alloc hHeld.1.size _, pw_cell_below (hHeld.1.alloc hHeld.1.size _) HW6.out.c0, pw_cell_below (hHeld.1.alloc hHeld.1.size _) HW6.out.c1, pw_cell_below (hHeld.1.alloc hHeld.1.size _) HW6.out.c2, pw_cell_below (hHeld.1.alloc hHeld.1.size _) HW6.out.c3, pw_cell_below (hHeld.1.alloc hHeld.1.size _) HW6.out.c4, pw_cell_below (hHeld.1.alloc hHeld.1.size _) HW6.out.c5⟩ (fun hHeld => ?_)
                    clear hK K
                    refine norm_ (a' := ?_) ?_ ?_
                    rotate_left
                    · show Act.put _ (some 65) _ = _
                      simp only [Act.put, List.setIfInBounds_toArray, List.set_cons_zero, List.set_cons_succ, i64_w, i32_w]
                      rfl
                    refine one_ (i := 4) (N := some 60) #[true, true, true, true, true, true, true, true, true, true, false, false] rfl rfl (by kernel_rfl) (by decide) (fun K hK => ?_)
                    refine Kd.R_append_rows_step (krun w) (Rr := (krun w).K wz) (w0 := w) w.heap.size rfl (.tmp 56) (.tmp 59) 52 25 (.agg #[.string ⟨#[]⟩, .string ⟨#[]⟩, .int .i64 0, .int .i64 0, .slice none 0 0, .slice none 0 0]) 96 rfl Try.underlying52 (by kernel_rfl) rfl (by show 0 < 6; decide) (by decide) (.slice (some ⟨wz.heap.size, 0, none⟩) 0 0) [] (acc.take j) (some ad2) j c2 (fun _ => True) (fun _ => False) rfl rfl HL1.out (Kd.C_below HTK.out (below_alloc (below_alloc (below_drew (Below.refl _ _)) _) _)) (fun _ _ h => h) (fun _ hk => hk.elim) (fun _ _ => trivial) hHeld.1 hHeld.1.size (by simp only [List.length_nil]; omega) ?_
                    intro va wa ra ba ga hat
                    rw [List.nil_append] at ra
                    have HRA := Lib.hid ra
                    have HZa : Hid (wa.heap[wz.heap.size + 1]? = some (.cells #[.string r.out, .string r.cmd, .int .i64 r.time, .int .i64 r.mark, .slice A5 ri c5, .slice A6 rf c6] 25 (0, 0))) := (ga.block _ (blk_lt HX1.out) (by simp only [Value.ownBlock]; intro h; injection h with h; omega)).trans HX1.out
                    have HZA : Hid (Below wz.heap.size wz wa) := pw_below_grown (below_alloc (below_alloc (below_drew (Below.refl wz.heap.size wz)) _) _) _ (below_alloc (below_alloc (below_drew (Below.refl wz.heap.size wz)) _) _).size ga (fun k' hk' => by simp only [Value.ownBlock] at hk'; injection hk' with hk'; omega)
                    have HVB : Hid (∀ k', va.ownBlock = some k' → wz.heap.size ≤ k') := new_block hat (fun k' hk' => by simp only [Value.ownBlock] at hk'; injection hk' with hk'; omega) (below_alloc (below_alloc (below_drew (Below.refl wz.heap.size wz)) _) _).size
                    clear hat
                    clear ra ga
                    refine hK.out _ _ ⟨ba, pw_cell_below (ba) HW6.out.c0, pw_cell_below (ba) HW6.out.c1, pw_cell_below (ba) HW6.out.c2, pw_cell_below (ba) HW6.out.c3, pw_cell_below (ba) HW6.out.c4, pw_cell_below (ba) HW6.out.c5⟩ (fun hHeld => ?_)
                    clear hK K
                    refine norm_ (a' := ?_) ?_ ?_
                    rotate_left
                    · show Act.put _ (some 60) _ = _
                      simp only [Act.put, List.setIfInBounds_toArray, List.set_cons_zero, List.set_cons_succ, i64_w, i32_w]
                      rfl
                    exact norm_ (by simp only [putAll, Act.put, List.setIfInBounds_toArray, List.set_cons_zero, List.set_cons_succ]) (hCont (.slice (some ⟨wz.heap.size, 0, none⟩) 0 0, va, wz.heap.size + 1) _ ⟨hHeld.1, HRA.out, HZa.out, HZA.out, HVB.out⟩)
                · skip
                  refine value_ (w1 := ?_) (v := ?_) (by rfl) rfl ?_ ?_
                  rotate_left 2
                  · go_simp
                    constructor
                    · rfl
                    · rfl
                  refine hK.out _ _ ⟨hHeld.1.alloc hHeld.1.size _, pw_cell_below (hHeld.1.alloc hHeld.1.size _) HW6.out.c0, pw_cell_below (hHeld.1.alloc hHeld.1.size _) HW6.out.c1, pw_cell_below (hHeld.1.alloc hHeld.1.size _) HW6.out.c2, pw_cell_below (hHeld.1.alloc hHeld.1.size _) HW6.out.c3, pw_cell_below (hHeld.1.alloc hHeld.1.size _) HW6.out.c4, pw_cell_below (hHeld.1.alloc hHeld.1.size _) HW6.out.c5⟩ (fun hHeld => ?_)
                  clear hK K
                  refine norm_ (a' := ?_) ?_ ?_
                  rotate_left
                  · show Act.put _ (some 65) _ = _
                    simp only [Act.put, List.setIfInBounds_toArray, List.set_cons_zero, List.set_cons_succ, i64_w, i32_w]
                    rfl
                  refine one_ (i := 0) (N := some 56) #[true, true, true, true, false, true, true, true, true, true, false, false] rfl rfl (by kernel_rfl) (by decide) (fun K hK => ?_)
                  refine value_ (w1 := ?_) (v := ?_) (by rfl) rfl ?_ ?_
                  rotate_left 2
                  · go_simp
                    constructor
                    · rfl
                    · rfl
                  refine hK.out _ _ ⟨hHeld.1.alloc hHeld.1.size _, pw_cell_below (hHeld.1.alloc hHeld.1.size _) HW6.out.c0, pw_cell_below (hHeld.1.alloc hHeld.1.size _) HW6.out.c1, pw_cell_below (hHeld.1.alloc hHeld.1.size _) HW6.out.c2, pw_cell_below (hHeld.1.alloc hHeld.1.size _) HW6.out.c3, pw_cell_below (hHeld.1.alloc hHeld.1.size _) HW6.out.c4, pw_cell_below (hHeld.1.alloc hHeld.1.size _) HW6.out.c5⟩ (fun hHeld => ?_)
                  clear hK K
                  refine norm_ (a' := ?_) ?_ ?_
                  rotate_left
                  · show Act.put _ (some 56) _ = _
                    simp only [Act.put, List.setIfInBounds_toArray, List.set_cons_zero, List.set_cons_succ, i64_w, i32_w]
                    rfl
                  refine one_ (i := 4) (N := some 60) #[true, true, true, true, true, true, true, true, true, true, false, false] rfl rfl (by kernel_rfl) (by decide) (fun K hK => ?_)
                  refine Kd.R_append_rows_step (krun w) (Rr := (krun w).K wz) (w0 := w) w.heap.size rfl (.tmp 56) (.tmp 59) 52 25 (.agg #[.string ⟨#[]⟩, .string ⟨#[]⟩, .int .i64 0, .int .i64 0, .slice none 0 0, .slice none 0 0]) 96 rfl Try.underlying52 (by kernel_rfl) rfl (by show 0 < 6; decide) (by decide) (.slice (some ⟨wz.heap.size + 1, 0, none⟩) 0 0) [] (acc.take j) (some ad2) j c2 (fun _ => True) (fun _ => False) rfl rfl HL2.out (Kd.C_below HTK.out (below_drew (below_alloc (below_alloc (Below.refl _ _) _) _))) (fun _ _ h => h) (fun _ hk => hk.elim) (fun _ _ => trivial) hHeld.1 hHeld.1.size (by simp only [List.length_nil]; omega) ?_
                  intro va wa ra ba ga hat
                  rw [List.nil_append] at ra
                  have HRA := Lib.hid ra
                  have HZa : Hid (wa.heap[wz.heap.size]? = some (.cells #[.string r.out, .string r.cmd, .int .i64 r.time, .int .i64 r.mark, .slice A5 ri c5, .slice A6 rf c6] 25 (0, 0))) := (ga.block _ (blk_lt HX2.out) (by simp only [Value.ownBlock]; intro h; injection h with h; omega)).trans HX2.out
                  have HZA : Hid (Below wz.heap.size wz wa) := pw_below_grown (below_drew (below_alloc (below_alloc (Below.refl wz.heap.size wz) _) _)) _ (below_drew (below_alloc (below_alloc (Below.refl wz.heap.size wz) _) _)).size ga (fun k' hk' => by simp only [Value.ownBlock] at hk'; injection hk' with hk'; omega)
                  have HVB : Hid (∀ k', va.ownBlock = some k' → wz.heap.size ≤ k') := new_block hat (fun k' hk' => by simp only [Value.ownBlock] at hk'; injection hk' with hk'; omega) (below_drew (below_alloc (below_alloc (Below.refl wz.heap.size wz) _) _)).size
                  clear hat
                  clear ra ga
                  refine hK.out _ _ ⟨ba, pw_cell_below (ba) HW6.out.c0, pw_cell_below (ba) HW6.out.c1, pw_cell_below (ba) HW6.out.c2, pw_cell_below (ba) HW6.out.c3, pw_cell_below (ba) HW6.out.c4, pw_cell_below (ba) HW6.out.c5⟩ (fun hHeld => ?_)
                  clear hK K
                  refine norm_ (a' := ?_) ?_ ?_
                  rotate_left
                  · show Act.put _ (some 60) _ = _
                    simp only [Act.put, List.setIfInBounds_toArray, List.set_cons_zero, List.set_cons_succ, i64_w, i32_w]
                    rfl
                  exact norm_ (by simp only [putAll, Act.put, List.setIfInBounds_toArray, List.set_cons_zero, List.set_cons_succ]) (hCont (.slice (some ⟨wz.heap.size + 1, 0, none⟩) 0 0, va, wz.heap.size) _ ⟨hHeld.1, HRA.out, HZa.out, HZA.out, HVB.out⟩)
              rintro ⟨v56, va, bb⟩ wx ⟨hF1, hF2, hF3, hF4, hF5⟩
              simp only at hF2 hF3 hF4 hF5
              have hHeld : Below w.heap.size w wx ∧ wx.cell? (ad.add (k * 6)) = some (.string r.out) ∧ wx.cell? ⟨(ad.add (k * 6)).block, (ad.add (k * 6)).off + 1, none⟩ = some (.string r.cmd) ∧ wx.cell? ⟨(ad.add (k * 6)).block, (ad.add (k * 6)).off + 2, none⟩ = some (.int .i64 r.time) ∧ wx.cell? ⟨(ad.add (k * 6)).block, (ad.add (k * 6)).off + 3, none⟩ = some (.int .i64 r.mark) ∧ wx.cell? ⟨(ad.add (k * 6)).block, (ad.add (k * 6)).off + 4, none⟩ = some (.slice A5 ri c5) ∧ wx.cell? ⟨(ad.add (k * 6)).block, (ad.add (k * 6)).off + 5, none⟩ = some (.slice A6 rf c6) := ⟨hF1, pw_cell_below (hF1) HW6.out.c0, pw_cell_below (hF1) HW6.out.c1, pw_cell_below (hF1) HW6.out.c2, pw_cell_below (hF1) HW6.out.c3, pw_cell_below (hF1) HW6.out.c4, pw_cell_below (hF1) HW6.out.c5⟩
              have HRA := Lib.hid hF2
              have HBX := Lib.hid hF3
              have HZX := Lib.hid hF4
              have HVB := Lib.hid hF5
              clear hF1 hF2 hF3 hF4 hF5
              refine norm_ (a' := ?_) ?_ ?_
              rotate_left
              · simp only [putAll, Act.put, List.setIfInBounds_toArray, List.set_cons_zero, List.set_cons_succ]
                rfl
              refine one_ (i := 10) (N := some 66) #[true, true, true, true, true, true, true, true, true, true, true, false] rfl rfl (by kernel_rfl) (by decide) (fun K hK => ?_)
              refine Kd.R_append_rows_step (krun w) (Rr := (krun w).K wx) (w0 := w) w.heap.size rfl (.tmp 60) (.tmp 65) 52 25 (.agg #[.string ⟨#[]⟩, .string ⟨#[]⟩, .int .i64 0, .int .i64 0, .slice none 0 0, .slice none 0 0]) 96 rfl Try.underlying52 (by kernel_rfl) rfl (by show 0 < 6; decide) (by decide) va (acc.take j) [r] (some ⟨bb, 0, none⟩) 1 1 (fun _ => True) (fun _ => False) rfl rfl HRA.out (box_row HBX.out H12.out.1 H12.out.2) (fun _ _ h => h) (fun _ hk => hk.elim) (fun _ _ => trivial) hHeld.1 hHeld.1.size (by simp only [List.length_take]; omega) ?_
              intro vb wb rb bb2 gb _
              have HZW : Hid (Below wz.heap.size wz wb) := pw_below_grown HZX.out _ HZX.out.size gb (fun k' hk' => HVB.out k' hk')
              clear gb
              refine hK.out _ _ ⟨bb2, pw_cell_below (bb2) HW6.out.c0, pw_cell_below (bb2) HW6.out.c1, pw_cell_below (bb2) HW6.out.c2, pw_cell_below (bb2) HW6.out.c3, pw_cell_below (bb2) HW6.out.c4, pw_cell_below (bb2) HW6.out.c5⟩ (fun hHeld => ?_)
              clear hK K
              refine norm_ (a' := ?_) ?_ ?_
              rotate_left
              · show Act.put _ (some 66) _ = _
                simp only [Act.put, List.setIfInBounds_toArray, List.set_cons_zero, List.set_cons_succ, i64_w, i32_w]
                rfl
              refine pure_ (i := 11) (N := some 6) (v := ?_) (a' := ?_) #[true, true, true, true, true, true, true, true, true, true, true, true] rfl rfl (by kernel_rfl) (fun _ _ _ h => h) (Or.inl ⟨by rfl, ?_⟩) ?_ ?_
              rotate_left
              · intro w'
                go_simp
                with_reducible rfl
              rotate_left
              · simp only [Act.put, List.setIfInBounds_toArray, List.set_cons_zero, List.set_cons_succ, i64_w, i32_w]
                rfl
              refine done_ (by kernel_rfl) ?_
              have HRB := Lib.hid rb
              have HBB := Lib.hid bb2
              clear rb bb2 hHeld ks
              have HCw : Hid ((krun w).C wb (some (ad2.add (j * 6))) (acc.drop j).length (acc.drop j)) := by
                have h := Kd.C_drop (k := krun w) (A := some ad2) (c := c2) (by have h := Kd.C_below HCz.out HZW.out; rw [HN2.out] at h; exact h) (show j ≤ acc.length by rw [← HN2.out]; exact hple) (by rw [← HN2.out]; exact hc2)
                rw [if_neg (by omega)] at h
                exact h
              have kd := cut_from_runs (some ad2) n2 c2 j (by omega)
              have hdl : (acc.drop j).length = n2 - j := by rw [List.length_drop, ← HN2.out]
              rw [hdl] at HCw
              clear hdl
              go_wp2_with (at_builtin; refine Held.of ?_)
              refine Held.out (Kd.R_append_rows (krun w) (Rr := (krun w).K wb) (w0 := w) (W := wb) w.heap.size rfl (.tmp 67) (.tmp 70) 52 25 (.agg #[.string ⟨#[]⟩, .string ⟨#[]⟩, .int .i64 0, .int .i64 0, .slice none 0 0, .slice none 0 0]) 96 rfl Try.underlying52 (by kernel_rfl) rfl (by show 0 < 6; decide) (by decide) vb (acc.take j ++ [r]) (acc.drop j) _ (n2 - j) _ (fun _ => True) (fun _ => False) rfl rfl HRB.out HCw.out (fun _ _ h => h) (fun _ hk => hk.elim) (fun _ _ => trivial) HBB.out HBB.out.size (by simp only [List.length_append, List.length_take, List.length_cons, List.length_nil]; omega) ?_)
              intro vc wc rc bc _ _
              have HRC := Lib.hid rc
              have HBC := Lib.hid bc
              have HAF : Hid (acc.take j ++ [r] ++ acc.drop j = foldR (l.take (k + 1))) := by
                show _ = _
                rw [HIN.out, foldR_snoc, ← HA.out]
                unfold insR
                rw [← HPP.out, if_neg (fun h => HEQ.out (by rw [HSO.out]; exact h.2))]
              have hlen : (acc.take j ++ [r] ++ acc.drop j).length ≤ k + 1 := by
                simp only [List.length_append, List.length_take, List.length_drop, List.length_cons, List.length_nil]
                rw [← HN2.out]
                omega
              clear rc bc kd
              go_wp2
              go_roundw
              case rel => exact ⟨k + 1, _, by omega, by go_num, hlen, HAF.out, HRC.out, HBC.out⟩
              case measure => simp [intOf]; omega
          · have hj3 : j = n2 := by omega
            subst hj3
            have hjb : decide ((j : Int) < (j : Int)) = false := decide_eq_false (by omega)
            have hjc : decide (j < j) = false := decide_eq_false (by omega)
            go_wp2
            go_quiet (fail)
            go_wp2
            obtain ⟨wy, hwy⟩ : ∃ wy, wy = wr.drewN nq := ⟨_, rfl⟩
            rw [← hwy]
            have HY : Hid (Below wo.heap.size wo wy) := by show Below _ _ _; rw [hwy]; exact pw_below_drewN HX.out _
            clear hwy q0
            go_quiet (fail)
            go_wp2
            obtain ⟨wz, hwz⟩ : ∃ wz, wz = wy.drewN nq := ⟨_, rfl⟩
            rw [← hwz]
            have HZ : Hid (Below wo.heap.size wo wz) := by show Below _ _ _; rw [hwz]; exact pw_below_drewN HY.out _
            have HBW := Lib.hid (HB.out.trans (HZ.out.mono HB.out.size))
            have HOz := Lib.hid (Kd.R_below HO.out HZ.out)
            have HCz : Hid ((krun w).C wz A2 j acc) := Kd.C_below HC2.out HZ.out
            have hjle : j ≤ acc.length := by rw [← HN2.out]; exact hple
            have HTK : Hid ((krun w).C wz A2 j (acc.take j)) := by
              have h := Kd.C_take (k := krun w) (A := A2) (by have h := HCz.out; rw [HN2.out] at h; exact h) hjle
              have e : (acc.take j).length = j := by rw [List.length_take]; omega
              rw [e] at h
              exact h
            have ks := cut_cap_runs A2 j c2 j (by omega)
            have HWD : Hid (Below w.heap.size w wz.drew) := below_drew HBW.out
            have HL0 : Hid ((krun w).R 25 (wz.drew.alloc (.cells #[] 25)) w.heap.size (fun _ => True) (.slice (some ⟨wz.heap.size, 0, none⟩) 0 0) []) := r_lit0 w wz.drew w.heap.size HBW.out.size
            have HL1 : Hid ((krun w).R 25 ((wz.drew.alloc (.cells #[] 25)).alloc (.cells #[.string r.out, .string r.cmd, .int .i64 r.time, .int .i64 r.mark, .slice A5 ri c5, .slice A6 rf c6] 25)) w.heap.size (fun _ => True) (.slice (some ⟨wz.heap.size, 0, none⟩) 0 0) []) := Kd.R_below HL0.out (below_alloc (Below.refl _ _) _)
            have HL2 : Hid ((krun w).R 25 (((wz.alloc (.cells #[.string r.out, .string r.cmd, .int .i64 r.time, .int .i64 r.mark, .slice A5 ri c5, .slice A6 rf c6] 25)).alloc (.cells #[] 25)).drew) w.heap.size (fun _ => True) (.slice (some ⟨wz.heap.size + 1, 0, none⟩) 0 0) []) := by
              have h := r_lit0 w (wz.alloc (.cells #[.string r.out, .string r.cmd, .int .i64 r.time, .int .i64 r.mark, .slice A5 ri c5, .slice A6 rf c6] 25)) w.heap.size (by rw [World.size_alloc']; have := HBW.out.size; omega)
              rw [World.size_alloc'] at h
              exact Kd.R_below h (below_drew (Below.refl _ _))
            have HX1 : Hid (((wz.drew.alloc (.cells #[] 25)).alloc (.cells #[.string r.out, .string r.cmd, .int .i64 r.time, .int .i64 r.mark, .slice A5 ri c5, .slice A6 rf c6] 25)).heap[wz.heap.size + 1]? = some (.cells #[.string r.out, .string r.cmd, .int .i64 r.time, .int .i64 r.mark, .slice A5 ri c5, .slice A6 rf c6] 25 (0, 0))) := by
              have e : (wz.drew.alloc (.cells #[] 25)).heap.size = wz.heap.size + 1 := World.size_alloc' wz.drew _
              show _ = _
              rw [← e]
              exact heap_alloc_new _ _
            have HX2 : Hid (((wz.alloc (.cells #[.string r.out, .string r.cmd, .int .i64 r.time, .int .i64 r.mark, .slice A5 ri c5, .slice A6 rf c6] 25)).alloc (.cells #[] 25)).drew.heap[wz.heap.size]? = some (.cells #[.string r.out, .string r.cmd, .int .i64 r.time, .int .i64 r.mark, .slice A5 ri c5, .slice A6 rf c6] 25 (0, 0))) := (Below.heap_alloc _ _ _ (by rw [World.size_alloc']; exact Nat.lt_succ_self _)).trans (heap_alloc_new wz _)
            clear hwz hjle
            refine start_ (n := 12) (S := fun w' => Below w.heap.size w w' ∧ w'.cell? (ad.add (k * 6)) = some (.string r.out) ∧ w'.cell? ⟨(ad.add (k * 6)).block, (ad.add (k * 6)).off + 1, none⟩ = some (.string r.cmd) ∧ w'.cell? ⟨(ad.add (k * 6)).block, (ad.add (k * 6)).off + 2, none⟩ = some (.int .i64 r.time) ∧ w'.cell? ⟨(ad.add (k * 6)).block, (ad.add (k * 6)).off + 3, none⟩ = some (.int .i64 r.mark) ∧ w'.cell? ⟨(ad.add (k * 6)).block, (ad.add (k * 6)).off + 4, none⟩ = some (.slice A5 ri c5) ∧ w'.cell? ⟨(ad.add (k * 6)).block, (ad.add (k * 6)).off + 5, none⟩ = some (.slice A6 rf c6)) (ds := []) #[false, false, false, false, false, false, false, false, false, false, false, false] (by kernel_rfl) rfl rfl ⟨HWD.out, pw_cell_below HWD.out HW6.out.c0, pw_cell_below HWD.out HW6.out.c1, pw_cell_below HWD.out HW6.out.c2, pw_cell_below HWD.out HW6.out.c3, pw_cell_below HWD.out HW6.out.c4, pw_cell_below HWD.out HW6.out.c5⟩ (fun hHeld => ?_)
            refine pure_ (i := 1) (N := some 57) (v := ?_) (a' := ?_) #[false, true, false, false, false, false, false, false, false, false, false, false] rfl rfl (by kernel_rfl) (fun _ _ _ h => h) (Or.inl ⟨by rfl, ?_⟩) ?_ ?_
            rotate_left
            · intro w'
              go_simp
              with_reducible rfl
            rotate_left
            · simp only [Act.put, List.setIfInBounds_toArray, List.set_cons_zero, List.set_cons_succ, i64_w, i32_w]
              rfl
            refine pure_ (i := 2) (N := some 58) (v := ?_) (a' := ?_) #[false, true, true, false, false, false, false, false, false, false, false, false] rfl rfl (by kernel_rfl) (fun _ _ _ h => h) (Or.inl ⟨by rfl, ?_⟩) ?_ ?_
            rotate_left
            · intro w'
              go_simp
              with_reducible rfl
            rotate_left
            · simp only [Act.put, List.setIfInBounds_toArray, List.set_cons_zero, List.set_cons_succ, i64_w, i32_w]
              rfl
            refine pure_ (i := 3) (N := some 59) (v := ?_) (a' := ?_) #[false, true, true, true, false, false, false, false, false, false, false, false] rfl rfl (by kernel_rfl) (fun _ _ _ h => h) (Or.inl ⟨by rfl, ?_⟩) ?_ ?_
            rotate_left
            · intro w'
              go_simp
              with_reducible rfl
            rotate_left
            · simp only [Act.put, List.setIfInBounds_toArray, List.set_cons_zero, List.set_cons_succ, i64_w, i32_w]
              rfl
            refine pure_ (i := 5) (N := some 61) (v := ?_) (a' := ?_) #[false, true, true, true, false, true, false, false, false, false, false, false] rfl rfl (by kernel_rfl) (fun _ _ _ h => h) (Or.inl ⟨by rfl, ?_⟩) ?_ ?_
            rotate_left
            · intro w'
              go_simp
              with_reducible rfl
            rotate_left
            · simp only [Act.put, List.setIfInBounds_toArray, List.set_cons_zero, List.set_cons_succ, i64_w, i32_w]
              rfl
            refine pure_ (i := 6) (N := some 62) (v := ?_) (a' := ?_) #[false, true, true, true, false, true, true, false, false, false, false, false] rfl rfl (by kernel_rfl) (fun _ _ _ h => h) (Or.inl ⟨by rfl, ?_⟩) ?_ ?_
            rotate_left
            · intro w'
              go_simp
              with_reducible rfl
            rotate_left
            · simp only [Act.put, List.setIfInBounds_toArray, List.set_cons_zero, List.set_cons_succ, i64_w, i32_w]
              rfl
            refine pure_ (i := 7) (N := some 63) (v := ?_) (a' := ?_) #[false, true, true, true, false, true, true, true, false, false, false, false] rfl rfl (by kernel_rfl) (fun _ _ _ h => h) (Or.inl ⟨by rfl, ?_⟩) ?_ ?_
            rotate_left
            · intro w'
              go_simp
              with_reducible rfl
            rotate_left
            · simp only [Act.put, List.setIfInBounds_toArray, List.set_cons_zero, List.set_cons_succ, i64_w, i32_w]
              rfl
            refine take_ (i := 8) (N := some 64) (v := ?_) (a' := ?_) #[false, true, true, true, false, true, true, true, true, false, false, false] rfl rfl (by kernel_rfl) (fun _ _ _ h => h) (Or.inl ⟨by rfl, ?_⟩) hHeld ?_ ?_
            rotate_left
            · rintro w' ⟨s0, s1, s2, s3, s4, s5, s6⟩
              go_simp
              with_reducible rfl
            rotate_left
            · simp only [Act.put, List.setIfInBounds_toArray, List.set_cons_zero, List.set_cons_succ, i64_w, i32_w]
              rfl
            refine join_ (σ := Value × Value × Nat) 2 #[true, true, true, true, true, true, true, true, true, true, false, false] (fun s => [(56, s.1), (60, s.2.1), (65, .slice (some ⟨s.2.2, 0, none⟩) 1 1)]) (fun s w' => Below w.heap.size w w' ∧ (krun w).R 25 w' w.heap.size (fun _ => True) s.2.1 (acc.take j) ∧ w'.heap[s.2.2]? = some (.cells #[.string r.out, .string r.cmd, .int .i64 r.time, .int .i64 r.mark, .slice A5 ri c5, .slice A6 rf c6] 25 (0, 0)) ∧ Below wz.heap.size wz w' ∧ ∀ k', s.2.1.ownBlock = some k' → wz.heap.size ≤ k') ?_ ?_
            rotate_left
            · intro hCont
              refine two_ (i := 0) (j := 9) (Ni := some 56) (Nj := some 65) #[true, true, true, true, false, true, true, true, true, false, false, false] #[false, true, true, true, false, true, true, true, true, true, false, false] rfl rfl rfl rfl (by kernel_rfl) (by decide) (by decide) (fun K hK => ?_) (fun K hK => ?_)
              · skip
                refine value_ (w1 := ?_) (v := ?_) (by rfl) rfl ?_ ?_
                rotate_left 2
                · go_simp
                  constructor
                  · rfl
                  · rfl
                refine hK.out _ _ ⟨hHeld.1.alloc hHeld.1.size _, pw_cell_below (hHeld.1.alloc hHeld.1.size _) HW6.out.c0, pw_cell_below (hHeld.1.alloc hHeld.1.size _) HW6.out.c1, pw_cell_below (hHeld.1.alloc hHeld.1.size _) HW6.out.c2, pw_cell_below (hHeld.1.alloc hHeld.1.size _) HW6.out.c3, pw_cell_below (hHeld.1.alloc hHeld.1.size _) HW6.out.c4, pw_cell_below (hHeld.1.alloc hHeld.1.size _) HW6.out.c5⟩ (fun hHeld => ?_)
                clear hK K
                refine norm_ (a' := ?_) ?_ ?_
                rotate_left
                · show Act.put _ (some 56) _ = _
                  simp only [Act.put, List.setIfInBounds_toArray, List.set_cons_zero, List.set_cons_succ, i64_w, i32_w]
                  rfl
                refine two_ (i := 4) (j := 9) (Ni := some 60) (Nj := some 65) #[true, true, true, true, true, true, true, true, true, false, false, false] #[true, true, true, true, false, true, true, true, true, true, false, false] rfl rfl rfl rfl (by kernel_rfl) (by decide) (by decide) (fun K hK => ?_) (fun K hK => ?_)
                · skip
                  refine Kd.R_append_rows_step (krun w) (Rr := (krun w).K wz) (w0 := w) w.heap.size rfl (.tmp 56) (.tmp 59) 52 25 (.agg #[.string ⟨#[]⟩, .string ⟨#[]⟩, .int .i64 0, .int .i64 0, .slice none 0 0, .slice none 0 0]) 96 rfl Try.underlying52 (by kernel_rfl) rfl (by show 0 < 6; decide) (by decide) (.slice (some ⟨wz.heap.size, 0, none⟩) 0 0) [] (acc.take j) A2 j c2 (fun _ => True) (fun _ => False) rfl rfl HL0.out (Kd.C_below HTK.out (below_alloc (below_drew (Below.refl _ _)) _)) (fun _ _ h => h) (fun _ hk => hk.elim) (fun _ _ => trivial) hHeld.1 hHeld.1.size (by simp only [List.length_nil]; omega) ?_
                  intro va wa ra ba ga hat
                  rw [List.nil_append] at ra
                  have HRA := Lib.hid ra
                  have HZA : Hid (Below wz.heap.size wz wa) := pw_below_grown (below_alloc (below_drew (Below.refl wz.heap.size wz)) _) _ (below_alloc (below_drew (Below.refl wz.heap.size wz)) _).size ga (fun k' hk' => by simp only [Value.ownBlock] at hk'; injection hk' with hk'; omega)
                  have HVB : Hid (∀ k', va.ownBlock = some k' → wz.heap.size ≤ k') := new_block hat (fun k' hk' => by simp only [Value.ownBlock] at hk'; injection hk' with hk'; omega) (below_alloc (below_drew (Below.refl wz.heap.size wz)) _).size
                  clear hat
                  clear ra ga
                  refine hK.out _ _ ⟨ba, pw_cell_below (ba) HW6.out.c0, pw_cell_below (ba) HW6.out.c1, pw_cell_below (ba) HW6.out.c2, pw_cell_below (ba) HW6.out.c3, pw_cell_below (ba) HW6.out.c4, pw_cell_below (ba) HW6.out.c5⟩ (fun hHeld => ?_)
                  clear hK K
                  refine norm_ (a' := ?_) ?_ ?_
                  rotate_left
                  · show Act.put _ (some 60) _ = _
                    simp only [Act.put, List.setIfInBounds_toArray, List.set_cons_zero, List.set_cons_succ, i64_w, i32_w]
                    rfl
                  refine one_ (i := 9) (N := some 65) #[true, true, true, true, true, true, true, true, true, true, false, false] rfl rfl (by kernel_rfl) (by decide) (fun K hK => ?_)
                  refine value_ (w1 := ?_) (v := ?_) (by rfl) rfl ?_ ?_
                  rotate_left 2
                  · go_simp
                    constructor
                    · rfl
                    · rfl
                  refine hK.out _ _ ⟨hHeld.1.alloc hHeld.1.size _, pw_cell_below (hHeld.1.alloc hHeld.1.size _) HW6.out.c0, pw_cell_below (hHeld.1.alloc hHeld.1.size _) HW6.out.c1, pw_cell_below (hHeld.1.alloc hHeld.1.size _) HW6.out.c2, pw_cell_below (hHeld.1.alloc hHeld.1.size _) HW6.out.c3, pw_cell_below (hHeld.1.alloc hHeld.1.size _) HW6.out.c4, pw_cell_below (hHeld.1.alloc hHeld.1.size _) HW6.out.c5⟩ (fun hHeld => ?_)
                  clear hK K
                  refine norm_ (a' := ?_) ?_ ?_
                  rotate_left
                  · show Act.put _ (some 65) _ = _
                    simp only [Act.put, List.setIfInBounds_toArray, List.set_cons_zero, List.set_cons_succ, i64_w, i32_w]
                    rfl
                  exact norm_ (by simp only [putAll, Act.put, List.setIfInBounds_toArray, List.set_cons_zero, List.set_cons_succ]) (hCont (.slice (some ⟨wz.heap.size, 0, none⟩) 0 0, va, wa.heap.size) _ ⟨hHeld.1, Kd.R_below HRA.out (below_alloc (Below.refl _ _) _), heap_alloc_new wa _, below_alloc HZA.out _, HVB.out⟩)
                · skip
                  refine value_ (w1 := ?_) (v := ?_) (by rfl) rfl ?_ ?_
                  rotate_left 2
                  · go_simp
                    constructor
                    · rfl
                    · rfl
                  refine hK.out _ _ ⟨hHeld.1.alloc hHeld.1.size _, pw_cell_below (hHeld.1.alloc hHeld.1.size _) HW6.out.c0, pw_cell_below (hHeld.1.alloc hHeld.1.size _) HW6.out.c1, pw_cell_below (hHeld.1.alloc hHeld.1.size _) HW6.out.c2, pw_cell_below (hHeld.1.alloc hHeld.1.size _) HW6.out.c3, pw_cell_below (hHeld.1.alloc hHeld.1.size _) HW6.out.c4, pw_cell_below (hHeld.1.alloc hHeld.1.size _) HW6.out.c5⟩ (fun hHeld => ?_)
                  clear hK K
                  refine norm_ (a' := ?_) ?_ ?_
                  rotate_left
                  · show Act.put _ (some 65) _ = _
                    simp only [Act.put, List.setIfInBounds_toArray, List.set_cons_zero, List.set_cons_succ, i64_w, i32_w]
                    rfl
                  refine one_ (i := 4) (N := some 60) #[true, true, true, true, true, true, true, true, true, true, false, false] rfl rfl (by kernel_rfl) (by decide) (fun K hK => ?_)
                  refine Kd.R_append_rows_step (krun w) (Rr := (krun w).K wz) (w0 := w) w.heap.size rfl (.tmp 56) (.tmp 59) 52 25 (.agg #[.string ⟨#[]⟩, .string ⟨#[]⟩, .int .i64 0, .int .i64 0, .slice none 0 0, .slice none 0 0]) 96 rfl Try.underlying52 (by kernel_rfl) rfl (by show 0 < 6; decide) (by decide) (.slice (some ⟨wz.heap.size, 0, none⟩) 0 0) [] (acc.take j) A2 j c2 (fun _ => True) (fun _ => False) rfl rfl HL1.out (Kd.C_below HTK.out (below_alloc (below_alloc (below_drew (Below.refl _ _)) _) _)) (fun _ _ h => h) (fun _ hk => hk.elim) (fun _ _ => trivial) hHeld.1 hHeld.1.size (by simp only [List.length_nil]; omega) ?_
                  intro va wa ra ba ga hat
                  rw [List.nil_append] at ra
                  have HRA := Lib.hid ra
                  have HZa : Hid (wa.heap[wz.heap.size + 1]? = some (.cells #[.string r.out, .string r.cmd, .int .i64 r.time, .int .i64 r.mark, .slice A5 ri c5, .slice A6 rf c6] 25 (0, 0))) := (ga.block _ (blk_lt HX1.out) (by simp only [Value.ownBlock]; intro h; injection h with h; omega)).trans HX1.out
                  have HZA : Hid (Below wz.heap.size wz wa) := pw_below_grown (below_alloc (below_alloc (below_drew (Below.refl wz.heap.size wz)) _) _) _ (below_alloc (below_alloc (below_drew (Below.refl wz.heap.size wz)) _) _).size ga (fun k' hk' => by simp only [Value.ownBlock] at hk'; injection hk' with hk'; omega)
                  have HVB : Hid (∀ k', va.ownBlock = some k' → wz.heap.size ≤ k') := new_block hat (fun k' hk' => by simp only [Value.ownBlock] at hk'; injection hk' with hk'; omega) (below_alloc (below_alloc (below_drew (Below.refl wz.heap.size wz)) _) _).size
                  clear hat
                  clear ra ga
                  refine hK.out _ _ ⟨ba, pw_cell_below (ba) HW6.out.c0, pw_cell_below (ba) HW6.out.c1, pw_cell_below (ba) HW6.out.c2, pw_cell_below (ba) HW6.out.c3, pw_cell_below (ba) HW6.out.c4, pw_cell_below (ba) HW6.out.c5⟩ (fun hHeld => ?_)
                  clear hK K
                  refine norm_ (a' := ?_) ?_ ?_
                  rotate_left
                  · show Act.put _ (some 60) _ = _
                    simp only [Act.put, List.setIfInBounds_toArray, List.set_cons_zero, List.set_cons_succ, i64_w, i32_w]
                    rfl
                  exact norm_ (by simp only [putAll, Act.put, List.setIfInBounds_toArray, List.set_cons_zero, List.set_cons_succ]) (hCont (.slice (some ⟨wz.heap.size, 0, none⟩) 0 0, va, wz.heap.size + 1) _ ⟨hHeld.1, HRA.out, HZa.out, HZA.out, HVB.out⟩)
              · skip
                refine value_ (w1 := ?_) (v := ?_) (by rfl) rfl ?_ ?_
                rotate_left 2
                · go_simp
                  constructor
                  · rfl
                  · rfl
                refine hK.out _ _ ⟨hHeld.1.alloc hHeld.1.size _, pw_cell_below (hHeld.1.alloc hHeld.1.size _) HW6.out.c0, pw_cell_below (hHeld.1.alloc hHeld.1.size _) HW6.out.c1, pw_cell_below (hHeld.1.alloc hHeld.1.size _) HW6.out.c2, pw_cell_below (hHeld.1.alloc hHeld.1.size _) HW6.out.c3, pw_cell_below (hHeld.1.alloc hHeld.1.size _) HW6.out.c4, pw_cell_below (hHeld.1.alloc hHeld.1.size _) HW6.out.c5⟩ (fun hHeld => ?_)
                clear hK K
                refine norm_ (a' := ?_) ?_ ?_
                rotate_left
                · show Act.put _ (some 65) _ = _
                  simp only [Act.put, List.setIfInBounds_toArray, List.set_cons_zero, List.set_cons_succ, i64_w, i32_w]
                  rfl
                refine one_ (i := 0) (N := some 56) #[true, true, true, true, false, true, true, true, true, true, false, false] rfl rfl (by kernel_rfl) (by decide) (fun K hK => ?_)
                refine value_ (w1 := ?_) (v := ?_) (by rfl) rfl ?_ ?_
                rotate_left 2
                · go_simp
                  constructor
                  · rfl
                  · rfl
                refine hK.out _ _ ⟨hHeld.1.alloc hHeld.1.size _, pw_cell_below (hHeld.1.alloc hHeld.1.size _) HW6.out.c0, pw_cell_below (hHeld.1.alloc hHeld.1.size _) HW6.out.c1, pw_cell_below (hHeld.1.alloc hHeld.1.size _) HW6.out.c2, pw_cell_below (hHeld.1.alloc hHeld.1.size _) HW6.out.c3, pw_cell_below (hHeld.1.alloc hHeld.1.size _) HW6.out.c4, pw_cell_below (hHeld.1.alloc hHeld.1.size _) HW6.out.c5⟩ (fun hHeld => ?_)
                clear hK K
                refine norm_ (a' := ?_) ?_ ?_
                rotate_left
                · show Act.put _ (some 56) _ = _
                  simp only [Act.put, List.setIfInBounds_toArray, List.set_cons_zero, List.set_cons_succ, i64_w, i32_w]
                  rfl
                refine one_ (i := 4) (N := some 60) #[true, true, true, true, true, true, true, true, true, true, false, false] rfl rfl (by kernel_rfl) (by decide) (fun K hK => ?_)
                refine Kd.R_append_rows_step (krun w) (Rr := (krun w).K wz) (w0 := w) w.heap.size rfl (.tmp 56) (.tmp 59) 52 25 (.agg #[.string ⟨#[]⟩, .string ⟨#[]⟩, .int .i64 0, .int .i64 0, .slice none 0 0, .slice none 0 0]) 96 rfl Try.underlying52 (by kernel_rfl) rfl (by show 0 < 6; decide) (by decide) (.slice (some ⟨wz.heap.size + 1, 0, none⟩) 0 0) [] (acc.take j) A2 j c2 (fun _ => True) (fun _ => False) rfl rfl HL2.out (Kd.C_below HTK.out (below_drew (below_alloc (below_alloc (Below.refl _ _) _) _))) (fun _ _ h => h) (fun _ hk => hk.elim) (fun _ _ => trivial) hHeld.1 hHeld.1.size (by simp only [List.length_nil]; omega) ?_
                intro va wa ra ba ga hat
                rw [List.nil_append] at ra
                have HRA := Lib.hid ra
                have HZa : Hid (wa.heap[wz.heap.size]? = some (.cells #[.string r.out, .string r.cmd, .int .i64 r.time, .int .i64 r.mark, .slice A5 ri c5, .slice A6 rf c6] 25 (0, 0))) := (ga.block _ (blk_lt HX2.out) (by simp only [Value.ownBlock]; intro h; injection h with h; omega)).trans HX2.out
                have HZA : Hid (Below wz.heap.size wz wa) := pw_below_grown (below_drew (below_alloc (below_alloc (Below.refl wz.heap.size wz) _) _)) _ (below_drew (below_alloc (below_alloc (Below.refl wz.heap.size wz) _) _)).size ga (fun k' hk' => by simp only [Value.ownBlock] at hk'; injection hk' with hk'; omega)
                have HVB : Hid (∀ k', va.ownBlock = some k' → wz.heap.size ≤ k') := new_block hat (fun k' hk' => by simp only [Value.ownBlock] at hk'; injection hk' with hk'; omega) (below_drew (below_alloc (below_alloc (Below.refl wz.heap.size wz) _) _)).size
                clear hat
                clear ra ga
                refine hK.out _ _ ⟨ba, pw_cell_below (ba) HW6.out.c0, pw_cell_below (ba) HW6.out.c1, pw_cell_below (ba) HW6.out.c2, pw_cell_below (ba) HW6.out.c3, pw_cell_below (ba) HW6.out.c4, pw_cell_below (ba) HW6.out.c5⟩ (fun hHeld => ?_)
                clear hK K
                refine norm_ (a' := ?_) ?_ ?_
                rotate_left
                · show Act.put _ (some 60) _ = _
                  simp only [Act.put, List.setIfInBounds_toArray, List.set_cons_zero, List.set_cons_succ, i64_w, i32_w]
                  rfl
                exact norm_ (by simp only [putAll, Act.put, List.setIfInBounds_toArray, List.set_cons_zero, List.set_cons_succ]) (hCont (.slice (some ⟨wz.heap.size + 1, 0, none⟩) 0 0, va, wz.heap.size) _ ⟨hHeld.1, HRA.out, HZa.out, HZA.out, HVB.out⟩)
            rintro ⟨v56, va, bb⟩ wx ⟨hF1, hF2, hF3, hF4, hF5⟩
            simp only at hF2 hF3 hF4 hF5
            have hHeld : Below w.heap.size w wx ∧ wx.cell? (ad.add (k * 6)) = some (.string r.out) ∧ wx.cell? ⟨(ad.add (k * 6)).block, (ad.add (k * 6)).off + 1, none⟩ = some (.string r.cmd) ∧ wx.cell? ⟨(ad.add (k * 6)).block, (ad.add (k * 6)).off + 2, none⟩ = some (.int .i64 r.time) ∧ wx.cell? ⟨(ad.add (k * 6)).block, (ad.add (k * 6)).off + 3, none⟩ = some (.int .i64 r.mark) ∧ wx.cell? ⟨(ad.add (k * 6)).block, (ad.add (k * 6)).off + 4, none⟩ = some (.slice A5 ri c5) ∧ wx.cell? ⟨(ad.add (k * 6)).block, (ad.add (k * 6)).off + 5, none⟩ = some (.slice A6 rf c6) := ⟨hF1, pw_cell_below (hF1) HW6.out.c0, pw_cell_below (hF1) HW6.out.c1, pw_cell_below (hF1) HW6.out.c2, pw_cell_below (hF1) HW6.out.c3, pw_cell_below (hF1) HW6.out.c4, pw_cell_below (hF1) HW6.out.c5⟩
            have HRA := Lib.hid hF2
            have HBX := Lib.hid hF3
            have HZX := Lib.hid hF4
            have HVB := Lib.hid hF5
            clear hF1 hF2 hF3 hF4 hF5
            refine norm_ (a' := ?_) ?_ ?_
            rotate_left
            · simp only [putAll, Act.put, List.setIfInBounds_toArray, List.set_cons_zero, List.set_cons_succ]
              rfl
            refine one_ (i := 10) (N := some 66) #[true, true, true, true, true, true, true, true, true, true, true, false] rfl rfl (by kernel_rfl) (by decide) (fun K hK => ?_)
            refine Kd.R_append_rows_step (krun w) (Rr := (krun w).K wx) (w0 := w) w.heap.size rfl (.tmp 60) (.tmp 65) 52 25 (.agg #[.string ⟨#[]⟩, .string ⟨#[]⟩, .int .i64 0, .int .i64 0, .slice none 0 0, .slice none 0 0]) 96 rfl Try.underlying52 (by kernel_rfl) rfl (by show 0 < 6; decide) (by decide) va (acc.take j) [r] (some ⟨bb, 0, none⟩) 1 1 (fun _ => True) (fun _ => False) rfl rfl HRA.out (box_row HBX.out H12.out.1 H12.out.2) (fun _ _ h => h) (fun _ hk => hk.elim) (fun _ _ => trivial) hHeld.1 hHeld.1.size (by simp only [List.length_take]; omega) ?_
            intro vb wb rb bb2 gb _
            have HZW : Hid (Below wz.heap.size wz wb) := pw_below_grown HZX.out _ HZX.out.size gb (fun k' hk' => HVB.out k' hk')
            clear gb
            refine hK.out _ _ ⟨bb2, pw_cell_below (bb2) HW6.out.c0, pw_cell_below (bb2) HW6.out.c1, pw_cell_below (bb2) HW6.out.c2, pw_cell_below (bb2) HW6.out.c3, pw_cell_below (bb2) HW6.out.c4, pw_cell_below (bb2) HW6.out.c5⟩ (fun hHeld => ?_)
            clear hK K
            refine norm_ (a' := ?_) ?_ ?_
            rotate_left
            · show Act.put _ (some 66) _ = _
              simp only [Act.put, List.setIfInBounds_toArray, List.set_cons_zero, List.set_cons_succ, i64_w, i32_w]
              rfl
            refine pure_ (i := 11) (N := some 6) (v := ?_) (a' := ?_) #[true, true, true, true, true, true, true, true, true, true, true, true] rfl rfl (by kernel_rfl) (fun _ _ _ h => h) (Or.inl ⟨by rfl, ?_⟩) ?_ ?_
            rotate_left
            · intro w'
              go_simp
              with_reducible rfl
            rotate_left
            · simp only [Act.put, List.setIfInBounds_toArray, List.set_cons_zero, List.set_cons_succ, i64_w, i32_w]
              rfl
            refine done_ (by kernel_rfl) ?_
            have HRB := Lib.hid rb
            have HBB := Lib.hid bb2
            clear rb bb2 hHeld ks
            have HC0 : ∀ A', (krun w).C wb A' 0 [] := fun A' => ⟨rfl, by omega, fun h => absurd h (Nat.lt_irrefl 0)⟩
            have kd := cut_from_runs A2 j c2 j (by omega)
            have HD0 : Hid (acc.drop j = []) := by show _ = _; rw [HN2.out, List.drop_length]
            by_cases hcj : j = c2
            · subst hcj
              go_wp2_with (at_builtin; refine Held.of ?_)
              refine Held.out (Kd.R_append_rows (krun w) (Rr := (krun w).K wb) (w0 := w) (W := wb) w.heap.size rfl (.tmp 67) (.tmp 70) 52 25 (.agg #[.string ⟨#[]⟩, .string ⟨#[]⟩, .int .i64 0, .int .i64 0, .slice none 0 0, .slice none 0 0]) 96 rfl Try.underlying52 (by kernel_rfl) rfl (by show 0 < 6; decide) (by decide) vb (acc.take j ++ [r]) ([]) _ 0 _ (fun _ => True) (fun _ => False) rfl rfl HRB.out (HC0 _) (fun _ _ h => h) (fun _ hk => hk.elim) (fun _ _ => trivial) HBB.out HBB.out.size (by simp only [List.length_append, List.length_take, List.length_cons, List.length_nil]; omega) ?_)
              intro vc wc rc bc _ _
              have HRC := Lib.hid rc
              have HBC := Lib.hid bc
              have HAF : Hid (acc.take j ++ [r] ++ [] = foldR (l.take (k + 1))) := by
                show _ = _
                rw [HIN.out, foldR_snoc, ← HA.out]
                unfold insR
                rw [← HPP.out, if_neg (fun h => by have h1 := h.1; rw [← HN2.out] at h1; omega)]
                rw [HD0.out]
              have hlen : (acc.take j ++ [r] ++ []).length ≤ k + 1 := by
                simp only [List.length_append, List.length_take, List.length_drop, List.length_cons, List.length_nil]
                rw [← HN2.out]
                omega
              clear rc bc kd
              go_wp2
              go_roundw
              case rel => exact ⟨k + 1, _, by omega, by go_num, hlen, HAF.out, HRC.out, HBC.out⟩
              case measure => simp [intOf]; omega
            · skip
              go_wp2_with (at_builtin; refine Held.of ?_)
              refine Held.out (Kd.R_append_rows (krun w) (Rr := (krun w).K wb) (w0 := w) (W := wb) w.heap.size rfl (.tmp 67) (.tmp 70) 52 25 (.agg #[.string ⟨#[]⟩, .string ⟨#[]⟩, .int .i64 0, .int .i64 0, .slice none 0 0, .slice none 0 0]) 96 rfl Try.underlying52 (by kernel_rfl) rfl (by show 0 < 6; decide) (by decide) vb (acc.take j ++ [r]) ([]) _ 0 _ (fun _ => True) (fun _ => False) rfl rfl HRB.out (HC0 _) (fun _ _ h => h) (fun _ hk => hk.elim) (fun _ _ => trivial) HBB.out HBB.out.size (by simp only [List.length_append, List.length_take, List.length_cons, List.length_nil]; omega) ?_)
              intro vc wc rc bc _ _
              have HRC := Lib.hid rc
              have HBC := Lib.hid bc
              have HAF : Hid (acc.take j ++ [r] ++ [] = foldR (l.take (k + 1))) := by
                show _ = _
                rw [HIN.out, foldR_snoc, ← HA.out]
                unfold insR
                rw [← HPP.out, if_neg (fun h => by have h1 := h.1; rw [← HN2.out] at h1; omega)]
                rw [HD0.out]
              have hlen : (acc.take j ++ [r] ++ []).length ≤ k + 1 := by
                simp only [List.length_append, List.length_take, List.length_drop, List.length_cons, List.length_nil]
                rw [← HN2.out]
                omega
              clear rc bc kd
              go_wp2
              go_roundw
              case rel => exact ⟨k + 1, _, by omega, by go_num, hlen, HAF.out, HRC.out, HBC.out⟩
              case measure => simp [intOf]; omega
    · have hk2 : k = l.length := by omega
      have HE : Hid ((krun w).R 25 wr w.heap.size (fun _ => True) (.slice A2 acc.length c2) (foldR l)) := by
        have h := HO.out
        rw [HA.out, hk2, List.take_length] at h
        have e : acc.length = (foldR l).length := by rw [HA.out, hk2, List.take_length]
        rw [e]
        exact h
      clear hk2
      go_wp2
      go_ret
      exact ⟨_, rfl, HE.out, HB.out⟩
--END WALK
end Go.Proofs.Ytehndlafbbpofaa.Run
