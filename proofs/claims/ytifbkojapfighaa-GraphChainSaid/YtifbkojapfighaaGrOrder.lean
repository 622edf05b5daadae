/- graph.(*Graph).order (walk). -/
import Derived.Test.YtifbkojapfighaaGrMade
import Derived.WalkMore
namespace Go.Proofs.Ytifbkojapfighaa.Gr
open Go.RowKit Go.Proofs.YtifbkojapfighaaW.PrintWords Go.Proofs.YtifbkojapfighaaW.PrintLast Go.Proofs.Ytifbkojapfighaa.Base Go.Maps
set_option linter.unusedVariables false
set_option linter.unusedSimpArgs false

/-- v reads as rows of numbers. -/
def Iss (w : World) (v : Value) (ls : List (List Nat)) : Prop := ∃ A c, v = .slice A ls.length c ∧ ls.length ≤ c ∧ ls.length ≤ 9223372036854775807 ∧ (0 < ls.length → ∃ ad, A = some ad ∧ ∀ i, i < ls.length → ∃ u, w.cell? (ad.add i) = some u ∧ Is w u (ls.getD i []))
theorem Iss.below {w w1 : World} {v : Value} {ls : List (List Nat)} (h : Iss w v ls) (hb : Below w.heap.size w w1) : Iss w1 v ls := by
  obtain ⟨A, c, h1, h2, h3, h4⟩ := h
  exact ⟨A, c, h1, h2, h3, fun hp => by
    obtain ⟨ad, e, hc⟩ := h4 hp
    exact ⟨ad, e, fun i hi => by
      obtain ⟨u, hu, hbs⟩ := hc i hi
      exact ⟨u, pw_cell_below hb hu, hbs.below hb⟩⟩⟩
theorem Iss.len {w : World} {v : Value} {ls : List (List Nat)} (h : Iss w v ls) : ∃ A c, v = .slice A ls.length c ∧ ls.length ≤ c ∧ ls.length ≤ 9223372036854775807 := by
  obtain ⟨A, c, h1, h2, h3, _⟩ := h
  exact ⟨A, c, h1, h2, h3⟩
theorem Iss.get {w : World} {A : Option Addr} {n c : Nat} {ls : List (List Nat)} (h : Iss w (.slice A n c) ls) (i : Nat) (hi : i < ls.length) : ∃ ad u, A = some ad ∧ w.cell? (ad.add i) = some u ∧ Is w u (ls.getD i []) := by
  obtain ⟨A', c', e, _, _, h4⟩ := h
  injection e with e1 e2 e3
  subst e1
  obtain ⟨ad, e, hc⟩ := h4 (by omega)
  obtain ⟨u, h1, h2⟩ := hc i hi
  exact ⟨ad, u, e, h1, h2⟩
/-- May edge n be done, when these are? -/
def readyB (ah : List (List Nat)) (out : List Nat) (n : Nat) : Bool := decide (n ∉ out) && (ah.getD n []).all fun k => decide (k ∈ out)
def orderF (ah : List (List Nat)) (some_ : List Nat) : Nat → List Nat → List Nat
  | 0, out => out
  | f + 1, out => match some_.find? (readyB ah out) with
    | none => out
    | some n => orderF ah some_ f (out ++ [n])
def orderV (ah : List (List Nat)) (some_ : List Nat) : List Nat := orderF ah some_ (some_.length + 1) []
/-- The order under way: what is done, at fuel f. -/
structure Od (ah : List (List Nat)) (some_ out : List Nat) (f : Nat) : Prop where
  nd : out.Nodup
  sub : ∀ n ∈ out, n ∈ some_
  fuel : f + out.length = some_.length + 1
  eq : orderF ah some_ f out = orderV ah some_
theorem od_start (ah : List (List Nat)) (some_ : List Nat) : Od ah some_ [] (some_.length + 1) := ⟨List.nodup_nil, (fun n hn => by cases hn), rfl, rfl⟩
theorem nodup_sub_len {l m : List Nat} (h : l.Nodup) (hs : ∀ x ∈ l, x ∈ m) : l.length ≤ m.length := by
  induction l generalizing m with
  | nil => exact Nat.zero_le _
  | cons a l ih =>
    obtain ⟨h1, h2⟩ := List.nodup_cons.1 h
    have h3 := hs a (by simp)
    have h4 : ∀ x ∈ l, x ∈ m.erase a := fun x hx => by
      have hne : x ≠ a := fun e => h1 (e ▸ hx)
      exact (List.mem_erase_of_ne hne).2 (hs x (List.mem_cons_of_mem _ hx))
    have h5 := ih h2 h4
    rw [List.length_erase_of_mem h3] at h5
    have h6 : 0 < m.length := List.length_pos_of_mem h3
    simp only [List.length_cons]
    omega
theorem Od.len {ah : List (List Nat)} {some_ out : List Nat} {f : Nat} (h : Od ah some_ out f) : out.length ≤ some_.length := nodup_sub_len h.nd h.sub
theorem Od.done {ah : List (List Nat)} {some_ out : List Nat} {f : Nat} (h : Od ah some_ out f) (hn : ∀ n ∈ some_, readyB ah out n = false) : out = orderV ah some_ := by
  have h1 := h.len
  have h2 := h.fuel
  obtain ⟨f', rfl⟩ : ∃ f', f = f' + 1 := ⟨f - 1, by omega⟩
  rw [← h.eq]
  have h3 : some_.find? (readyB ah out) = none := List.find?_eq_none.2 fun n hm => by rw [hn n hm]; decide
  show out = match some_.find? (readyB ah out) with | none => out | some n => orderF ah some_ f' (out ++ [n])
  rw [h3]
theorem Od.next {ah : List (List Nat)} {some_ out : List Nat} {f k : Nat} (h : Od ah some_ out f) (hk : k < some_.length) (hn : ∀ j, j < k → readyB ah out (some_.getD j 0) = false) (hr : readyB ah out (some_.getD k 0) = true) :
    ∃ f', Od ah some_ (out ++ [some_.getD k 0]) f' := by
  have h1 := h.len
  have h2 := h.fuel
  obtain ⟨f', rfl⟩ : ∃ f', f = f' + 1 := ⟨f - 1, by omega⟩
  have hnot : some_.getD k 0 ∉ out := by
    unfold readyB at hr
    rw [Bool.and_eq_true] at hr
    exact of_decide_eq_true hr.1
  refine ⟨f', ?_, ?_, by rw [List.length_append, List.length_singleton]; omega, ?_⟩
  · rw [List.nodup_append]
    exact ⟨h.nd, by simp, fun a ha b hb e => by rw [List.mem_singleton.1 hb] at e; exact hnot (e ▸ ha)⟩
  · intro n hm
    rcases List.mem_append.1 hm with h3 | h3
    · exact h.sub n h3
    · rw [List.mem_singleton.1 h3]; exact (take_at some_ 0 k hk).2
  · rw [← h.eq]
    have h3 : some_.find? (readyB ah out) = some (some_.getD k 0) := by
      have e := split_at some_ 0 k hk
      rw [List.find?_eq_some_iff_append]
      refine ⟨hr, some_.take k, some_.drop (k + 1), e, fun a ha => ?_⟩
      obtain ⟨i, hi, e2⟩ := List.mem_iff_getElem.1 ha
      rw [List.length_take] at hi
      rw [List.getElem_take] at e2
      have h4 := hn i (by omega)
      rw [List.getD_eq_getElem?_getD, List.getElem?_eq_getElem (by omega)] at h4
      have h4 : readyB ah out (some_[i]) = false := h4
      rw [e2] at h4
      rw [h4]
      rfl
    show _ = match some_.find? (readyB ah out) with | none => out | some n => orderF ah some_ f' (out ++ [n])
    rw [h3]
theorem zero_bool (w : World) : (zeroValue 4).run Try.prog w = .ok (.bool false) w := by kernel_rfl
/-- The set of what is done. -/
def SMap (w : World) (b n : Nat) (out : List Nat) : Prop := VMap 3 ikey w b n (fun k => if k ∈ out then some (.bool true) else none)
theorem SMap.look {w : World} {b n : Nat} {out : List Nat} (h : SMap w b n out) (k : Nat) (hk : k < 9223372036854775808) : (Instr.lookup 90 (.map (some b)) (.int .i64 (k : Int)) false).run Try.prog w = .ok (.bool (decide (k ∈ out))) w := by
  have h1 := (VMap.look h keyed_i Try.underlying90 (zero_bool _) (s := k) (keyOf_i hk)).2
  have e : (if k ∈ out then some (Value.bool true) else none).getD (.bool false) = .bool (decide (k ∈ out)) := by
    by_cases hm : k ∈ out
    · rw [if_pos hm, decide_eq_true hm]; rfl
    · rw [if_neg hm, decide_eq_false hm]; rfl
  rw [e] at h1
  exact h1
def sliceLen : Value → Nat
  | .slice _ n _ => n
  | _ => 0
/-- The call's own memory. -/
structure Ow2 (w0 w : World) (b : Nat) (v : Value) (out : List Nat) : Prop where
  map : ∃ n, n ≤ out.length ∧ SMap w b n out
  row : Ir w0.heap.size w v out
  below : Below w0.heap.size w0 w
  hb : w0.heap.size ≤ b
theorem Ow2.stored {w0 w w1 : World} {b : Nat} {v : Value} {out : List Nat} (h : Ow2 w0 w b v out) (k : Nat) (hk : k < 9223372036854775808) (ho : out.length ≤ 1000000) (hn : k ∉ out) :
    ∃ w1, (Instr.mapUpdate 90 (.map (some b)) (.int .i64 (k : Int)) (.bool true)).run Try.prog w = .ok () w1 ∧ (∃ n, n ≤ (out ++ [k]).length ∧ SMap w1 b n (out ++ [k])) ∧ Ir w0.heap.size w1 v out ∧ Below w0.heap.size w0 w1 := by
  obtain ⟨n, hn1, hm⟩ := h.map
  obtain ⟨w1, r1, m1, g1, z1⟩ := VMap.store hm keyed_i Try.underlying90 (by simp only [maxLen]; omega) (s := k) (keyOf_i hk) (ikey_lit k) (fun s' h => ikey_inj h) (.bool true)
  refine ⟨w1, r1, ⟨_, ?_, VMap.congr m1 fun s => ?_⟩, ?_, h.below.grown g1 h.below.size (fun q hq => by cases hq; exact h.hb)⟩
  · rw [List.length_append, List.length_singleton]
    have h9 : ∀ p : Prop, ∀ _ : Decidable p, (if p then n else n + 1) ≤ n + 1 := fun p _ => by split <;> omega
    exact Nat.le_trans (h9 _ _) (by omega)
  · by_cases e : s = k
    · rw [e, if_pos rfl, if_pos (by simp)]
    · rw [if_neg e]
      by_cases hs : s ∈ out
      · rw [if_pos hs, if_pos (List.mem_append_left _ hs)]
      · rw [if_neg hs, if_neg (fun h => by rcases List.mem_append.1 h with h | h; exact hs h; exact e (List.mem_singleton.1 h))]
  · exact R_q h.row (fun t _ cells => VMap.no_cells hm) (fun i hi hne => g1.block i hi (fun e => hne (by injection e)))
set_option maxRecDepth 100000 in
set_option maxHeartbeats 4000000 in
theorem order_any (g : Nat) (va : Value) (ah : List (List Nat)) (v : Value) (l : List Nat) (w : World) (hg : w.cell? ⟨g, 3, none⟩ = some va) (hA : Iss w va ah) (hv : Is w v l) (hl : l.length ≤ 1000000) (hn : ∀ n ∈ l, n < ah.length) (hk : ∀ r ∈ ah, ∀ k ∈ r, k < 9223372036854775808) (hal : ah.length ≤ 1000000) :
    Calls Try.prog 39 #[.pointer (some ⟨g, 0, none⟩), v] w fun e w' => ∃ v', e = .returned v' ∧ Ir w.heap.size w' v' (orderV ah l) ∧ Below w.heap.size w w' := by
  have hmm := @run_makeMap Try.prog
  obtain ⟨A, c, rfl, hc, hm⟩ := hv.len
  obtain ⟨n, hnl⟩ : ∃ n, n = l.length := ⟨_, rfl⟩
  rw [← hnl] at hc hm hv hl ⊢
  obtain ⟨Aa, ca, rfl, hca, hma⟩ := hA.len
  obtain ⟨na, hna⟩ : ∃ na, na = ah.length := ⟨_, rfl⟩
  rw [← hna] at hca hma hA hg hal
  have HV := Lib.hid hv
  have HN := Lib.hid hnl
  have HG := Lib.hid hg
  have HA := Lib.hid hA
  have HNA := Lib.hid hna
  have HNN := Lib.hid hn
  have HK := Lib.hid hk
  obtain ⟨x, hx⟩ : ∃ x, w.heap.size = x := ⟨_, rfl⟩
  obtain ⟨w1, hw1⟩ : ∃ w1, w1 = w.alloc (.map #[] 0) := ⟨_, rfl⟩
  have HS : Hid (Ow2 w w1 x (.slice none 0 0) []) := by
    show Ow2 _ _ _ _ _
    rw [hw1, ← hx]
    refine ⟨⟨0, Nat.le_refl _, VMap.congr (VMap.made w 3 ikey) fun s => ?_⟩, Kd.R_nil _ _ _ _ _, below_alloc (Below.refl _ _) _, Nat.le_refl _⟩
    simp
  have HW := Lib.hid hw1
  have HX := Lib.hid hx
  clear hv hnl hg hA hna hn hk hw1
  go_enter Try.func39, Try.ntmps39
  go_wp2
  go_step3
  go_wp2
  go_step3
  go_wp2
  rw [← HW.out]
  --S1
  go_loopw [6] (fun o wr => ∃ (out : List Nat) (f : Nat), Hid (Ow2 w wr x o out) ∧ Hid (Od ah l out f)) (fun o _ => n - sliceLen o)
  case atStart => exact ⟨[], l.length + 1, HS.out, od_start ah l⟩
  case round =>
    obtain ⟨out, f, HO, HD⟩ := hrel
    obtain ⟨Ao, co, eo⟩ := Kd.R_slice HO.out.row
    obtain ⟨no, hno⟩ : ∃ no, no = (ints out).length := ⟨_, rfl⟩
    rw [← hno] at eo
    subst eo
    rw [List.length_map] at hno
    have hno2 : no ≤ n := by rw [hno, HN.out]; exact HD.out.len
    have HNO := Lib.hid hno
    clear hno
    obtain ⟨w2, hw2⟩ : ∃ w2, w2 = wr := ⟨_, rfl⟩
    subst hw2
    obtain ⟨ns, hns, hsm⟩ := HO.out.map
    have HSM := Lib.hid hsm
    clear hsm hns
    go_wp2
    go_step3
    go_wp2
    go_step3
    go_wp2
    --S2
    go_loopw [6, 14] (fun o i wr => ∃ k : Nat, k ≤ n ∧ i = .int .i64 k ∧ o = .slice Ao no co ∧ wr = w2 ∧ Hid (∀ j, j < k → readyB ah out (l.getD j 0) = false)) (fun _ i _ => n - (intOf i).toNat)
    case atStart => exact ⟨0, by omega, rfl, rfl, rfl, fun j hj => absurd hj (Nat.not_lt_zero _)⟩
    case round =>
      obtain ⟨k, hk, rfl, rfl, hwr, HR⟩ := hrel
      have hwr := hwr.symm; subst hwr
      by_cases l1 : k < n
      · have hkl : k < l.length := by rw [← HN.out]; exact l1
        obtain ⟨ad, e1, q1⟩ := (HV.out.below HO.out.below).get k hkl
        subst e1
        have HMM : Hid (l.getD k 0 ∈ l) := (take_at l 0 k hkl).2
        have hya := HNN.out _ HMM.out
        have HY := Lib.hid hya
        obtain ⟨y, hy⟩ : ∃ y, y = l.getD k 0 := ⟨_, rfl⟩
        rw [← hy] at q1 hya
        have hyn : y < na := by rw [HNA.out]; exact hya
        have HYE := Lib.hid hy
        clear hya hy hkl
        have hlk := HSM.out.look y (by omega)
        by_cases hd : y ∈ out
        · have hdd : decide (y ∈ out) = true := decide_eq_true hd
          have HR2 : Hid (∀ j, j < k + 1 → readyB ah out (l.getD j 0) = false) := fun j hj => by
            rcases Nat.lt_succ_iff_lt_or_eq.1 hj with h | h
            · exact HR.out j h
            · rw [h, ← HYE.out]; unfold readyB; rw [decide_eq_false (fun h => h hd)]; rfl
          rw [hdd] at hlk
          clear hd hdd
          go_wp2
          go_roundw
          case rel => exact ⟨k + 1, by omega, by go_num, rfl, trivial, HR2.out⟩
          case measure => simp [intOf]; omega
        have hdd : decide (y ∈ out) = false := decide_eq_false hd
        rw [hdd] at hlk
        have HNOT := Lib.hid hd
        clear hd hdd
        have hyl : y < ah.length := by rw [← HNA.out]; exact hyn
        obtain ⟨aa, u, e2, q2, hr⟩ := (HA.out.below HO.out.below).get y hyl
        subst e2
        have g3 := pw_cell_below HO.out.below HG.out
        have HKR : Hid (∀ z ∈ ah.getD y [], z < 9223372036854775808) := fun z hz => HK.out _ (take_at ah [] y hyl).2 z hz
        clear hyl
        obtain ⟨Ar, cr, er, _, hmr⟩ := hr.len
        subst er
        obtain ⟨nr, hnr⟩ : ∃ nr, nr = (ah.getD y []).length := ⟨_, rfl⟩
        rw [← hnr] at q2 hr hmr
        have HRR := Lib.hid hr
        have HNR := Lib.hid hnr
        clear hr hnr
        go_wp2
        --S3
        go_loopw [29] (fun i wr => ∃ j : Nat, j ≤ nr ∧ i = .int .i64 j ∧ wr = w2 ∧ Hid (∀ z ∈ (ah.getD y []).take j, z ∈ out)) (fun i _ => nr - (intOf i).toNat)
        case atStart => exact ⟨0, by omega, rfl, rfl, fun z hz => by rw [List.take_zero] at hz; cases hz⟩
        case round =>
          obtain ⟨j, hj, rfl, hwr, HZ⟩ := hrel
          have hwr := hwr.symm; subst hwr
          by_cases l2 : j < nr
          · have hjl : j < (ah.getD y []).length := by rw [← HNR.out]; exact l2
            obtain ⟨ar, e3, q3⟩ := HRR.out.get j hjl
            subst e3
            have HTJ := Lib.hid (take_at (ah.getD y []) 0 j hjl)
            have hzs := HKR.out _ HTJ.out.2
            clear hjl
            obtain ⟨z, hz⟩ : ∃ z, z = (ah.getD y []).getD j 0 := ⟨_, rfl⟩
            rw [← hz] at q3 hzs
            have HZE := Lib.hid hz
            clear hz
            have hlk2 := HSM.out.look z hzs
            clear hzs
            by_cases hd : z ∈ out
            · have hdd : decide (z ∈ out) = true := decide_eq_true hd
              have HZ2 : Hid (∀ z ∈ (ah.getD y []).take (j + 1), z ∈ out) := fun z' hz' => by
                rw [HTJ.out.1] at hz'
                rcases List.mem_append.1 hz' with h | h
                · exact HZ.out z' h
                · rw [List.mem_singleton.1 h, ← HZE.out]; exact hd
              rw [hdd] at hlk2
              clear hd hdd
              go_wp2
              go_roundw
              case rel => exact ⟨j + 1, by omega, by go_num, trivial, HZ2.out⟩
              case measure => simp [intOf]; omega
            · have hdd : decide (z ∈ out) = false := decide_eq_false hd
              have HR2 : Hid (∀ j, j < k + 1 → readyB ah out (l.getD j 0) = false) := fun j' hj' => by
                rcases Nat.lt_succ_iff_lt_or_eq.1 hj' with h | h
                · exact HR.out j' h
                · rw [h, ← HYE.out]
                  unfold readyB
                  have hall : ((ah.getD y []).all fun k => decide (k ∈ out)) = false := by
                    rw [List.all_eq_false]
                    exact ⟨z, by rw [HZE.out]; exact HTJ.out.2, by rw [hdd]; decide⟩
                  rw [hall, Bool.and_false]
              rw [hdd] at hlk2
              clear hd hdd
              go_wp2
              --S4
              go_roundw
              case rel => exact ⟨k + 1, by omega, by go_num, rfl, trivial, HR2.out⟩
              case measure => simp [intOf]; omega
          · have hj2 : j = nr := by omega
            have HRD : Hid (readyB ah out (l.getD k 0) = true) := by
              show _ = _
              rw [← HYE.out]
              unfold readyB
              rw [decide_eq_true HNOT.out, Bool.true_and, List.all_eq_true]
              intro z hz
              have h := HZ.out z
              rw [hj2, HNR.out, List.take_length] at h
              exact decide_eq_true (h hz)
            have HLT : Hid (k < l.length) := by show _ < _; rw [← HN.out]; exact l1
            have HNX := Lib.hid (HD.out.next HLT.out HR.out HRD.out)
            rw [← HYE.out] at HNX
            clear hj2
            obtain ⟨w3, hrun, hM3, hR3, hB3⟩ := HO.out.stored (w1 := w2) y (by omega) (by rw [← HNO.out]; omega) HNOT.out
            have HRUN := Lib.hid hrun
            have HM3 := Lib.hid hM3
            have HR3 := Lib.hid hR3
            have HB3 := Lib.hid hB3
            clear hrun hM3 hR3 hB3
            go_wp2_with (with_reducible refine gate_ (.mapUpdate 90 (.tmp 38) (.tmp 39) (.const (.bool true))) rfl ?_; refine Held.of ?_)
            --S5
            refine Held.out (Held.out (Held.of (upd_at rfl (.tmp 38) (.tmp 39) (.const (.bool true)) 90 rfl x (.int .i64 (y : Int)) (.bool true) rfl rfl rfl HRUN.out ?_)))
            go_wp2_with (at_builtin; refine Held.of ?_)
            --S7
            refine Held.out (Kd.R_append (Kd.int .i64) (w0 := w) w.heap.size rfl (.tmp 40) (.tmp 42) 37 3 (.int .i64 0) 8 rfl Try.underlying37 (by kernel_rfl) rfl (by decide) (by decide) _ (ints out) (y : Int) [.int .i64 (y : Int)] (fun _ => True) (fun _ => False) rfl rfl rfl (fun _ h => h.elim) (fun _ _ => trivial) HR3.out HB3.out HB3.out.size (by rw [List.length_map, ← HNO.out]; omega) ?_)
            intro v7 w7 r7 b7 g7 _
            obtain ⟨f', HD'⟩ := HNX.out
            have HD7 := Lib.hid HD'
            have HO7 : Hid (Ow2 w w7 x v7 (out ++ [y])) := by
              obtain ⟨n3, hn3, hm3⟩ := HM3.out
              refine ⟨⟨n3, hn3, VMap.grown hm3 g7 fun q hq => ?_⟩, ?_, b7, HO.out.hb⟩
              · obtain ⟨cells, hc⟩ := Kd.R_typed HR3.out q hq
                exact ⟨cells, _, hc⟩
              · have e : ints (out ++ [y]) = ints out ++ [(y : Int)] := by simp [ints]
                show (Kd.int .i64).R _ _ _ _ _ _
                rw [e]
                exact r7
            obtain ⟨A7, c7, ev⟩ := Kd.R_slice r7
            have hn7 : (ints out ++ [(y : Int)]).length = no + 1 := by rw [List.length_append, List.length_map, ← HNO.out]; rfl
            rw [hn7] at ev
            subst ev
            have hno3 : no + 1 ≤ n := by
              have h := HD7.out.len
              rw [List.length_append, List.length_singleton, ← HNO.out, ← HN.out] at h
              exact h
            clear r7 b7 g7 hn7 q1 q2 g3 hlk HD'
            go_wp2
            simp only [Exit.noGoto, Exit.inBlock, Exit.then]
            go_roundw
            case rel =>
              repeat apply Exists.intro
              rotate_left
              rotate_right
              refine ⟨?rr, rfl⟩
              exact ⟨out ++ [y], f', HO7.out, HD7.out⟩
            case measure => simp [sliceLen]; omega
      · have hk2 : k = n := by omega
        have HE : Hid (out = orderV ah l) := HD.out.done fun z hz => by
          obtain ⟨i, hi, e⟩ := List.mem_iff_getElem.1 hz
          have h := HR.out i (by rw [hk2, HN.out]; exact hi)
          rw [List.getD_eq_getElem?_getD, List.getElem?_eq_getElem hi] at h
          rw [← e]
          exact h
        have HRE : Hid (Ir w.heap.size w2 (.slice Ao no co) (orderV ah l)) := by show Ir _ _ _ _; rw [← HE.out]; exact HO.out.row
        clear hk2
        go_wp2
        --S6
        simp only [Exit.noGoto, Exit.inBlock, Exit.then]
        go_ret
        exact ⟨_, rfl, HRE.out, HO.out.below⟩
end Go.Proofs.Ytifbkojapfighaa.Gr
