/- bellowslaw13.GraphChain (walk). -/
import Derived.Test.YtifbkojapfighaaGrOpen
import Derived.Test.YtifbkojapfighaaGrName
namespace Go.Proofs.Ytifbkojapfighaa.Gr
open Go.RowKit Go.Proofs.YtifbkojapfighaaW.PrintWords Go.Proofs.YtifbkojapfighaaW.PrintLast Go.Proofs.Ytifbkojapfighaa.Base Go.Maps
set_option linter.unusedVariables false
set_option linter.unusedSimpArgs false
theorem name_at (z : Int) (i : Nat) (hz : z = (i : Int)) (hi : i ≤ 30) (w : World) : Calls Try.prog 23 #[.int .i64 z] w fun e w' => e = .returned (.string (nameV i)) ∧ Below w.heap.size w w' := by
  subst hz
  exact name_any i hi w
theorem chain_tiny {es : List EdgeV} (hl : es.length ≤ 40) (h : ∀ e ∈ es, ∃ (a : Nat) (i o : List Nat), e = ⟨[nameV a], [], i.map nameV, o.map nameV, ⟨#[]⟩, ⟨#[]⟩⟩ ∧ i.length ≤ 1 ∧ o.length ≤ 1) : SmallG ⟨es, []⟩ := by
  refine tiny_small ?_
  unfold tinyB
  simp only [Bool.and_eq_true, decide_eq_true_eq, List.all_eq_true]
  refine ⟨⟨by omega, by simp⟩, fun e he => ?_⟩
  obtain ⟨a, i, o, rfl, h1, h2⟩ := h e he
  refine ⟨⟨⟨⟨⟨⟨⟨by simp, by simp⟩, by simp; omega⟩, by simp; omega⟩, fun s hs => ?_⟩, fun s hs => by cases hs⟩, fun s hs => ?_⟩, fun s hs => ?_⟩
  · rw [List.mem_singleton.1 hs, nameV_size]; omega
  · obtain ⟨k, _, rfl⟩ := List.mem_map.1 hs
    rw [nameV_size]; omega
  · obtain ⟨k, _, rfl⟩ := List.mem_map.1 hs
    rw [nameV_size]; omega
theorem chain_small {n : Nat} (hn : n ≤ 30) (t : Bool) : SmallG ⟨chainEs n t n, []⟩ :=
  chain_tiny (by rw [chainEs_len]; omega) fun e he => by
    obtain ⟨j, _, rfl⟩ := List.mem_map.1 he
    exact ⟨_, [_], [], rfl, by simp, by simp⟩
theorem ring_small {n : Nat} (hn : n ≤ 30) (t : Bool) : SmallG ⟨ringEs n t, []⟩ :=
  chain_tiny (by unfold ringEs; rw [List.length_append, chainEs_len]; simp; omega) fun e he => by
    unfold ringEs at he
    rcases List.mem_append.1 he with he | he
    · obtain ⟨j, _, rfl⟩ := List.mem_map.1 he
      exact ⟨_, [_], [], rfl, by simp, by simp⟩
    · rw [List.mem_singleton.1 he]
      exact ⟨_, [], [_], rfl, by simp, by simp⟩
set_option maxRecDepth 100000 in
set_option maxHeartbeats 32000000 in
theorem chain_any (many : Nat) (t r : Bool) (w : World) (hm : many < 256) :
    Calls Try.prog 7 #[.int .u8 many, .bool t, .bool r] w fun e w' => e = .returned (.bool true) ∧ Below w.heap.size w w' := by
  obtain ⟨p, hp⟩ : ∃ p, p = many % 30 := ⟨_, rfl⟩
  have hp0 : (many : Int) % 30 = (p : Int) := by rw [hp]; simp
  have hp30 : p < 30 := by omega
  clear hp
  obtain ⟨n, hn⟩ : ∃ n, n = p + 1 := ⟨_, rfl⟩
  have hq : Hid ((p : Int) + 1 = (n : Int)) := by show _ = _; rw [hn]; simp
  have hn1 : 1 ≤ n := by omega
  have hn30 : n ≤ 30 := by omega
  clear hn
  go_enter Try.func7, Try.ntmps7
  go_upto_region 2 with (fail)
  rw [hq.out]
  clear hq hm hp0 hp30
  obtain ⟨y, hy⟩ : ∃ y, w.heap.size = y := ⟨_, rfl⟩
  obtain ⟨w1, hw1⟩ : ∃ w1, w1 = w.alloc (.cells #[.slice none 0 0, .slice none 0 0] 33) := ⟨_, rfl⟩
  have hb1 : Below w.heap.size w w1 := by rw [hw1]; exact below_alloc (Below.refl _ _) _
  have hy1 : w1.heap[y]? = some (.cells #[.slice none 0 0, .slice none 0 0] 33 (0, 0)) := by rw [hw1, ← hy]; exact blk_new w _
  have HO1 : Hid (Oo w w1 y (.slice none 0 0) (.slice none 0 0) (chainEs n t 0) []) := ⟨hy1, Kd.R_nil kedge _ _ _ _, Kd.R_nil Kd.string _ _ _ _, hb1, by rw [hy]; exact Nat.le_refl _⟩
  have HW1 := Lib.hid hw1
  have HYY := Lib.hid hy
  clear hb1 hy1 hw1
  go_upto_region 3 with (fail)
  rw [← HW1.out]
  try rw [hy]
  clear hy
  go_wp2
  --S1
  go_loopw [9] (fun i wr => ∃ (j : Nat) (v : Value), 1 ≤ j ∧ j ≤ n + 1 ∧ i = .int .i64 j ∧ Hid (Oo w wr y v (.slice none 0 0) (chainEs n t (j - 1)) [])) (fun i _ => n + 1 - (intOf i).toNat)
  case atStart => exact ⟨1, _, by omega, by omega, rfl, HO1.out⟩
  case round =>
    clear HO1
    obtain ⟨j, v, hj1, hj2, rfl, HO⟩ := hrel
    obtain ⟨Av, cv, ev⟩ := Kd.R_slice HO.out.ed
    obtain ⟨nv, hnv⟩ : ∃ nv, nv = ((chainEs n t (j - 1)).map EdgeV.x).length := ⟨_, rfl⟩
    rw [← hnv] at ev
    subst ev
    have hnj : nv = j - 1 := by rw [hnv, List.length_map, chainEs_len]
    have HNV : Hid (nv + 1 = j) := by show _ = _; omega
    clear hnv hnj
    by_cases l1 : j ≤ n
    · have HSN : Hid (chainEs n t (j - 1 + 1) = chainEs n t (j - 1) ++ [chainE n t (j - 1)]) := chainEs_snoc n t (j - 1)
      have hjj : j - 1 + 1 = j := by omega
      rw [hjj] at HSN
      clear hjj
      cases t with
      | false =>
        have HCE : Hid (chainE n false (j - 1) = ⟨[nameV j], [], [nameV (j - 1)], [], ⟨#[]⟩, ⟨#[]⟩⟩) := by
          show chainE n false (j - 1) = _
          have e : kOf n false (j - 1) = j := by unfold kOf; simp; omega
          unfold chainE
          rw [e]
        have hk1 : 1 ≤ j := by omega
        have hk30 : j ≤ 30 := by omega
        go_upto_region 9 with (fail)
        have QY : Hid (wr.cell? ⟨y, 0, none⟩ = some (.slice Av nv cv)) := blk_cell HO.out.gx 0
        have HBD : Hid (Below wr.heap.size wr wr.drew) := Below.drew (Below.refl _ _)
        have HKW : Hid (wrap64 ((j : Int) - 1) = ((j - 1 : Nat) : Int)) := by
          show _ = _
          rw [IntWalk.wrap64_in _ (by omega)]
          omega
        refine start_ (n := 14) (S := fun w' => Below wr.heap.size wr w' ∧ w'.cell? ⟨y, 0, none⟩ = some (.slice Av nv cv)) (ds := [11, 13]) #[false, false, false, false, false, false, false, false, false, false, false, false, false, false] (by kernel_rfl) rfl rfl ⟨HBD.out, QY.out⟩ (fun hHeld => ?_)
        refine pure_ (i := 0) (N := some 34) (v := ?_) (a' := ?_) #[true, false, false, false, false, false, false, false, false, false, false, false, false, false] rfl rfl (by kernel_rfl) (fun _ _ _ h => h) (Or.inl ⟨by rfl, ?_⟩) ?_ ?_
        rotate_left
        · intro w'
          go_simp
          with_reducible rfl
        rotate_left
        · simp only [Act.put, List.setIfInBounds_toArray, List.set_cons_zero, List.set_cons_succ, i64_w, i32_w]
          rfl
        refine pure_ (i := 2) (N := some 36) (v := ?_) (a' := ?_) #[true, false, true, false, false, false, false, false, false, false, false, false, false, false] rfl rfl (by kernel_rfl) (fun _ _ _ h => h) (Or.inl ⟨by rfl, ?_⟩) ?_ ?_
        rotate_left
        · intro w'
          go_simp
          with_reducible rfl
        rotate_left
        · simp only [Act.put, List.setIfInBounds_toArray, List.set_cons_zero, List.set_cons_succ, i64_w, i32_w]
          rfl
        refine pure_ (i := 5) (N := some 39) (v := ?_) (a' := ?_) #[true, false, true, false, false, true, false, false, false, false, false, false, false, false] rfl rfl (by kernel_rfl) (fun _ _ _ h => h) (Or.inl ⟨by rfl, ?_⟩) ?_ ?_
        rotate_left
        · intro w'
          go_simp
          with_reducible rfl
        rotate_left
        · simp only [Act.put, List.setIfInBounds_toArray, List.set_cons_zero, List.set_cons_succ, i64_w, i32_w]
          rfl
        refine pure_ (i := 6) (N := some 40) (v := ?_) (a' := ?_) #[true, false, true, false, false, true, true, false, false, false, false, false, false, false] rfl rfl (by kernel_rfl) (fun _ _ _ h => h) (Or.inl ⟨by rfl, ?_⟩) ?_ ?_
        rotate_left
        · intro w'
          go_simp
          with_reducible rfl
        rotate_left
        · simp only [Act.put, List.setIfInBounds_toArray, List.set_cons_zero, List.set_cons_succ, i64_w, i32_w]
          rfl
        refine take_ (i := 1) (N := some 35) (v := ?_) (a' := ?_) #[true, true, true, false, false, true, true, false, false, false, false, false, false, false] rfl rfl (by kernel_rfl) (fun _ _ _ h => h) (Or.inl ⟨by rfl, ?_⟩) hHeld ?_ ?_
        rotate_left
        · rintro w' ⟨s0, s1⟩
          go_simp
          with_reducible rfl
        rotate_left
        · simp only [Act.put, List.setIfInBounds_toArray, List.set_cons_zero, List.set_cons_succ, i64_w, i32_w]
          rfl
        refine one_ (i := 3) (N := some 37) #[true, true, true, true, false, true, true, false, false, false, false, false, false, false] rfl rfl (by kernel_rfl) (by decide) (fun K hK => ?_)
        refine goes_ Try.func23 (by kernel_rfl) rfl #[.int .i64 (j : Int)] (by rfl) rfl rfl (by first | (simp only [List.map_toArray, List.map_cons, List.map_nil]; done) | (simp only [List.map_toArray, List.map_cons, List.map_nil]; rfl) | rfl) ?_
        with_reducible refine (name_at _ j rfl (by omega) _).mono ?_
        rintro e wc ⟨rfl, bb3⟩
        refine ⟨_, rfl, ?_⟩
        have h3 := hHeld.1.trans (bb3.mono hHeld.1.size)
        have HC3 := Lib.hid bb3
        have HZ3 := Lib.hid h3
        clear bb3
        refine hK.out _ _ ⟨h3, pw_cell_below (h3) QY.out⟩ (fun hHeld => ?_)
        clear hK K
        refine norm_ (a' := ?_) ?_ ?_
        rotate_left
        · show Act.put _ (some 37) _ = _
          simp only [Act.put, List.setIfInBounds_toArray, List.set_cons_zero, List.set_cons_succ, i64_w, i32_w]
          rfl
        refine join_ (σ := Nat × Nat) 5 #[true, true, true, true, true, true, true, true, true, false, false, false, false, false] (fun s => [(38, .slice (some ⟨s.1, 0, none⟩) 1 1), (41, .string (nameV (j - 1))), (42, .slice (some ⟨s.2, 0, none⟩) 1 1)]) (fun s w' => Below wr.heap.size wr w' ∧ Kd.string.R 9 w' w.heap.size (fun _ => True) (.slice (some ⟨s.1, 0, none⟩) 1 1) [nameV j] ∧ Kd.string.R 9 w' w.heap.size (fun _ => True) (.slice (some ⟨s.2, 0, none⟩) 1 1) [nameV (j - 1)]) ?_ ?_
        rotate_left
        · intro hCont
          refine two_ (i := 4) (j := 7) (Ni := some 38) (Nj := some 41) #[true, true, true, true, true, true, true, false, false, false, false, false, false, false] #[true, true, true, true, false, true, true, true, false, false, false, false, false, false] rfl rfl rfl rfl (by kernel_rfl) (by decide) (by decide) (fun K hK => ?_) (fun K hK => ?_)
          · skip
            refine value_ (w1 := ?_) (v := ?_) (by rfl) rfl ?_ ?_
            rotate_left 2
            · go_simp
              constructor
              · rfl
              · rfl
            refine hK.out _ _ ⟨hHeld.1.alloc hHeld.1.size _, pw_cell_below (hHeld.1.alloc hHeld.1.size _) QY.out⟩ (fun hHeld => ?_)
            clear hK K
            refine norm_ (a' := ?_) ?_ ?_
            rotate_left
            · show Act.put _ (some 38) _ = _
              simp only [Act.put, List.setIfInBounds_toArray, List.set_cons_zero, List.set_cons_succ, i64_w, i32_w]
              rfl
            refine one_ (i := 7) (N := some 41) #[true, true, true, true, true, true, true, true, false, false, false, false, false, false] rfl rfl (by kernel_rfl) (by decide) (fun K hK => ?_)
            refine goes_ Try.func23 (by kernel_rfl) rfl #[.int .i64 (wrap64 ((j : Int) - 1))] (by rfl) rfl rfl (by first | (simp only [List.map_toArray, List.map_cons, List.map_nil]; done) | (simp only [List.map_toArray, List.map_cons, List.map_nil]; rfl) | rfl) ?_
            with_reducible refine (name_at _ (j - 1) HKW.out (by omega) _).mono ?_
            rintro e wd ⟨rfl, bb7⟩
            refine ⟨_, rfl, ?_⟩
            have h7 := hHeld.1.trans (bb7.mono hHeld.1.size)
            have HC7 := Lib.hid bb7
            have HZ7 := Lib.hid h7
            clear bb7
            refine hK.out _ _ ⟨h7, pw_cell_below (h7) QY.out⟩ (fun hHeld => ?_)
            clear hK K
            refine norm_ (a' := ?_) ?_ ?_
            rotate_left
            · show Act.put _ (some 41) _ = _
              simp only [Act.put, List.setIfInBounds_toArray, List.set_cons_zero, List.set_cons_succ, i64_w, i32_w]
              rfl
            refine one_ (i := 8) (N := some 42) #[true, true, true, true, true, true, true, true, true, false, false, false, false, false] rfl rfl (by kernel_rfl) (by decide) (fun K hK => ?_)
            refine value_ (w1 := ?_) (v := ?_) (by rfl) rfl ?_ ?_
            rotate_left 2
            · go_simp
              constructor
              · rfl
              · rfl
            refine hK.out _ _ ⟨hHeld.1.alloc hHeld.1.size _, pw_cell_below (hHeld.1.alloc hHeld.1.size _) QY.out⟩ (fun hHeld => ?_)
            clear hK K
            refine norm_ (a' := ?_) ?_ ?_
            rotate_left
            · show Act.put _ (some 42) _ = _
              simp only [Act.put, List.setIfInBounds_toArray, List.set_cons_zero, List.set_cons_succ, i64_w, i32_w]
              rfl
            exact norm_ (by simp only [Go.Proofs.YtifbkojapfighaaW.PrintLast.putAll, Act.put, List.setIfInBounds_toArray, List.set_cons_zero, List.set_cons_succ]) (hCont (wc.heap.size, wd.heap.size) _ ⟨hHeld.1, Kd.R_below (Kd.R_below (str_lit wc w.heap.size (Nat.le_trans HO.out.below.size HZ3.out.size) (fun _ => True) trivial (nameV j)) HC7.out) (below_alloc (Below.refl _ _) _), str_lit wd w.heap.size (Nat.le_trans HO.out.below.size HZ7.out.size) (fun _ => True) trivial (nameV (j - 1))⟩)
          · skip
            refine goes_ Try.func23 (by kernel_rfl) rfl #[.int .i64 (wrap64 ((j : Int) - 1))] (by rfl) rfl rfl (by first | (simp only [List.map_toArray, List.map_cons, List.map_nil]; done) | (simp only [List.map_toArray, List.map_cons, List.map_nil]; rfl) | rfl) ?_
            with_reducible refine (name_at _ (j - 1) HKW.out (by omega) _).mono ?_
            rintro e wd ⟨rfl, bb7⟩
            refine ⟨_, rfl, ?_⟩
            have h7 := hHeld.1.trans (bb7.mono hHeld.1.size)
            have HC7 := Lib.hid bb7
            have HZ7 := Lib.hid h7
            clear bb7
            refine hK.out _ _ ⟨h7, pw_cell_below (h7) QY.out⟩ (fun hHeld => ?_)
            clear hK K
            refine norm_ (a' := ?_) ?_ ?_
            rotate_left
            · show Act.put _ (some 41) _ = _
              simp only [Act.put, List.setIfInBounds_toArray, List.set_cons_zero, List.set_cons_succ, i64_w, i32_w]
              rfl
            refine two_ (i := 4) (j := 8) (Ni := some 38) (Nj := some 42) #[true, true, true, true, true, true, true, true, false, false, false, false, false, false] #[true, true, true, true, false, true, true, true, true, false, false, false, false, false] rfl rfl rfl rfl (by kernel_rfl) (by decide) (by decide) (fun K hK => ?_) (fun K hK => ?_)
            · skip
              refine value_ (w1 := ?_) (v := ?_) (by rfl) rfl ?_ ?_
              rotate_left 2
              · go_simp
                constructor
                · rfl
                · rfl
              refine hK.out _ _ ⟨hHeld.1.alloc hHeld.1.size _, pw_cell_below (hHeld.1.alloc hHeld.1.size _) QY.out⟩ (fun hHeld => ?_)
              clear hK K
              refine norm_ (a' := ?_) ?_ ?_
              rotate_left
              · show Act.put _ (some 38) _ = _
                simp only [Act.put, List.setIfInBounds_toArray, List.set_cons_zero, List.set_cons_succ, i64_w, i32_w]
                rfl
              refine one_ (i := 8) (N := some 42) #[true, true, true, true, true, true, true, true, true, false, false, false, false, false] rfl rfl (by kernel_rfl) (by decide) (fun K hK => ?_)
              refine value_ (w1 := ?_) (v := ?_) (by rfl) rfl ?_ ?_
              rotate_left 2
              · go_simp
                constructor
                · rfl
                · rfl
              refine hK.out _ _ ⟨hHeld.1.alloc hHeld.1.size _, pw_cell_below (hHeld.1.alloc hHeld.1.size _) QY.out⟩ (fun hHeld => ?_)
              clear hK K
              refine norm_ (a' := ?_) ?_ ?_
              rotate_left
              · show Act.put _ (some 42) _ = _
                simp only [Act.put, List.setIfInBounds_toArray, List.set_cons_zero, List.set_cons_succ, i64_w, i32_w]
                rfl
              exact norm_ (by simp only [Go.Proofs.YtifbkojapfighaaW.PrintLast.putAll, Act.put, List.setIfInBounds_toArray, List.set_cons_zero, List.set_cons_succ]) (hCont (wd.heap.size, wd.heap.size + 1) _ ⟨hHeld.1, Kd.R_below (str_lit wd w.heap.size (Nat.le_trans HO.out.below.size HZ7.out.size) (fun _ => True) trivial (nameV j)) (below_alloc (Below.refl _ _) _), (by have h := str_lit (wd.alloc (.cells #[.string (nameV j)] 9)) w.heap.size (Nat.le_trans HO.out.below.size (Nat.le_trans HZ7.out.size (by simp))) (fun _ => True) trivial (nameV (j - 1)); have hs : (wd.alloc (.cells #[.string (nameV j)] 9)).heap.size = wd.heap.size + 1 := (by simp); rw [hs] at h; exact h)⟩)
            · skip
              refine value_ (w1 := ?_) (v := ?_) (by rfl) rfl ?_ ?_
              rotate_left 2
              · go_simp
                constructor
                · rfl
                · rfl
              refine hK.out _ _ ⟨hHeld.1.alloc hHeld.1.size _, pw_cell_below (hHeld.1.alloc hHeld.1.size _) QY.out⟩ (fun hHeld => ?_)
              clear hK K
              refine norm_ (a' := ?_) ?_ ?_
              rotate_left
              · show Act.put _ (some 42) _ = _
                simp only [Act.put, List.setIfInBounds_toArray, List.set_cons_zero, List.set_cons_succ, i64_w, i32_w]
                rfl
              refine one_ (i := 4) (N := some 38) #[true, true, true, true, true, true, true, true, true, false, false, false, false, false] rfl rfl (by kernel_rfl) (by decide) (fun K hK => ?_)
              refine value_ (w1 := ?_) (v := ?_) (by rfl) rfl ?_ ?_
              rotate_left 2
              · go_simp
                constructor
                · rfl
                · rfl
              refine hK.out _ _ ⟨hHeld.1.alloc hHeld.1.size _, pw_cell_below (hHeld.1.alloc hHeld.1.size _) QY.out⟩ (fun hHeld => ?_)
              clear hK K
              refine norm_ (a' := ?_) ?_ ?_
              rotate_left
              · show Act.put _ (some 38) _ = _
                simp only [Act.put, List.setIfInBounds_toArray, List.set_cons_zero, List.set_cons_succ, i64_w, i32_w]
                rfl
              exact norm_ (by simp only [Go.Proofs.YtifbkojapfighaaW.PrintLast.putAll, Act.put, List.setIfInBounds_toArray, List.set_cons_zero, List.set_cons_succ]) (hCont (wd.heap.size + 1, wd.heap.size) _ ⟨hHeld.1, (by have h := str_lit (wd.alloc (.cells #[.string (nameV (j - 1))] 9)) w.heap.size (Nat.le_trans HO.out.below.size (Nat.le_trans HZ7.out.size (by simp))) (fun _ => True) trivial (nameV j); have hs : (wd.alloc (.cells #[.string (nameV (j - 1))] 9)).heap.size = wd.heap.size + 1 := (by simp); rw [hs] at h; exact h), Kd.R_below (str_lit wd w.heap.size (Nat.le_trans HO.out.below.size HZ7.out.size) (fun _ => True) trivial (nameV (j - 1))) (below_alloc (Below.refl _ _) _)⟩)
        rintro ⟨b4, b8⟩ wx ⟨hF1, hF2, hF3⟩
        simp only at hF2 hF3
        have hHeld : Below wr.heap.size wr wx ∧ wx.cell? ⟨y, 0, none⟩ = some (.slice Av nv cv) := ⟨hF1, pw_cell_below (hF1) QY.out⟩
        have HR4 := Lib.hid hF2
        have HR8 := Lib.hid hF3
        have HZX := Lib.hid hF1
        clear hF1 hF2 hF3
        refine norm_ (a' := ?_) ?_ ?_
        rotate_left
        · simp only [Go.Proofs.YtifbkojapfighaaW.PrintLast.putAll, Act.put, List.setIfInBounds_toArray, List.set_cons_zero, List.set_cons_succ]
          rfl
        refine pure_ (i := 9) (N := some 43) (v := ?_) (a' := ?_) #[true, true, true, true, true, true, true, true, true, true, false, false, false, false] rfl rfl (by kernel_rfl) (fun _ _ _ h => h) (Or.inl ⟨by rfl, ?_⟩) ?_ ?_
        rotate_left
        · intro w'
          go_simp
          with_reducible rfl
        rotate_left
        · simp only [Act.put, List.setIfInBounds_toArray, List.set_cons_zero, List.set_cons_succ, i64_w, i32_w]
          rfl
        refine one_ (i := 10) (N := some 44) #[true, true, true, true, true, true, true, true, true, true, true, false, false, false] rfl rfl (by kernel_rfl) (by decide) (fun K hK => ?_)
        refine value_ (w1 := ?_) (v := ?_) (by rfl) rfl ?_ ?_
        rotate_left 2
        · go_simp
          constructor
          · rfl
          · rfl
        refine hK.out _ _ ⟨hHeld.1.alloc hHeld.1.size _, pw_cell_below (hHeld.1.alloc hHeld.1.size _) QY.out⟩ (fun hHeld => ?_)
        clear hK K
        refine norm_ (a' := ?_) ?_ ?_
        rotate_left
        · show Act.put _ (some 44) _ = _
          simp only [Act.put, List.setIfInBounds_toArray, List.set_cons_zero, List.set_cons_succ, i64_w, i32_w]
          rfl
        refine last_ (i := 11) (N := some 45) #[true, true, true, true, true, true, true, true, true, true, true, true, false, false] rfl rfl (by kernel_rfl) (by decide) (fun K hK => ?_)
        have HKz := Lib.hid (HO.out.moved HZX.out)
        have HEO : Hid (EdO w.heap.size (fun _ => True) wx (.slice (some ⟨b4, 0, none⟩) 1 1) (.slice none 0 0) (.slice (some ⟨b8, 0, none⟩) 1 1) (.slice none 0 0) (chainE n false (j - 1))) := by show EdO _ _ _ _ _ _ _ _; rw [HCE.out]; exact ⟨HR4.out, Kd.R_nil Kd.string _ _ _ _, HR8.out, Kd.R_nil Kd.string _ _ _ _⟩
        have hce := HCE.out
        have HEO2 : Hid (EdO w.heap.size (fun _ => True) wx (.slice (some ⟨b4, 0, none⟩) 1 1) (.slice none 0 0) (.slice (some ⟨b8, 0, none⟩) 1 1) (.slice none 0 0) ⟨[nameV j], [], [nameV (j - 1)], [], ⟨#[]⟩, ⟨#[]⟩⟩) := by show EdO _ _ _ _ _ _ _ _; rw [← hce]; exact HEO.out
        clear hce
        refine app_edge_step (w0 := w) rfl (.tmp 35) (.tmp 44) rfl (.slice Av nv cv) _ _ _ _ (chainEs n false (j - 1)) ⟨[nameV j], [], [nameV (j - 1)], [], ⟨#[]⟩, ⟨#[]⟩⟩ rfl rfl HKz.out.ed HKz.out.below HEO2.out (by rw [chainEs_len]; omega) ?_
        intro va wa ra _ ga
        rw [← HCE.out, ← HSN.out] at ra
        obtain ⟨Aa, ca, ea⟩ := Kd.R_slice ra
        have hva : ((chainEs n false j).map EdgeV.x).length = nv + 1 := by rw [List.length_map, chainEs_len]; exact HNV.out.symm
        rw [hva] at ea
        subst ea
        obtain ⟨e7, x7⟩ := HKz.out.edge ra ga
        have X7 := Lib.hid x7
        have fa := blk_frozen e7 0
        have ka := blk_cell e7 0
        clear ra ga hva e7 x7
        refine hK.out _ _ ?_
        clear hK K
        refine norm_ (a' := ?_) ?_ ?_
        rotate_left
        · show Act.put _ (some 45) _ = _
          simp only [Act.put, List.setIfInBounds_toArray, List.set_cons_zero, List.set_cons_succ, i64_w, i32_w]
          rfl
        refine pure_ (i := 12) (N := some 46) (v := ?_) (a' := ?_) #[true, true, true, true, true, true, true, true, true, true, true, true, true, false] rfl rfl (by kernel_rfl) (fun _ _ _ h => h) (Or.inl ⟨by rfl, ?_⟩) ?_ ?_
        rotate_left
        · intro w'
          go_simp
          with_reducible rfl
        rotate_left
        · simp only [Act.put, List.setIfInBounds_toArray, List.set_cons_zero, List.set_cons_succ, i64_w, i32_w]
          rfl
        refine last_ (i := 13) (N := none) #[true, true, true, true, true, true, true, true, true, true, true, true, true, true] rfl rfl (by kernel_rfl) (by decide) (fun K hK => ?_)
        refine skip_ (w1 := ?_) (by rfl) rfl ?_ ?_
        rotate_left
        · go_simp
          rfl
        refine hK.out _ _ ?_
        clear hK K
        refine done_ (by kernel_rfl) ?_
        clear hHeld fa ka QY HBD HR4 HR8 HZX HKz HEO HEO2 HKW
        generalize wa.setCell ⟨y, 0, none⟩ (.slice Aa (nv + 1) ca) = w8 at X7 ⊢
        go_wp2
        go_roundw
        case rel => exact ⟨j + 1, _, by omega, by omega, by go_num, X7.out⟩
        case measure => simp [intOf]; omega
      | true =>
        obtain ⟨kk, hkk⟩ : ∃ kk, kk = n + 1 - j := ⟨_, rfl⟩
        have HCE : Hid (chainE n true (j - 1) = ⟨[nameV kk], [], [nameV (kk - 1)], [], ⟨#[]⟩, ⟨#[]⟩⟩) := by
          show chainE n true (j - 1) = _
          have e : kOf n true (j - 1) = kk := by unfold kOf; simp; omega
          unfold chainE
          rw [e]
        have hk1 : 1 ≤ kk := by omega
        have hk30 : kk ≤ 30 := by omega
        have hki : (n : Int) + 1 - (j : Int) = (kk : Int) := by omega
        clear hkk
        go_upto_region 9 with (fail)
        try rw [hki]
        clear hki
        have QY : Hid (wr.cell? ⟨y, 0, none⟩ = some (.slice Av nv cv)) := blk_cell HO.out.gx 0
        have HBD : Hid (Below wr.heap.size wr wr.drew) := Below.drew (Below.refl _ _)
        have HKW : Hid (wrap64 ((kk : Int) - 1) = ((kk - 1 : Nat) : Int)) := by
          show _ = _
          rw [IntWalk.wrap64_in _ (by omega)]
          omega
        refine start_ (n := 14) (S := fun w' => Below wr.heap.size wr w' ∧ w'.cell? ⟨y, 0, none⟩ = some (.slice Av nv cv)) (ds := [11, 13]) #[false, false, false, false, false, false, false, false, false, false, false, false, false, false] (by kernel_rfl) rfl rfl ⟨HBD.out, QY.out⟩ (fun hHeld => ?_)
        refine pure_ (i := 0) (N := some 34) (v := ?_) (a' := ?_) #[true, false, false, false, false, false, false, false, false, false, false, false, false, false] rfl rfl (by kernel_rfl) (fun _ _ _ h => h) (Or.inl ⟨by rfl, ?_⟩) ?_ ?_
        rotate_left
        · intro w'
          go_simp
          with_reducible rfl
        rotate_left
        · simp only [Act.put, List.setIfInBounds_toArray, List.set_cons_zero, List.set_cons_succ, i64_w, i32_w]
          rfl
        refine pure_ (i := 2) (N := some 36) (v := ?_) (a' := ?_) #[true, false, true, false, false, false, false, false, false, false, false, false, false, false] rfl rfl (by kernel_rfl) (fun _ _ _ h => h) (Or.inl ⟨by rfl, ?_⟩) ?_ ?_
        rotate_left
        · intro w'
          go_simp
          with_reducible rfl
        rotate_left
        · simp only [Act.put, List.setIfInBounds_toArray, List.set_cons_zero, List.set_cons_succ, i64_w, i32_w]
          rfl
        refine pure_ (i := 5) (N := some 39) (v := ?_) (a' := ?_) #[true, false, true, false, false, true, false, false, false, false, false, false, false, false] rfl rfl (by kernel_rfl) (fun _ _ _ h => h) (Or.inl ⟨by rfl, ?_⟩) ?_ ?_
        rotate_left
        · intro w'
          go_simp
          with_reducible rfl
        rotate_left
        · simp only [Act.put, List.setIfInBounds_toArray, List.set_cons_zero, List.set_cons_succ, i64_w, i32_w]
          rfl
        refine pure_ (i := 6) (N := some 40) (v := ?_) (a' := ?_) #[true, false, true, false, false, true, true, false, false, false, false, false, false, false] rfl rfl (by kernel_rfl) (fun _ _ _ h => h) (Or.inl ⟨by rfl, ?_⟩) ?_ ?_
        rotate_left
        · intro w'
          go_simp
          with_reducible rfl
        rotate_left
        · simp only [Act.put, List.setIfInBounds_toArray, List.set_cons_zero, List.set_cons_succ, i64_w, i32_w]
          rfl
        refine take_ (i := 1) (N := some 35) (v := ?_) (a' := ?_) #[true, true, true, false, false, true, true, false, false, false, false, false, false, false] rfl rfl (by kernel_rfl) (fun _ _ _ h => h) (Or.inl ⟨by rfl, ?_⟩) hHeld ?_ ?_
        rotate_left
        · rintro w' ⟨s0, s1⟩
          go_simp
          with_reducible rfl
        rotate_left
        · simp only [Act.put, List.setIfInBounds_toArray, List.set_cons_zero, List.set_cons_succ, i64_w, i32_w]
          rfl
        refine one_ (i := 3) (N := some 37) #[true, true, true, true, false, true, true, false, false, false, false, false, false, false] rfl rfl (by kernel_rfl) (by decide) (fun K hK => ?_)
        refine goes_ Try.func23 (by kernel_rfl) rfl #[.int .i64 (kk : Int)] (by rfl) rfl rfl (by first | (simp only [List.map_toArray, List.map_cons, List.map_nil]; done) | (simp only [List.map_toArray, List.map_cons, List.map_nil]; rfl) | rfl) ?_
        with_reducible refine (name_at _ kk rfl (by omega) _).mono ?_
        rintro e wc ⟨rfl, bb3⟩
        refine ⟨_, rfl, ?_⟩
        have h3 := hHeld.1.trans (bb3.mono hHeld.1.size)
        have HC3 := Lib.hid bb3
        have HZ3 := Lib.hid h3
        clear bb3
        refine hK.out _ _ ⟨h3, pw_cell_below (h3) QY.out⟩ (fun hHeld => ?_)
        clear hK K
        refine norm_ (a' := ?_) ?_ ?_
        rotate_left
        · show Act.put _ (some 37) _ = _
          simp only [Act.put, List.setIfInBounds_toArray, List.set_cons_zero, List.set_cons_succ, i64_w, i32_w]
          rfl
        refine join_ (σ := Nat × Nat) 5 #[true, true, true, true, true, true, true, true, true, false, false, false, false, false] (fun s => [(38, .slice (some ⟨s.1, 0, none⟩) 1 1), (41, .string (nameV (kk - 1))), (42, .slice (some ⟨s.2, 0, none⟩) 1 1)]) (fun s w' => Below wr.heap.size wr w' ∧ Kd.string.R 9 w' w.heap.size (fun _ => True) (.slice (some ⟨s.1, 0, none⟩) 1 1) [nameV kk] ∧ Kd.string.R 9 w' w.heap.size (fun _ => True) (.slice (some ⟨s.2, 0, none⟩) 1 1) [nameV (kk - 1)]) ?_ ?_
        rotate_left
        · intro hCont
          refine two_ (i := 4) (j := 7) (Ni := some 38) (Nj := some 41) #[true, true, true, true, true, true, true, false, false, false, false, false, false, false] #[true, true, true, true, false, true, true, true, false, false, false, false, false, false] rfl rfl rfl rfl (by kernel_rfl) (by decide) (by decide) (fun K hK => ?_) (fun K hK => ?_)
          · skip
            refine value_ (w1 := ?_) (v := ?_) (by rfl) rfl ?_ ?_
            rotate_left 2
            · go_simp
              constructor
              · rfl
              · rfl
            refine hK.out _ _ ⟨hHeld.1.alloc hHeld.1.size _, pw_cell_below (hHeld.1.alloc hHeld.1.size _) QY.out⟩ (fun hHeld => ?_)
            clear hK K
            refine norm_ (a' := ?_) ?_ ?_
            rotate_left
            · show Act.put _ (some 38) _ = _
              simp only [Act.put, List.setIfInBounds_toArray, List.set_cons_zero, List.set_cons_succ, i64_w, i32_w]
              rfl
            refine one_ (i := 7) (N := some 41) #[true, true, true, true, true, true, true, true, false, false, false, false, false, false] rfl rfl (by kernel_rfl) (by decide) (fun K hK => ?_)
            refine goes_ Try.func23 (by kernel_rfl) rfl #[.int .i64 (wrap64 ((kk : Int) - 1))] (by rfl) rfl rfl (by first | (simp only [List.map_toArray, List.map_cons, List.map_nil]; done) | (simp only [List.map_toArray, List.map_cons, List.map_nil]; rfl) | rfl) ?_
            with_reducible refine (name_at _ (kk - 1) HKW.out (by omega) _).mono ?_
            rintro e wd ⟨rfl, bb7⟩
            refine ⟨_, rfl, ?_⟩
            have h7 := hHeld.1.trans (bb7.mono hHeld.1.size)
            have HC7 := Lib.hid bb7
            have HZ7 := Lib.hid h7
            clear bb7
            refine hK.out _ _ ⟨h7, pw_cell_below (h7) QY.out⟩ (fun hHeld => ?_)
            clear hK K
            refine norm_ (a' := ?_) ?_ ?_
            rotate_left
            · show Act.put _ (some 41) _ = _
              simp only [Act.put, List.setIfInBounds_toArray, List.set_cons_zero, List.set_cons_succ, i64_w, i32_w]
              rfl
            refine one_ (i := 8) (N := some 42) #[true, true, true, true, true, true, true, true, true, false, false, false, false, false] rfl rfl (by kernel_rfl) (by decide) (fun K hK => ?_)
            refine value_ (w1 := ?_) (v := ?_) (by rfl) rfl ?_ ?_
            rotate_left 2
            · go_simp
              constructor
              · rfl
              · rfl
            refine hK.out _ _ ⟨hHeld.1.alloc hHeld.1.size _, pw_cell_below (hHeld.1.alloc hHeld.1.size _) QY.out⟩ (fun hHeld => ?_)
            clear hK K
            refine norm_ (a' := ?_) ?_ ?_
            rotate_left
            · show Act.put _ (some 42) _ = _
              simp only [Act.put, List.setIfInBounds_toArray, List.set_cons_zero, List.set_cons_succ, i64_w, i32_w]
              rfl
            exact norm_ (by simp only [Go.Proofs.YtifbkojapfighaaW.PrintLast.putAll, Act.put, List.setIfInBounds_toArray, List.set_cons_zero, List.set_cons_succ]) (hCont (wc.heap.size, wd.heap.size) _ ⟨hHeld.1, Kd.R_below (Kd.R_below (str_lit wc w.heap.size (Nat.le_trans HO.out.below.size HZ3.out.size) (fun _ => True) trivial (nameV kk)) HC7.out) (below_alloc (Below.refl _ _) _), str_lit wd w.heap.size (Nat.le_trans HO.out.below.size HZ7.out.size) (fun _ => True) trivial (nameV (kk - 1))⟩)
          · skip
            refine goes_ Try.func23 (by kernel_rfl) rfl #[.int .i64 (wrap64 ((kk : Int) - 1))] (by rfl) rfl rfl (by first | (simp only [List.map_toArray, List.map_cons, List.map_nil]; done) | (simp only [List.map_toArray, List.map_cons, List.map_nil]; rfl) | rfl) ?_
            with_reducible refine (name_at _ (kk - 1) HKW.out (by omega) _).mono ?_
            rintro e wd ⟨rfl, bb7⟩
            refine ⟨_, rfl, ?_⟩
            have h7 := hHeld.1.trans (bb7.mono hHeld.1.size)
            have HC7 := Lib.hid bb7
            have HZ7 := Lib.hid h7
            clear bb7
            refine hK.out _ _ ⟨h7, pw_cell_below (h7) QY.out⟩ (fun hHeld => ?_)
            clear hK K
            refine norm_ (a' := ?_) ?_ ?_
            rotate_left
            · show Act.put _ (some 41) _ = _
              simp only [Act.put, List.setIfInBounds_toArray, List.set_cons_zero, List.set_cons_succ, i64_w, i32_w]
              rfl
            refine two_ (i := 4) (j := 8) (Ni := some 38) (Nj := some 42) #[true, true, true, true, true, true, true, true, false, false, false, false, false, false] #[true, true, true, true, false, true, true, true, true, false, false, false, false, false] rfl rfl rfl rfl (by kernel_rfl) (by decide) (by decide) (fun K hK => ?_) (fun K hK => ?_)
            · skip
              refine value_ (w1 := ?_) (v := ?_) (by rfl) rfl ?_ ?_
              rotate_left 2
              · go_simp
                constructor
                · rfl
                · rfl
              refine hK.out _ _ ⟨hHeld.1.alloc hHeld.1.size _, pw_cell_below (hHeld.1.alloc hHeld.1.size _) QY.out⟩ (fun hHeld => ?_)
              clear hK K
              refine norm_ (a' := ?_) ?_ ?_
              rotate_left
              · show Act.put _ (some 38) _ = _
                simp only [Act.put, List.setIfInBounds_toArray, List.set_cons_zero, List.set_cons_succ, i64_w, i32_w]
                rfl
              refine one_ (i := 8) (N := some 42) #[true, true, true, true, true, true, true, true, true, false, false, false, false, false] rfl rfl (by kernel_rfl) (by decide) (fun K hK => ?_)
              refine value_ (w1 := ?_) (v := ?_) (by rfl) rfl ?_ ?_
              rotate_left 2
              · go_simp
                constructor
                · rfl
                · rfl
              refine hK.out _ _ ⟨hHeld.1.alloc hHeld.1.size _, pw_cell_below (hHeld.1.alloc hHeld.1.size _) QY.out⟩ (fun hHeld => ?_)
              clear hK K
              refine norm_ (a' := ?_) ?_ ?_
              rotate_left
              · show Act.put _ (some 42) _ = _
                simp only [Act.put, List.setIfInBounds_toArray, List.set_cons_zero, List.set_cons_succ, i64_w, i32_w]
                rfl
              exact norm_ (by simp only [Go.Proofs.YtifbkojapfighaaW.PrintLast.putAll, Act.put, List.setIfInBounds_toArray, List.set_cons_zero, List.set_cons_succ]) (hCont (wd.heap.size, wd.heap.size + 1) _ ⟨hHeld.1, Kd.R_below (str_lit wd w.heap.size (Nat.le_trans HO.out.below.size HZ7.out.size) (fun _ => True) trivial (nameV kk)) (below_alloc (Below.refl _ _) _), (by have h := str_lit (wd.alloc (.cells #[.string (nameV kk)] 9)) w.heap.size (Nat.le_trans HO.out.below.size (Nat.le_trans HZ7.out.size (by simp))) (fun _ => True) trivial (nameV (kk - 1)); have hs : (wd.alloc (.cells #[.string (nameV kk)] 9)).heap.size = wd.heap.size + 1 := (by simp); rw [hs] at h; exact h)⟩)
            · skip
              refine value_ (w1 := ?_) (v := ?_) (by rfl) rfl ?_ ?_
              rotate_left 2
              · go_simp
                constructor
                · rfl
                · rfl
              refine hK.out _ _ ⟨hHeld.1.alloc hHeld.1.size _, pw_cell_below (hHeld.1.alloc hHeld.1.size _) QY.out⟩ (fun hHeld => ?_)
              clear hK K
              refine norm_ (a' := ?_) ?_ ?_
              rotate_left
              · show Act.put _ (some 42) _ = _
                simp only [Act.put, List.setIfInBounds_toArray, List.set_cons_zero, List.set_cons_succ, i64_w, i32_w]
                rfl
              refine one_ (i := 4) (N := some 38) #[true, true, true, true, true, true, true, true, true, false, false, false, false, false] rfl rfl (by kernel_rfl) (by decide) (fun K hK => ?_)
              refine value_ (w1 := ?_) (v := ?_) (by rfl) rfl ?_ ?_
              rotate_left 2
              · go_simp
                constructor
                · rfl
                · rfl
              refine hK.out _ _ ⟨hHeld.1.alloc hHeld.1.size _, pw_cell_below (hHeld.1.alloc hHeld.1.size _) QY.out⟩ (fun hHeld => ?_)
              clear hK K
              refine norm_ (a' := ?_) ?_ ?_
              rotate_left
              · show Act.put _ (some 38) _ = _
                simp only [Act.put, List.setIfInBounds_toArray, List.set_cons_zero, List.set_cons_succ, i64_w, i32_w]
                rfl
              exact norm_ (by simp only [Go.Proofs.YtifbkojapfighaaW.PrintLast.putAll, Act.put, List.setIfInBounds_toArray, List.set_cons_zero, List.set_cons_succ]) (hCont (wd.heap.size + 1, wd.heap.size) _ ⟨hHeld.1, (by have h := str_lit (wd.alloc (.cells #[.string (nameV (kk - 1))] 9)) w.heap.size (Nat.le_trans HO.out.below.size (Nat.le_trans HZ7.out.size (by simp))) (fun _ => True) trivial (nameV kk); have hs : (wd.alloc (.cells #[.string (nameV (kk - 1))] 9)).heap.size = wd.heap.size + 1 := (by simp); rw [hs] at h; exact h), Kd.R_below (str_lit wd w.heap.size (Nat.le_trans HO.out.below.size HZ7.out.size) (fun _ => True) trivial (nameV (kk - 1))) (below_alloc (Below.refl _ _) _)⟩)
        rintro ⟨b4, b8⟩ wx ⟨hF1, hF2, hF3⟩
        simp only at hF2 hF3
        have hHeld : Below wr.heap.size wr wx ∧ wx.cell? ⟨y, 0, none⟩ = some (.slice Av nv cv) := ⟨hF1, pw_cell_below (hF1) QY.out⟩
        have HR4 := Lib.hid hF2
        have HR8 := Lib.hid hF3
        have HZX := Lib.hid hF1
        clear hF1 hF2 hF3
        refine norm_ (a' := ?_) ?_ ?_
        rotate_left
        · simp only [Go.Proofs.YtifbkojapfighaaW.PrintLast.putAll, Act.put, List.setIfInBounds_toArray, List.set_cons_zero, List.set_cons_succ]
          rfl
        refine pure_ (i := 9) (N := some 43) (v := ?_) (a' := ?_) #[true, true, true, true, true, true, true, true, true, true, false, false, false, false] rfl rfl (by kernel_rfl) (fun _ _ _ h => h) (Or.inl ⟨by rfl, ?_⟩) ?_ ?_
        rotate_left
        · intro w'
          go_simp
          with_reducible rfl
        rotate_left
        · simp only [Act.put, List.setIfInBounds_toArray, List.set_cons_zero, List.set_cons_succ, i64_w, i32_w]
          rfl
        refine one_ (i := 10) (N := some 44) #[true, true, true, true, true, true, true, true, true, true, true, false, false, false] rfl rfl (by kernel_rfl) (by decide) (fun K hK => ?_)
        refine value_ (w1 := ?_) (v := ?_) (by rfl) rfl ?_ ?_
        rotate_left 2
        · go_simp
          constructor
          · rfl
          · rfl
        refine hK.out _ _ ⟨hHeld.1.alloc hHeld.1.size _, pw_cell_below (hHeld.1.alloc hHeld.1.size _) QY.out⟩ (fun hHeld => ?_)
        clear hK K
        refine norm_ (a' := ?_) ?_ ?_
        rotate_left
        · show Act.put _ (some 44) _ = _
          simp only [Act.put, List.setIfInBounds_toArray, List.set_cons_zero, List.set_cons_succ, i64_w, i32_w]
          rfl
        refine last_ (i := 11) (N := some 45) #[true, true, true, true, true, true, true, true, true, true, true, true, false, false] rfl rfl (by kernel_rfl) (by decide) (fun K hK => ?_)
        have HKz := Lib.hid (HO.out.moved HZX.out)
        have HEO : Hid (EdO w.heap.size (fun _ => True) wx (.slice (some ⟨b4, 0, none⟩) 1 1) (.slice none 0 0) (.slice (some ⟨b8, 0, none⟩) 1 1) (.slice none 0 0) (chainE n true (j - 1))) := by show EdO _ _ _ _ _ _ _ _; rw [HCE.out]; exact ⟨HR4.out, Kd.R_nil Kd.string _ _ _ _, HR8.out, Kd.R_nil Kd.string _ _ _ _⟩
        have hce := HCE.out
        have HEO2 : Hid (EdO w.heap.size (fun _ => True) wx (.slice (some ⟨b4, 0, none⟩) 1 1) (.slice none 0 0) (.slice (some ⟨b8, 0, none⟩) 1 1) (.slice none 0 0) ⟨[nameV kk], [], [nameV (kk - 1)], [], ⟨#[]⟩, ⟨#[]⟩⟩) := by show EdO _ _ _ _ _ _ _ _; rw [← hce]; exact HEO.out
        clear hce
        refine app_edge_step (w0 := w) rfl (.tmp 35) (.tmp 44) rfl (.slice Av nv cv) _ _ _ _ (chainEs n true (j - 1)) ⟨[nameV kk], [], [nameV (kk - 1)], [], ⟨#[]⟩, ⟨#[]⟩⟩ rfl rfl HKz.out.ed HKz.out.below HEO2.out (by rw [chainEs_len]; omega) ?_
        intro va wa ra _ ga
        rw [← HCE.out, ← HSN.out] at ra
        obtain ⟨Aa, ca, ea⟩ := Kd.R_slice ra
        have hva : ((chainEs n true j).map EdgeV.x).length = nv + 1 := by rw [List.length_map, chainEs_len]; exact HNV.out.symm
        rw [hva] at ea
        subst ea
        obtain ⟨e7, x7⟩ := HKz.out.edge ra ga
        have X7 := Lib.hid x7
        have fa := blk_frozen e7 0
        have ka := blk_cell e7 0
        clear ra ga hva e7 x7
        refine hK.out _ _ ?_
        clear hK K
        refine norm_ (a' := ?_) ?_ ?_
        rotate_left
        · show Act.put _ (some 45) _ = _
          simp only [Act.put, List.setIfInBounds_toArray, List.set_cons_zero, List.set_cons_succ, i64_w, i32_w]
          rfl
        refine pure_ (i := 12) (N := some 46) (v := ?_) (a' := ?_) #[true, true, true, true, true, true, true, true, true, true, true, true, true, false] rfl rfl (by kernel_rfl) (fun _ _ _ h => h) (Or.inl ⟨by rfl, ?_⟩) ?_ ?_
        rotate_left
        · intro w'
          go_simp
          with_reducible rfl
        rotate_left
        · simp only [Act.put, List.setIfInBounds_toArray, List.set_cons_zero, List.set_cons_succ, i64_w, i32_w]
          rfl
        refine last_ (i := 13) (N := none) #[true, true, true, true, true, true, true, true, true, true, true, true, true, true] rfl rfl (by kernel_rfl) (by decide) (fun K hK => ?_)
        refine skip_ (w1 := ?_) (by rfl) rfl ?_ ?_
        rotate_left
        · go_simp
          rfl
        refine hK.out _ _ ?_
        clear hK K
        refine done_ (by kernel_rfl) ?_
        clear hHeld fa ka QY HBD HR4 HR8 HZX HKz HEO HEO2 HKW
        generalize wa.setCell ⟨y, 0, none⟩ (.slice Aa (nv + 1) ca) = w8 at X7 ⊢
        go_wp2
        go_roundw
        case rel => exact ⟨j + 1, _, by omega, by omega, by go_num, X7.out⟩
        case measure => simp [intOf]; omega
    · have hjn : j - 1 = n := by omega
      have HN9 : Hid (Oo w wr y (.slice Av nv cv) (.slice none 0 0) (chainEs n t n) []) := by
        have h := HO.out
        rw [hjn] at h
        exact h
      have hnvn : nv = n := by have := HNV.out; omega
      clear HO hjn
      subst hnvn
      have hnn := hn30
      obtain ⟨w2, hw2⟩ : ∃ w2, w2 = wr := ⟨_, rfl⟩
      subst hw2
      have HO := HN9
      clear HN9 HNV hj1 hj2
      cases r with
      | true =>
        have HRG : Hid (ringEs nv t = chainEs nv t nv ++ [⟨[nameV 0], [], [], [nameV nv], ⟨#[]⟩, ⟨#[]⟩⟩]) := rfl
        go_upto_region 11 with (fail)
        clear l1
        have QY : Hid (w2.cell? ⟨y, 0, none⟩ = some (.slice Av nv cv)) := blk_cell HO.out.gx 0
        have HBD : Hid (Below w2.heap.size w2 w2.drew) := Below.drew (Below.refl _ _)
        refine start_ (n := 12) (S := fun w' => Below w2.heap.size w2 w' ∧ w'.cell? ⟨y, 0, none⟩ = some (.slice Av nv cv)) (ds := [9, 11]) #[false, false, false, false, false, false, false, false, false, false, false, false] (by kernel_rfl) rfl rfl ⟨HBD.out, QY.out⟩ (fun hHeld => ?_)
        refine pure_ (i := 0) (N := some 48) (v := ?_) (a' := ?_) #[true, false, false, false, false, false, false, false, false, false, false, false] rfl rfl (by kernel_rfl) (fun _ _ _ h => h) (Or.inl ⟨by rfl, ?_⟩) ?_ ?_
        rotate_left
        · intro w'
          go_simp
          with_reducible rfl
        rotate_left
        · simp only [Act.put, List.setIfInBounds_toArray, List.set_cons_zero, List.set_cons_succ, i64_w, i32_w]
          rfl
        refine pure_ (i := 4) (N := some 52) (v := ?_) (a' := ?_) #[true, false, false, false, true, false, false, false, false, false, false, false] rfl rfl (by kernel_rfl) (fun _ _ _ h => h) (Or.inl ⟨by rfl, ?_⟩) ?_ ?_
        rotate_left
        · intro w'
          go_simp
          with_reducible rfl
        rotate_left
        · simp only [Act.put, List.setIfInBounds_toArray, List.set_cons_zero, List.set_cons_succ, i64_w, i32_w]
          rfl
        refine take_ (i := 1) (N := some 49) (v := ?_) (a' := ?_) #[true, true, false, false, true, false, false, false, false, false, false, false] rfl rfl (by kernel_rfl) (fun _ _ _ h => h) (Or.inl ⟨by rfl, ?_⟩) hHeld ?_ ?_
        rotate_left
        · rintro w' ⟨s0, s1⟩
          go_simp
          with_reducible rfl
        rotate_left
        · simp only [Act.put, List.setIfInBounds_toArray, List.set_cons_zero, List.set_cons_succ, i64_w, i32_w]
          rfl
        refine one_ (i := 2) (N := some 50) #[true, true, true, false, true, false, false, false, false, false, false, false] rfl rfl (by kernel_rfl) (by decide) (fun K hK => ?_)
        refine goes_ Try.func23 (by kernel_rfl) rfl #[.int .i64 0] (by rfl) rfl rfl (by first | (simp only [List.map_toArray, List.map_cons, List.map_nil]; done) | (simp only [List.map_toArray, List.map_cons, List.map_nil]; rfl) | rfl) ?_
        with_reducible refine (name_at (0 : Int) 0 rfl (by omega) _).mono ?_
        rintro e wc ⟨rfl, bb2⟩
        refine ⟨_, rfl, ?_⟩
        have h2 := hHeld.1.trans (bb2.mono hHeld.1.size)
        have HC2 := Lib.hid bb2
        have HZ2 := Lib.hid h2
        clear bb2
        refine hK.out _ _ ⟨h2, pw_cell_below (h2) QY.out⟩ (fun hHeld => ?_)
        clear hK K
        refine norm_ (a' := ?_) ?_ ?_
        rotate_left
        · show Act.put _ (some 50) _ = _
          simp only [Act.put, List.setIfInBounds_toArray, List.set_cons_zero, List.set_cons_succ, i64_w, i32_w]
          rfl
        refine join_ (σ := Nat × Nat) 5 #[true, true, true, true, true, true, true, false, false, false, false, false] (fun s => [(51, .slice (some ⟨s.1, 0, none⟩) 1 1), (53, .string (nameV nv)), (54, .slice (some ⟨s.2, 0, none⟩) 1 1)]) (fun s w' => Below w2.heap.size w2 w' ∧ Kd.string.R 9 w' w.heap.size (fun _ => True) (.slice (some ⟨s.1, 0, none⟩) 1 1) [nameV 0] ∧ Kd.string.R 9 w' w.heap.size (fun _ => True) (.slice (some ⟨s.2, 0, none⟩) 1 1) [nameV nv]) ?_ ?_
        rotate_left
        · intro hCont
          refine two_ (i := 3) (j := 5) (Ni := some 51) (Nj := some 53) #[true, true, true, true, true, false, false, false, false, false, false, false] #[true, true, true, false, true, true, false, false, false, false, false, false] rfl rfl rfl rfl (by kernel_rfl) (by decide) (by decide) (fun K hK => ?_) (fun K hK => ?_)
          · skip
            refine value_ (w1 := ?_) (v := ?_) (by rfl) rfl ?_ ?_
            rotate_left 2
            · go_simp
              constructor
              · rfl
              · rfl
            refine hK.out _ _ ⟨hHeld.1.alloc hHeld.1.size _, pw_cell_below (hHeld.1.alloc hHeld.1.size _) QY.out⟩ (fun hHeld => ?_)
            clear hK K
            refine norm_ (a' := ?_) ?_ ?_
            rotate_left
            · show Act.put _ (some 51) _ = _
              simp only [Act.put, List.setIfInBounds_toArray, List.set_cons_zero, List.set_cons_succ, i64_w, i32_w]
              rfl
            refine one_ (i := 5) (N := some 53) #[true, true, true, true, true, true, false, false, false, false, false, false] rfl rfl (by kernel_rfl) (by decide) (fun K hK => ?_)
            refine goes_ Try.func23 (by kernel_rfl) rfl #[.int .i64 (nv : Int)] (by rfl) rfl rfl (by first | (simp only [List.map_toArray, List.map_cons, List.map_nil]; done) | (simp only [List.map_toArray, List.map_cons, List.map_nil]; rfl) | rfl) ?_
            with_reducible refine (name_at _ nv rfl (by omega) _).mono ?_
            rintro e wd ⟨rfl, bb5⟩
            refine ⟨_, rfl, ?_⟩
            have h5 := hHeld.1.trans (bb5.mono hHeld.1.size)
            have HC5 := Lib.hid bb5
            have HZ5 := Lib.hid h5
            clear bb5
            refine hK.out _ _ ⟨h5, pw_cell_below (h5) QY.out⟩ (fun hHeld => ?_)
            clear hK K
            refine norm_ (a' := ?_) ?_ ?_
            rotate_left
            · show Act.put _ (some 53) _ = _
              simp only [Act.put, List.setIfInBounds_toArray, List.set_cons_zero, List.set_cons_succ, i64_w, i32_w]
              rfl
            refine one_ (i := 6) (N := some 54) #[true, true, true, true, true, true, true, false, false, false, false, false] rfl rfl (by kernel_rfl) (by decide) (fun K hK => ?_)
            refine value_ (w1 := ?_) (v := ?_) (by rfl) rfl ?_ ?_
            rotate_left 2
            · go_simp
              constructor
              · rfl
              · rfl
            refine hK.out _ _ ⟨hHeld.1.alloc hHeld.1.size _, pw_cell_below (hHeld.1.alloc hHeld.1.size _) QY.out⟩ (fun hHeld => ?_)
            clear hK K
            refine norm_ (a' := ?_) ?_ ?_
            rotate_left
            · show Act.put _ (some 54) _ = _
              simp only [Act.put, List.setIfInBounds_toArray, List.set_cons_zero, List.set_cons_succ, i64_w, i32_w]
              rfl
            exact norm_ (by simp only [Go.Proofs.YtifbkojapfighaaW.PrintLast.putAll, Act.put, List.setIfInBounds_toArray, List.set_cons_zero, List.set_cons_succ]) (hCont (wc.heap.size, wd.heap.size) _ ⟨hHeld.1, Kd.R_below (Kd.R_below (str_lit wc w.heap.size (Nat.le_trans HO.out.below.size HZ2.out.size) (fun _ => True) trivial (nameV 0)) HC5.out) (below_alloc (Below.refl _ _) _), str_lit wd w.heap.size (Nat.le_trans HO.out.below.size HZ5.out.size) (fun _ => True) trivial (nameV nv)⟩)
          · skip
            refine goes_ Try.func23 (by kernel_rfl) rfl #[.int .i64 (nv : Int)] (by rfl) rfl rfl (by first | (simp only [List.map_toArray, List.map_cons, List.map_nil]; done) | (simp only [List.map_toArray, List.map_cons, List.map_nil]; rfl) | rfl) ?_
            with_reducible refine (name_at _ nv rfl (by omega) _).mono ?_
            rintro e wd ⟨rfl, bb5⟩
            refine ⟨_, rfl, ?_⟩
            have h5 := hHeld.1.trans (bb5.mono hHeld.1.size)
            have HC5 := Lib.hid bb5
            have HZ5 := Lib.hid h5
            clear bb5
            refine hK.out _ _ ⟨h5, pw_cell_below (h5) QY.out⟩ (fun hHeld => ?_)
            clear hK K
            refine norm_ (a' := ?_) ?_ ?_
            rotate_left
            · show Act.put _ (some 53) _ = _
              simp only [Act.put, List.setIfInBounds_toArray, List.set_cons_zero, List.set_cons_succ, i64_w, i32_w]
              rfl
            refine two_ (i := 3) (j := 6) (Ni := some 51) (Nj := some 54) #[true, true, true, true, true, true, false, false, false, false, false, false] #[true, true, true, false, true, true, true, false, false, false, false, false] rfl rfl rfl rfl (by kernel_rfl) (by decide) (by decide) (fun K hK => ?_) (fun K hK => ?_)
            · skip
              refine value_ (w1 := ?_) (v := ?_) (by rfl) rfl ?_ ?_
              rotate_left 2
              · go_simp
                constructor
                · rfl
                · rfl
              refine hK.out _ _ ⟨hHeld.1.alloc hHeld.1.size _, pw_cell_below (hHeld.1.alloc hHeld.1.size _) QY.out⟩ (fun hHeld => ?_)
              clear hK K
              refine norm_ (a' := ?_) ?_ ?_
              rotate_left
              · show Act.put _ (some 51) _ = _
                simp only [Act.put, List.setIfInBounds_toArray, List.set_cons_zero, List.set_cons_succ, i64_w, i32_w]
                rfl
              refine one_ (i := 6) (N := some 54) #[true, true, true, true, true, true, true, false, false, false, false, false] rfl rfl (by kernel_rfl) (by decide) (fun K hK => ?_)
              refine value_ (w1 := ?_) (v := ?_) (by rfl) rfl ?_ ?_
              rotate_left 2
              · go_simp
                constructor
                · rfl
                · rfl
              refine hK.out _ _ ⟨hHeld.1.alloc hHeld.1.size _, pw_cell_below (hHeld.1.alloc hHeld.1.size _) QY.out⟩ (fun hHeld => ?_)
              clear hK K
              refine norm_ (a' := ?_) ?_ ?_
              rotate_left
              · show Act.put _ (some 54) _ = _
                simp only [Act.put, List.setIfInBounds_toArray, List.set_cons_zero, List.set_cons_succ, i64_w, i32_w]
                rfl
              exact norm_ (by simp only [Go.Proofs.YtifbkojapfighaaW.PrintLast.putAll, Act.put, List.setIfInBounds_toArray, List.set_cons_zero, List.set_cons_succ]) (hCont (wd.heap.size, wd.heap.size + 1) _ ⟨hHeld.1, Kd.R_below (str_lit wd w.heap.size (Nat.le_trans HO.out.below.size HZ5.out.size) (fun _ => True) trivial (nameV 0)) (below_alloc (Below.refl _ _) _), (by have h := str_lit (wd.alloc (.cells #[.string (nameV 0)] 9)) w.heap.size (Nat.le_trans HO.out.below.size (Nat.le_trans HZ5.out.size (by simp))) (fun _ => True) trivial (nameV nv); have hs : (wd.alloc (.cells #[.string (nameV 0)] 9)).heap.size = wd.heap.size + 1 := (by simp); rw [hs] at h; exact h)⟩)
            · skip
              refine value_ (w1 := ?_) (v := ?_) (by rfl) rfl ?_ ?_
              rotate_left 2
              · go_simp
                constructor
                · rfl
                · rfl
              refine hK.out _ _ ⟨hHeld.1.alloc hHeld.1.size _, pw_cell_below (hHeld.1.alloc hHeld.1.size _) QY.out⟩ (fun hHeld => ?_)
              clear hK K
              refine norm_ (a' := ?_) ?_ ?_
              rotate_left
              · show Act.put _ (some 54) _ = _
                simp only [Act.put, List.setIfInBounds_toArray, List.set_cons_zero, List.set_cons_succ, i64_w, i32_w]
                rfl
              refine one_ (i := 3) (N := some 51) #[true, true, true, true, true, true, true, false, false, false, false, false] rfl rfl (by kernel_rfl) (by decide) (fun K hK => ?_)
              refine value_ (w1 := ?_) (v := ?_) (by rfl) rfl ?_ ?_
              rotate_left 2
              · go_simp
                constructor
                · rfl
                · rfl
              refine hK.out _ _ ⟨hHeld.1.alloc hHeld.1.size _, pw_cell_below (hHeld.1.alloc hHeld.1.size _) QY.out⟩ (fun hHeld => ?_)
              clear hK K
              refine norm_ (a' := ?_) ?_ ?_
              rotate_left
              · show Act.put _ (some 51) _ = _
                simp only [Act.put, List.setIfInBounds_toArray, List.set_cons_zero, List.set_cons_succ, i64_w, i32_w]
                rfl
              exact norm_ (by simp only [Go.Proofs.YtifbkojapfighaaW.PrintLast.putAll, Act.put, List.setIfInBounds_toArray, List.set_cons_zero, List.set_cons_succ]) (hCont (wd.heap.size + 1, wd.heap.size) _ ⟨hHeld.1, (by have h := str_lit (wd.alloc (.cells #[.string (nameV nv)] 9)) w.heap.size (Nat.le_trans HO.out.below.size (Nat.le_trans HZ5.out.size (by simp))) (fun _ => True) trivial (nameV 0); have hs : (wd.alloc (.cells #[.string (nameV nv)] 9)).heap.size = wd.heap.size + 1 := (by simp); rw [hs] at h; exact h), Kd.R_below (str_lit wd w.heap.size (Nat.le_trans HO.out.below.size HZ5.out.size) (fun _ => True) trivial (nameV nv)) (below_alloc (Below.refl _ _) _)⟩)
        rintro ⟨b4, b8⟩ wx ⟨hF1, hF2, hF3⟩
        simp only at hF2 hF3
        have hHeld : Below w2.heap.size w2 wx ∧ wx.cell? ⟨y, 0, none⟩ = some (.slice Av nv cv) := ⟨hF1, pw_cell_below (hF1) QY.out⟩
        have HR4 := Lib.hid hF2
        have HR8 := Lib.hid hF3
        have HZX := Lib.hid hF1
        clear hF1 hF2 hF3
        refine norm_ (a' := ?_) ?_ ?_
        rotate_left
        · simp only [Go.Proofs.YtifbkojapfighaaW.PrintLast.putAll, Act.put, List.setIfInBounds_toArray, List.set_cons_zero, List.set_cons_succ]
          rfl
        refine pure_ (i := 7) (N := some 55) (v := ?_) (a' := ?_) #[true, true, true, true, true, true, true, true, false, false, false, false] rfl rfl (by kernel_rfl) (fun _ _ _ h => h) (Or.inl ⟨by rfl, ?_⟩) ?_ ?_
        rotate_left
        · intro w'
          go_simp
          with_reducible rfl
        rotate_left
        · simp only [Act.put, List.setIfInBounds_toArray, List.set_cons_zero, List.set_cons_succ, i64_w, i32_w]
          rfl
        refine one_ (i := 8) (N := some 56) #[true, true, true, true, true, true, true, true, true, false, false, false] rfl rfl (by kernel_rfl) (by decide) (fun K hK => ?_)
        refine value_ (w1 := ?_) (v := ?_) (by rfl) rfl ?_ ?_
        rotate_left 2
        · go_simp
          constructor
          · rfl
          · rfl
        refine hK.out _ _ ⟨hHeld.1.alloc hHeld.1.size _, pw_cell_below (hHeld.1.alloc hHeld.1.size _) QY.out⟩ (fun hHeld => ?_)
        clear hK K
        refine norm_ (a' := ?_) ?_ ?_
        rotate_left
        · show Act.put _ (some 56) _ = _
          simp only [Act.put, List.setIfInBounds_toArray, List.set_cons_zero, List.set_cons_succ, i64_w, i32_w]
          rfl
        refine last_ (i := 9) (N := some 57) #[true, true, true, true, true, true, true, true, true, true, false, false] rfl rfl (by kernel_rfl) (by decide) (fun K hK => ?_)
        have HKz := Lib.hid (HO.out.moved HZX.out)
        have HEO : Hid (EdO w.heap.size (fun _ => True) wx (.slice (some ⟨b4, 0, none⟩) 1 1) (.slice none 0 0) (.slice none 0 0) (.slice (some ⟨b8, 0, none⟩) 1 1) ⟨[nameV 0], [], [], [nameV nv], ⟨#[]⟩, ⟨#[]⟩⟩) := ⟨HR4.out, Kd.R_nil Kd.string _ _ _ _, Kd.R_nil Kd.string _ _ _ _, HR8.out⟩
        refine app_edge_step (w0 := w) rfl (.tmp 49) (.tmp 56) rfl (.slice Av nv cv) _ _ _ _ (chainEs nv t nv) ⟨[nameV 0], [], [], [nameV nv], ⟨#[]⟩, ⟨#[]⟩⟩ rfl rfl HKz.out.ed HKz.out.below HEO.out (by rw [chainEs_len]; omega) ?_
        intro va wa ra _ ga
        rw [← HRG.out] at ra
        obtain ⟨Aa, ca, ea⟩ := Kd.R_slice ra
        have hva : ((ringEs nv t).map EdgeV.x).length = nv + 1 := by rw [List.length_map]; unfold ringEs; rw [List.length_append, chainEs_len]; rfl
        rw [hva] at ea
        subst ea
        obtain ⟨e7, x7⟩ := HKz.out.edge ra ga
        have X7 := Lib.hid x7
        have fa := blk_frozen e7 0
        have ka := blk_cell e7 0
        clear ra ga hva e7 x7
        refine hK.out _ _ ?_
        clear hK K
        refine norm_ (a' := ?_) ?_ ?_
        rotate_left
        · show Act.put _ (some 57) _ = _
          simp only [Act.put, List.setIfInBounds_toArray, List.set_cons_zero, List.set_cons_succ, i64_w, i32_w]
          rfl
        refine pure_ (i := 10) (N := some 58) (v := ?_) (a' := ?_) #[true, true, true, true, true, true, true, true, true, true, true, false] rfl rfl (by kernel_rfl) (fun _ _ _ h => h) (Or.inl ⟨by rfl, ?_⟩) ?_ ?_
        rotate_left
        · intro w'
          go_simp
          with_reducible rfl
        rotate_left
        · simp only [Act.put, List.setIfInBounds_toArray, List.set_cons_zero, List.set_cons_succ, i64_w, i32_w]
          rfl
        refine last_ (i := 11) (N := none) #[true, true, true, true, true, true, true, true, true, true, true, true] rfl rfl (by kernel_rfl) (by decide) (fun K hK => ?_)
        refine skip_ (w1 := ?_) (by rfl) rfl ?_ ?_
        rotate_left
        · go_simp
          rfl
        refine hK.out _ _ ?_
        clear hK K
        refine done_ (by kernel_rfl) ?_
        clear hHeld fa ka QY HBD HR4 HR8 HZX HKz HEO
        generalize wa.setCell ⟨y, 0, none⟩ (.slice Aa (nv + 1) ca) = w8 at X7 ⊢
        have q0 := (show w8.cell? ⟨y, 0, none⟩ = some (.slice Aa (nv + 1) ca) from blk_cell X7.out.gx 0)
        have q1 := (show w8.cell? ⟨y, 1, none⟩ = some (.slice none 0 0) from blk_cell X7.out.gx 1)
        have HE8 : Hid (Ez w8 (.slice Aa (nv + 1) ca) (ringEs nv t)) := ez_of_R X7.out.ed
        have HB8 : Hid (Below w.heap.size w w8) := X7.out.below
        go_wp2_with fail
        refine (new_any _ ⟨ringEs nv t, []⟩ _ _ _ rfl HE8.out (ss_nil _) (ring_small hnn t).toSmallM).mono ?_
        rintro e w9 ⟨hres, b9⟩
        have HB9 := Lib.hid (HB8.out.trans (b9.mono HB8.out.size))
        clear b9 q0 q1
        rcases hres with ⟨rfl, hbad⟩ | ⟨rfl, hnd4, hbad⟩ | ⟨g, rfl, hnd4, hno, hgx⟩
        · exact absurd (ring_nodup hnn t) hbad
        · clear hnd4 hbad
          go_wp2_with fail
          refine (awake_any _).mono ?_
          rintro e w10 ⟨rfl, b10⟩
          have HB10 := Lib.hid (HB9.out.trans (b10.mono HB9.out.size))
          clear b10
          go_wp2
          go_ret
          exact ⟨rfl, HB10.out⟩
        · exact absurd (ring_cycle hn1 hnn t) hno
      | false =>
        have q0 := (show w2.cell? ⟨y, 0, none⟩ = some (.slice Av nv cv) from blk_cell HO.out.gx 0)
        have q1 := (show w2.cell? ⟨y, 1, none⟩ = some (.slice none 0 0) from blk_cell HO.out.gx 1)
        have HE8 : Hid (Ez w2 (.slice Av nv cv) (chainEs nv t nv)) := ez_of_R HO.out.ed
        have HB8 : Hid (Below w.heap.size w w2) := HO.out.below
        have HSG := Lib.hid (chain_small hnn t)
        go_wp2_with fail
        refine (new_any _ ⟨chainEs nv t nv, []⟩ _ _ _ rfl HE8.out (ss_nil _) HSG.out.toSmallM).mono ?_
        rintro e w9 ⟨hres, b9⟩
        have HB9 := Lib.hid (HB8.out.trans (b9.mono HB8.out.size))
        clear b9 q0 q1
        rcases hres with ⟨rfl, hbad⟩ | ⟨rfl, hnd4, hbad⟩ | ⟨g, rfl, hnd4, hno, hgx⟩
        · exact absurd (outs_nodup hnn t) hbad
        · exact absurd hbad (chain_whole hnn t)
        have HG : Hid (Gx w9 g ⟨chainEs nv t nv, []⟩) := hgx
        clear hnd4 hno hgx
        go_wp2_with fail
        refine (name_any nv hnn _).mono ?_
        rintro e w10 ⟨rfl, b10⟩
        have HB10 := Lib.hid (HB9.out.trans (b10.mono HB9.out.size))
        have HG10 := Lib.hid (HG.out.below b10)
        obtain ⟨z, hz⟩ : ∃ z, w10.heap.size = z := ⟨_, rfl⟩
        obtain ⟨w11, hw11⟩ : ∃ w11, w11 = w10.alloc (.cells #[.string (nameV nv)] 9) := ⟨_, rfl⟩
        have hb11 : Below w10.heap.size w10 w11 := by rw [hw11]; exact below_alloc (Below.refl _ _) _
        have hz11 : w11.heap[z]? = some (.cells #[.string (nameV nv)] 9 (0, 0)) := by rw [hw11, ← hz]; exact blk_new w10 _
        have HT := Lib.hid (str_at hz11)
        have HB11 := Lib.hid (HB10.out.trans (hb11.mono HB10.out.size))
        have HG11 := Lib.hid (HG10.out.below hb11)
        have HW11 := Lib.hid hw11
        clear b10 hb11 hz11 hw11 HG HG10
        go_wp2_with fail
        rw [← HW11.out]
        try rw [hz]
        clear hz
        refine (plan_any g ⟨chainEs nv t nv, []⟩ _ [nameV nv] _ HG11.out HSG.out HT.out (fun s hs => by rw [List.mem_singleton.1 hs, nameV_size]; simp only [maxLen]; omega) (by simp)).mono ?_
        rintro e w12 ⟨hres, b12⟩
        have HB12 := Lib.hid (HB11.out.trans (b12.mono HB11.out.size))
        have HG12 := Lib.hid (HG11.out.below b12)
        clear b12
        rcases hres with ⟨rfl, hno⟩ | ⟨v5, l5, rfl, _, hl5, r5⟩
        · exact absurd (fun s hs => by rw [List.mem_singleton.1 hs]; exact .inr (by rw [chain_maker hnn hn1 (Nat.le_refl nv)]; rfl)) hno
        rw [chain_reach hn1 hnn hl5, chain_order hnn] at r5
        obtain ⟨o, ho⟩ : ∃ o, o = (if t = true then (List.range nv).reverse else List.range nv) := ⟨_, rfl⟩
        rw [← ho] at r5
        have hol : o.length = nv := by rw [ho]; cases t <;> simp
        have HOG : Hid (∀ k, k < nv → o.getD k 0 = if t = true then nv - 1 - k else k) := fun k hk => by
          rw [ho, List.getD_eq_getElem?_getD]
          cases t with
          | false => simp [hk]
          | true => simp [hk, List.getElem?_reverse]
        have HIS := Lib.hid (Ir.is r5)
        obtain ⟨A5, c5, e5⟩ := Kd.R_slice r5
        rw [List.length_map, hol] at e5
        subst e5
        have HOL := Lib.hid hol
        have c1 : ((nv : Int) != (nv : Int)) = false := bne_self_eq_false _
        clear r5 ho hl5 hol
        go_wp2
        clear c1
        --S2
        go_loopw [17] (fun i wr => ∃ k : Nat, k ≤ nv ∧ i = .int .i64 k ∧ wr = w12) (fun i _ => nv - (intOf i).toNat)
        case atStart => exact ⟨0, by omega, rfl, rfl⟩
        case round =>
          obtain ⟨k, hk, rfl, hwr⟩ := hrel
          have hwr := hwr.symm
          subst hwr
          by_cases l2 : k < nv
          · obtain ⟨ad, e1, q⟩ := HIS.out.get k (by rw [HOL.out]; exact l2)
            subst e1
            rw [HOG.out k l2] at q
            have c1 : ((k : Int) != (k : Int)) = false := bne_self_eq_false _
            cases t with
            | false =>
              rw [if_neg (by simp)] at q
              go_wp2
              clear q c1
              go_roundw
              case rel => exact ⟨k + 1, by omega, by first | rfl | (simp; done) | skip⟩
              case measure => first | (simp [intOf]; done) | (simp [intOf]; omega)
            | true =>
              rw [if_pos rfl] at q
              have e2 : (((nv - 1 - k : Nat)) : Int) = (nv : Int) - 1 - (k : Int) := by omega
              rw [e2] at q
              have c2 : ((nv : Int) - 1 - (k : Int) != (nv : Int) - 1 - (k : Int)) = false := bne_self_eq_false _
              clear e2
              go_wp2
              clear q c1 c2
              go_roundw
              case rel => exact ⟨k + 1, by omega, by first | rfl | (simp; done) | skip⟩
              case measure => first | (simp [intOf]; done) | (simp [intOf]; omega)
          · go_wp2_with fail
            refine (sources_any g ⟨chainEs nv t nv, []⟩ _ HG12.out HSG.out).mono ?_
            rintro e w13 ⟨v13, rfl, r13, b13⟩
            obtain ⟨A13, c13, e13⟩ := Kd.R_slice r13
            rw [chain_sources hn1 hnn t] at e13
            subst e13
            have HB13 := Lib.hid (HB12.out.trans (b13.mono HB12.out.size))
            have HG13 := Lib.hid (HG12.out.below b13)
            clear r13 b13
            go_wp2_with fail
            refine (targets_any g ⟨chainEs nv t nv, []⟩ _ HG13.out HSG.out).mono ?_
            rintro e w14 ⟨⟨v14, rfl, r14⟩, b14⟩
            obtain ⟨A14, c14, e14, _, _⟩ := ss_len r14
            have htl : (targetsV ⟨chainEs nv t nv, []⟩).length = 1 := by
              have h : targetsV ⟨chainEs nv t nv, []⟩ = targF (chainEs nv t nv) (allOuts (chainEs nv t nv)) := if_pos rfl
              rw [h]
              exact chain_targets hn1 hnn t
            rw [htl] at e14
            subst e14
            have HB14 := Lib.hid (HB13.out.trans (b14.mono HB13.out.size))
            clear r14 b14 htl
            go_wp2_with fail
            refine (awake_any _).mono ?_
            rintro e w15 ⟨rfl, b15⟩
            have HB15 := Lib.hid (HB14.out.trans (b15.mono HB14.out.size))
            clear b15
            go_wp2
            go_ret
            exact ⟨rfl, HB15.out⟩
theorem chain_row (a : Int) (t r : Bool) (w : World) (ha : (Lit.int .u8 a).wf = true) :
    Calls Try.prog 7 #[.int .u8 a, .bool t, .bool r] w fun e w' => e = .returned (.bool true) ∧ Below w.heap.size w w' := by
  obtain ⟨k, rfl, hk⟩ := u8_nat ha
  exact chain_any k t r w hk
end Go.Proofs.Ytifbkojapfighaa.Gr
