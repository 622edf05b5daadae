/- disk.SyncDir (walks); Appending to a file's bytes in memory; the clock's tick at the block; disk.Append (walks); disk.Read, Stat (walks). -/
import Derived.Test.YtononoakdebjeaaGreatDoorDkCut
import Derived.Test.YtononoakdebjeaaGreatDoorDkLay
import Derived.Maps.AppendAt
import Derived.ArgAppend
namespace Go.Proofs.YtononoakdebjeaaGreatDoor.Dk
open Go.RowKit Go.Proofs.YtononoakdebjeaaGreatDoorW.PrintWords Go.Proofs.YtononoakdebjeaaGreatDoorW.PrintLast Go.Proofs.YtononoakdebjeaaGreatDoor.Base Go.Proofs.YtononoakdebjeaaGreatDoor.Path Go.Maps
set_option linter.unusedVariables false
set_option linter.unusedSimpArgs false
theorem clone_any (m : Nat) (L : Dir) (w : World) (h : DirAt w m L) : Calls Tryz.prog 39 #[.map (some m)] w fun e w' => e = .returned (.map (some w.heap.size)) ∧ DirAt w' w.heap.size L ∧ Below w.heap.size w w' := by
  obtain ⟨D0, hD, h2⟩ := h
  exact (AnyW.maps_Clone_owns Tryz.clone39 9 VH m L.length D0 w hD).mono (fun e w' k => ⟨k.1, ⟨D0, k.2.1, h2⟩, k.2.2.2⟩)
theorem ok_syncDir {c : Nat} {D : DiskV} (h : OkD c D) : OkD c { D with sure := D.dir, pend := [] } :=
  ⟨h.quota, h.clock1, h.clock, h.deeds, h.armed, h.dirUp, rfl, by show D.dir.length + 0 ≤ c; have := h.dirLen; omega, h.dirNames, (fun q hq => by cases hq), fun i hi => h.file i (by
    rcases hi with hi | hi | ⟨d, hd, _⟩
    · exact .inl hi
    · exact .inl hi
    · cases hd)⟩
/-- The directory is sure, in memory. -/
theorem Dk.sureDir {S : Nat → Prop} {c g m2 : Nat} {w w' : World} {D : DiskV} (h : Dk S c w g D) (hsz : w.heap.size ≤ w'.heap.size) (hk : ∀ k, k < w.heap.size → k ≠ g → w'.heap[k]? = w.heap[k]?) (h1 : w.heap.size ≤ m2) (h2 : m2 < w'.heap.size) (hd : DirAt w' m2 D.dir)
    (hc : ∀ mf ms vp, w.heap[g]? = some (.cells (dcells D mf ms vp) 80 (0, 0)) → w'.heap[g]? = some (.cells (dcells D mf m2 (.slice none 0 0)) 80 (0, 0))) : Dk (Sx S w w') c w' g { D with sure := D.dir, pend := [] } := by
  obtain ⟨lt, sg, ok, ⟨mf, ms, vp, q1, q2, q3, q4, q5, q6, q7⟩, ⟨dv, h8, h9⟩⟩ := h
  have hH : ∀ i, Has { D with sure := D.dir, pend := [] } i → Has D i := fun i hi => by
    rcases hi with hi | hi | ⟨d, hd, _⟩
    · exact .inl hi
    · exact .inl hi
    · cases hd
  have hty : ∀ {k : Nat} {cs : Array Value} {t : TypeId}, w.heap[k]? = some (.cells cs t (0, 0)) → t ≠ 80 → k ≠ g := fun hb ht e => by
    rw [e, q1] at hb
    injection hb with hb
    injection hb with _ hb _
    exact ht hb.symm
  refine ⟨fun k hk => hk.elim (fun h => Nat.lt_of_lt_of_le (lt k h) hsz) (·.2), .inl sg, ok_syncDir ok, ⟨mf, m2, .slice none 0 0, (hc mf ms vp q1).trans rfl, .inl q2, .inr ⟨h1, h2⟩, fun e => by have := lt mf q2; omega, q5.block (hk mf (lt mf q2) (VMap.ne q5 q1)), hd, Kd.R_nil _ _ _ _ _⟩, ⟨dv, fun i hi => ?_, fun i j k hi hj => h9 i j k (hH i hi) (hH j hj)⟩⟩
  obtain ⟨a, b, d⟩ := h8 i (hH i hi)
  exact ⟨.inl a, (hk i (lt i a) (hty b (by decide))).trans b, (d.keep (fun k cells hks hc => hk k (lt k hks) (hty hc (by decide)))).mono (fun k hk => .inl hk)⟩
set_option maxRecDepth 100000 in
set_option maxHeartbeats 4000000 in
theorem syncDir1_any (S : Nat → Prop) (c g x : Nat) (D : DiskV) (w : World) (h : Dk S (c + 1) w g D) (hc : c ≤ 40000000)
    (h0 : w.heap[x]? = some (.cells #[.pointer (some ⟨g, 0, none⟩)] 28 (0, 0))) :
    BodyC S c g D 38 #[.pointer (some ⟨x, 0, none⟩)] SyncDirR w := by
  obtain ⟨mf, ms, vp, h1, hmf, _, _, h5, _⟩ := h.ex
  have Q0 := Lib.hid (blk_cell h0 0)
  have Q5 := Lib.hid (show w.cell? ⟨g, 5, none⟩ = some (.map (some mf)) from blk_cell h1 5)
  have H := Lib.hid h
  have H1 := Lib.hid h1
  have HCL := Lib.hid (clone_any mf D.dir w.drew (h5.block rfl))
  have HXG : Hid (x ≠ g) := fun e => by
    rw [e, h1] at h0
    injection h0 with h0
    injection h0 with _ h0 _
    revert h0
    decide
  clear h h0 h1 h5 hmf
  unfold BodyC
  go_enter Tryz.func38, Tryz.ntmps38
  go_upto_region 1 with (fail)
  --S1
  refine start_ (n := 13) (S := fun w' => w'.cell? ⟨x, 0, none⟩ = some (.pointer (some ⟨g, 0, none⟩)) ∧ w'.cell? ⟨g, 5, none⟩ = some (.map (some mf))) (ds := [12]) #[false, false, false, false, false, false, false, false, false, false, false, false, false] (by kernel_rfl) rfl rfl ⟨Q0.out, Q5.out⟩ (fun hHeld => ?_)
  refine take_ (i := 0) (N := some 2) (v := ?_) (a' := ?_) #[true, false, false, false, false, false, false, false, false, false, false, false, false] rfl rfl (by kernel_rfl) (fun _ _ _ h => h) (Or.inl ⟨by rfl, ?_⟩) hHeld ?_ ?_
  rotate_left
  · rintro w' ⟨s0, s1⟩
    go_simp
    with_reducible rfl
  rotate_left
  · simp only [Act.put, List.setIfInBounds_toArray, List.set_cons_zero, List.set_cons_succ, i64_w, i32_w]
    rfl
  refine take_ (i := 1) (N := some 3) (v := ?_) (a' := ?_) #[true, true, false, false, false, false, false, false, false, false, false, false, false] rfl rfl (by kernel_rfl) (fun _ _ _ h => h) (Or.inl ⟨by rfl, ?_⟩) hHeld ?_ ?_
  rotate_left
  · rintro w' ⟨s0, s1⟩
    go_simp
    with_reducible rfl
  rotate_left
  · simp only [Act.put, List.setIfInBounds_toArray, List.set_cons_zero, List.set_cons_succ, i64_w, i32_w]
    rfl
  refine take_ (i := 2) (N := some 4) (v := ?_) (a' := ?_) #[true, true, true, false, false, false, false, false, false, false, false, false, false] rfl rfl (by kernel_rfl) (fun _ _ _ h => h) (Or.inl ⟨by rfl, ?_⟩) hHeld ?_ ?_
  rotate_left
  · rintro w' ⟨s0, s1⟩
    go_simp
    with_reducible rfl
  rotate_left
  · simp only [Act.put, List.setIfInBounds_toArray, List.set_cons_zero, List.set_cons_succ, i64_w, i32_w]
    rfl
  refine pure_ (i := 3) (N := some 5) (v := ?_) (a' := ?_) #[true, true, true, true, false, false, false, false, false, false, false, false, false] rfl rfl (by kernel_rfl) (fun _ _ _ h => h) (Or.inl ⟨by rfl, ?_⟩) ?_ ?_
  rotate_left
  · intro w'
    go_simp
    with_reducible rfl
  rotate_left
  · simp only [Act.put, List.setIfInBounds_toArray, List.set_cons_zero, List.set_cons_succ, i64_w, i32_w]
    rfl
  refine pure_ (i := 4) (N := some 6) (v := ?_) (a' := ?_) #[true, true, true, true, true, false, false, false, false, false, false, false, false] rfl rfl (by kernel_rfl) (fun _ _ _ h => h) (Or.inl ⟨by rfl, ?_⟩) ?_ ?_
  rotate_left
  · intro w'
    go_simp
    with_reducible rfl
  rotate_left
  · simp only [Act.put, List.setIfInBounds_toArray, List.set_cons_zero, List.set_cons_succ, i64_w, i32_w]
    rfl
  refine take_ (i := 5) (N := some 7) (v := ?_) (a' := ?_) #[true, true, true, true, true, true, false, false, false, false, false, false, false] rfl rfl (by kernel_rfl) (fun _ _ _ h => h) (Or.inl ⟨by rfl, ?_⟩) hHeld ?_ ?_
  rotate_left
  · rintro w' ⟨s0, s1⟩
    go_simp
    with_reducible rfl
  rotate_left
  · simp only [Act.put, List.setIfInBounds_toArray, List.set_cons_zero, List.set_cons_succ, i64_w, i32_w]
    rfl
  refine one_ (i := 6) (N := some 8) #[true, true, true, true, true, true, true, false, false, false, false, false, false] rfl rfl (by kernel_rfl) (by decide) (fun K hK => ?_)
  refine goes_ Tryz.func39 (by kernel_rfl) rfl #[.map (some mf)] (by rfl) rfl rfl (by first | (simp only [List.map_toArray, List.map_cons, List.map_nil]; done) | (simp only [List.map_toArray, List.map_cons, List.map_nil]; rfl) | rfl) ?_
  with_reducible refine (HCL.out).mono ?_
  rintro e w2 ⟨rfl, d2, b2⟩
  refine ⟨_, rfl, ?_⟩
  have HD2 := Lib.hid d2
  have HB2 := Lib.hid b2
  have e0 := (b2.block g (blk_lt H1.out)).trans H1.out
  have E0 := Lib.hid e0
  have t0 := pw_cell_below b2 Q0.out
  clear d2 b2
  refine hK.out _ _ ⟨t0, blk_cell e0 5⟩ (fun hHeld => ?_)
  clear hK K
  refine norm_ (a' := ?_) ?_ ?_
  rotate_left
  · show Act.put _ (some 8) _ = _
    simp only [Act.put, List.setIfInBounds_toArray, List.set_cons_zero, List.set_cons_succ, i64_w, i32_w]
    rfl
  refine pure_ (i := 7) (N := some 9) (v := ?_) (a' := ?_) #[true, true, true, true, true, true, true, true, false, false, false, false, false] rfl rfl (by kernel_rfl) (fun _ _ _ h => h) (Or.inl ⟨by rfl, ?_⟩) ?_ ?_
  rotate_left
  · intro w'
    go_simp
    with_reducible rfl
  rotate_left
  · simp only [Act.put, List.setIfInBounds_toArray, List.set_cons_zero, List.set_cons_succ, i64_w, i32_w]
    rfl
  refine pure_ (i := 8) (N := some 10) (v := ?_) (a' := ?_) #[true, true, true, true, true, true, true, true, true, false, false, false, false] rfl rfl (by kernel_rfl) (fun _ _ _ h => h) (Or.inl ⟨by rfl, ?_⟩) ?_ ?_
  rotate_left
  · intro w'
    go_simp
    with_reducible rfl
  rotate_left
  · simp only [Act.put, List.setIfInBounds_toArray, List.set_cons_zero, List.set_cons_succ, i64_w, i32_w]
    rfl
  refine one_ (i := 9) (N := none) #[true, true, true, true, true, true, true, true, true, true, false, false, false] rfl rfl (by kernel_rfl) (by decide) (fun K hK => ?_)
  have f0 := blk_frozen e0 6
  have m0 := blk_cell e0 6
  refine skip_ (w1 := ?_) (by rfl) rfl ?_ ?_
  rotate_left
  · go_simp
    rfl
  clear f0 m0
  have e4 := blk_set e0 6 (.map (some w.heap.size))
  refine hK.out _ _ ⟨(cell_far (p := ⟨g, 6, none⟩) t0 (by show x ≠ g; exact HXG.out) _), blk_cell e4 5⟩ (fun hHeld => ?_)
  clear hK K
  refine pure_ (i := 10) (N := some 11) (v := ?_) (a' := ?_) #[true, true, true, true, true, true, true, true, true, true, true, false, false] rfl rfl (by kernel_rfl) (fun _ _ _ h => h) (Or.inl ⟨by rfl, ?_⟩) ?_ ?_
  rotate_left
  · intro w'
    go_simp
    with_reducible rfl
  rotate_left
  · simp only [Act.put, List.setIfInBounds_toArray, List.set_cons_zero, List.set_cons_succ, i64_w, i32_w]
    rfl
  refine pure_ (i := 11) (N := some 12) (v := ?_) (a' := ?_) #[true, true, true, true, true, true, true, true, true, true, true, true, false] rfl rfl (by kernel_rfl) (fun _ _ _ h => h) (Or.inl ⟨by rfl, ?_⟩) ?_ ?_
  rotate_left
  · intro w'
    go_simp
    with_reducible rfl
  rotate_left
  · simp only [Act.put, List.setIfInBounds_toArray, List.set_cons_zero, List.set_cons_succ, i64_w, i32_w]
    rfl
  refine last_ (i := 12) (N := none) #[true, true, true, true, true, true, true, true, true, true, true, true, true] rfl rfl (by kernel_rfl) (by decide) (fun K hK => ?_)
  have f1 := blk_frozen e4 7
  have m1 := blk_cell e4 7
  refine skip_ (w1 := ?_) (by rfl) rfl ?_ ?_
  rotate_left
  · go_simp
    rfl
  clear f1 m1
  refine hK.out _ _ ?_
  clear hK K
  refine done_ (by kernel_rfl) ?_
  --S2
  go_wp2
  go_ret
  obtain ⟨w9, hw9⟩ : ∃ w9, w9 = (w2.setCell ⟨g, 6, none⟩ (.map (some w.heap.size))).setCell ⟨g, 7, none⟩ (.slice none 0 0) := ⟨_, rfl⟩
  rw [← hw9]
  have hb2 : Below w.heap.size w w2 := ⟨HB2.out.os, HB2.out.tape, HB2.out.output, HB2.out.size, HB2.out.block⟩
  have hz9 : w9.heap.size = w2.heap.size := by rw [hw9]; simp
  have hk9 : ∀ q, q ≠ g → w9.heap[q]? = w2.heap[q]? := fun q hq => by
    rw [hw9]
    exact (Below.heap_setCell _ _ _ _ hq).trans (Below.heap_setCell _ _ _ _ hq)
  have hgs : g < w.heap.size := blk_lt H1.out
  have hd9 : DirAt w9 w.heap.size D.dir := HD2.out.block (hk9 w.heap.size (by omega))
  have hft : Foot S w w9 := by
    refine (Foot.of_below hb2).trans ?_
    rw [hw9]
    exact ((Foot.refl S w2).setCell H.out.sg 6 _).setCell H.out.sg 7 _
  have hlt : w.heap.size < w9.heap.size := by rw [hz9]; exact VMap.lt HD2.out
  refine ⟨_, 0, rfl, (H.out.sureDir (w' := w9) (m2 := w.heap.size) hft.size (fun q hq hg => (hk9 q hg).trans (hb2.block q hq)) (Nat.le_refl _) hlt hd9 (fun mf ms vp hh => ?_)).more (by omega), ⟨rfl, rfl⟩, hft⟩
  have h1 := (hb2.block g hgs).trans hh
  rw [hw9]
  exact (blk_set (blk_set h1 6 _) 7 _).trans rfl
set_option maxHeartbeats 1000000 in
theorem syncDir_any (S : Nat → Prop) (c g : Nat) (D : DiskV) (w : World) (h : Dk S c w g D) (hc : c ≤ 40000000) :
    Calls Tryz.prog 13 #[.pointer (some ⟨g, 0, none⟩)] w (DeedP S c g D true SyncDirR w) := by
  obtain ⟨x, hx⟩ : ∃ x, w.heap.size = x := ⟨_, rfl⟩
  have H := Lib.hid h
  have hgx : g < x := by rw [← hx]; exact h.lt g h.sg
  have HX := Lib.hid hx
  clear h
  go_enter Tryz.func13, Tryz.ntmps13
  go_wp2_with fail
  obtain ⟨W, hW⟩ : ∃ W, W = w.alloc (.cells #[.pointer (some ⟨g, 0, none⟩)] 28) := ⟨_, rfl⟩
  rw [← hW]
  have g0 := alloc_at w (.cells #[.pointer (some ⟨g, 0, none⟩)] 28) hx
  have hb : Below w.heap.size w W := by rw [hW]; exact below_alloc (Below.refl _ _) _
  rw [← hW] at g0
  have G0 := Lib.hid g0
  have HB := Lib.hid hb
  clear hW g0 hb hx
  refine (deed_any S c g D 38 _ (.slice none 0 0) [] SyncDirR W (H.out.below HB.out) (fun W2 hf => ⟨none, 0, rfl, by simp, by simp, fun h => absurd h (Nat.lt_irrefl 0)⟩) (by simp) (fun r hr => by cases hr) (by omega) (enters_of Tryz.func38 (by kernel_rfl) rfl) (fun W2 hf hd => syncDir1_any S c g x (countV D) W2 hd hc (foot_blk hf G0.out (by omega)))).mono ?_
  rintro e w9 hp
  have HP := Lib.hid (deedP_from HB.out H.out.lt hp)
  obtain ⟨D', k, rfl, _⟩ := hp
  go_wp2
  go_ret
  exact HP.out
end Go.Proofs.YtononoakdebjeaaGreatDoor.Dk
namespace Go.Proofs.YtononoakdebjeaaGreatDoor.Dk
open Go.RowKit Go.Proofs.YtononoakdebjeaaGreatDoorW.PrintWords Go.Proofs.YtononoakdebjeaaGreatDoorW.PrintLast Go.Proofs.YtononoakdebjeaaGreatDoor.Base Go.Proofs.YtononoakdebjeaaGreatDoor.Path Go.Maps
set_option linter.unusedVariables false
set_option linter.unusedSimpArgs false
theorem tick_raw (g mf ms : Nat) (vp : Value) (D : DiskV) (w : World) (h1 : w.heap[g]? = some (.cells (dcells D mf ms vp) 80 (0, 0))) (hc : D.clock ≤ 1000000000) :
    Calls Tryz.prog 64 #[.pointer (some ⟨g, 0, none⟩)] w fun e w' => e = .returned (.int .i64 (D.clock : Int)) ∧ w' = w.setCell ⟨g, 1, none⟩ (.int .i64 ((D.clock : Int) + 1)) := by
  have q1 := (show w.cell? ⟨g, 1, none⟩ = some (.int .i64 (D.clock : Int)) from blk_cell h1 1)
  have q1' := (show (w.setCell ⟨g, 1, none⟩ (.int .i64 ((D.clock : Int) + 1))).cell? ⟨g, 1, none⟩ = some (.int .i64 ((D.clock : Int) + 1)) from blk_cell (blk_set h1 1 _) 1)
  have f1 := blk_frozen h1 1
  clear h1
  go_enter Tryz.func64, Tryz.ntmps64
  go_wp2
  go_ret
  exact ⟨rfl, rfl⟩
theorem tick_ok {c : Nat} {D : DiskV} (o : OkD c D) : OkD (c + 1) (tickV D) :=
  ⟨o.quota, by show 1 ≤ D.clock + 1; omega, by show D.clock + 1 ≤ c + 1; have := o.clock; omega, Nat.le_succ_of_le o.deeds, o.armed, o.up, o.dirE, Nat.le_succ_of_le o.few, o.names, o.chs, fun i hi => by
    obtain ⟨a, b, d, e⟩ := o.file i hi
    exact ⟨a, b, d, Nat.lt_succ_of_lt e⟩⟩
/-- append(v, u...) to a file's bytes. -/
theorem dat_append {S : Nat → Prop} {W : World} (t ty : TypeId) (ht : Tryz.prog.underlying t = some (.slice 5)) (v u : Value) (xs ys : List Int) (hS : ∀ k, S k → k < W.heap.size) (hd : Dat S W v xs) (HR : Bs W u ys) (hl : xs.length + ys.length ≤ 140737488355328) :
    ∃ v1 w1, (Builtin.append_ #[t, t] ty #[v, u]).run Tryz.prog W = .ok v1 w1 ∧ Dat (Sx S W w1) w1 v1 (xs ++ ys) ∧ W.grownBy w1 v.ownBlock ∧ (∀ k, dblk v1 = some k → dblk v = some k ∨ W.heap.size ≤ k) := by
  obtain ⟨A, c, rfl, hc, HR⟩ := HR
  obtain ⟨i0, hi, hzz⟩ := Option.map_eq_some_iff.1 info_u8
  simp only [Prod.mk.injEq] at hzz
  obtain ⟨hz0, hz1, hz2⟩ := hzz
  have hown : ∀ z : Value, z.ownBlock = dblk z := fun z => by
    cases z with
    | slice a n c => cases a <;> rfl
    | _ => rfl
  rcases A with _ | ad
  · have h0 : ys.length = 0 := by
      rcases Nat.eq_zero_or_pos ys.length with h0 | h0
      · exact h0
      · obtain ⟨ad, h, _⟩ := HR.2.2 h0
        cases h
    obtain rfl : ys = [] := List.eq_nil_of_length_eq_zero h0
    refine ⟨v, W, ?_, by rw [List.append_nil]; exact hd.mono (fun k hk => .inl hk), World.grownBy.refl W _, fun k hk => .inl hk⟩
    rcases hd with hd | ⟨k, cs, rfl, _, _, _, _⟩
    · rcases (Kd.own_of_R hd).2 with ⟨rfl, hn⟩ | ⟨g, cap, cur, rfl, _, _, hnc, _⟩
      · simp [Builtin.append_, run_underlying ht, sizeOf, typeInfo, hi, Builtin.lenOf, Builtin.firstCells]
      · simp [Builtin.append_, run_underlying ht, sizeOf, typeInfo, hi, Builtin.lenOf, Builtin.firstCells, hnc, storeCells]
    · simp [Builtin.append_, run_underlying ht, sizeOf, typeInfo, hi, Builtin.lenOf, Builtin.firstCells, storeCells]
  · have hcells : ∀ j u, (nums .u8 ys)[j]? = some u → W.cell? (ad.add j) = some u := by
      intro j u hu
      have hj : j < ys.length := by
        rcases Nat.lt_or_ge j ys.length with h | h
        · exact h
        · simp [nums, List.getElem?_eq_none h] at hu
      obtain ⟨ad', h', hc⟩ := HR.2.2 (by omega)
      obtain rfl : ad = ad' := Option.some.inj h'
      have := hc j (by omega)
      rw [nums, List.getElem?_map, List.getElem?_eq_getElem hj] at hu
      simp only [Option.map_some, Option.some.injEq] at hu
      subst hu
      rw [this]
      simp [List.getD_eq_getElem?_getD, List.getElem?_eq_getElem hj]
    have hone : ∀ u ∈ nums .u8 ys, u.oneCell' = true := by intro u hu; simp only [nums, List.mem_map] at hu; obtain ⟨q, _, rfl⟩ := hu; rfl
    rcases hd with hd | ⟨k, cs, rfl, hk, hkb, ht2, hm⟩
    · have hR0 := hd
      have ho := Kd.own_of_R hd
      obtain ⟨v1, w1, hr, h2, h3, _, h5⟩ := run_append_own_at (P := Tryz.prog) W 0 t ty 5 i0 (.int .u8 0) 1 1 ht hi hz0 hz1 hz2 rfl (by omega) v xs.length (nums .u8 xs) ho ad ys.length c (nums .u8 ys) (by simp [nums]) hcells hone (by simp only [maxLen]; omega) (by omega) (Nat.zero_le _)
      refine ⟨v1, w1, hr, .inl ?_, h3, fun q hq => ?_⟩
      · have h2' : w1.ownsRow 0 5 1 v1 (xs ++ ys).length (nums .u8 (xs ++ ys)) := by rw [List.length_append]; simpa [nums] using h2
        refine kd_int_R h2' (fun q hq => ?_)
        rcases h5 with h5 | h5
        · exact .inl (hR0.1 q (by rw [← h5]; exact hq))
        · refine .inr ⟨?_, own_lt h2 q hq⟩
          rw [h5] at hq
          rw [← Option.some.inj hq]
          exact Nat.le_refl _
      · rw [← hown] at hq
        rcases h5 with h5 | h5
        · exact .inl (by rw [← hown, ← h5]; exact hq)
        · rw [h5] at hq
          exact .inr (Nat.le_of_eq (Option.some.inj hq))
    · by_cases h0 : ys.length = 0
      · obtain rfl : ys = [] := List.eq_nil_of_length_eq_zero h0
        refine ⟨_, W, ?_, by rw [List.append_nil]; exact .inr ⟨k, cs, rfl, .inl hk, hkb, ht2, hm⟩, World.grownBy.refl W _, fun q hq => .inl hq⟩
        simp [Builtin.append_, run_underlying ht, sizeOf, typeInfo, hi, Builtin.lenOf, Builtin.firstCells, storeCells]
        simp [loadCells, loadCellsFrom, storeCells, Result.andThen]
      · have holds : ∀ j u, (nums .u8 xs)[j]? = some u → W.cell? ((⟨k, 0, none⟩ : Addr).add j) = some u := fun j u hu => by
          have hj : j < xs.length := by
            rcases Nat.lt_or_ge j xs.length with h | h
            · exact h
            · simp [nums, List.getElem?_eq_none h] at hu
          have e : (⟨k, 0, none⟩ : Addr).add j = ⟨k, j, none⟩ := by
            by_cases h0 : j = 0
            · subst h0; rfl
            · simp [Addr.add, h0]
          rw [e, blk_cell hkb j, ← hu, ← ht2, List.getElem?_take, if_pos hj, Array.getElem?_toList]
        obtain ⟨v1, w1, hr, h2, h3⟩ := run_append_arg_grows (P := Tryz.prog) W t ty 5 i0 (.int .u8 0) 1 1 ht hi hz0 hz1 hz2 rfl (by omega) ⟨k, 0, none⟩ xs.length xs.length (nums .u8 xs) (by simp [nums]) holds ad ys.length c (nums .u8 ys) (by simp [nums]) hcells (by omega) (by simp only [maxLen]; omega) (by omega)
        refine ⟨v1, w1, hr, .inl ?_, ?_, fun q hq => .inr (own_base h2 q (by rw [hown]; exact hq))⟩
        · have h2' : w1.ownsRow W.heap.size 5 1 v1 (xs ++ ys).length (nums .u8 (xs ++ ys)) := by rw [List.length_append]; simpa [nums] using h2
          exact kd_int_R (own_weaken h2' (Nat.zero_le _)) (fun q hq => .inr ⟨own_base h2 q hq, own_lt h2 q hq⟩)
        · exact ⟨h3.os, h3.tape, h3.output, h3.size, fun q hq _ => h3.block q hq (by simp)⟩
theorem app_dat_step {ops : Array Oper} {o : Oper} {a : Act} {Q : Exit → Act → World → Prop} {K : Act → World → Prop} {E : Prop} {S : Nat → Prop} {W : World} (hgd : o.guard = none) (s x : Operand) (t : TypeId)
    (ho : o.op = .call { callee := .builtin .append, args := #[s, x], argTypes := #[t, t] })
    (ht : Tryz.prog.underlying t = some (.slice 5))
    (v u : Value) (xs ys : List Int) (hs : a.eval s = v) (hx : a.eval x = u) (hS : ∀ k, S k → k < W.heap.size)
    (HO : Dat S W v xs) (HR : Bs W u ys) (hl : xs.length + ys.length ≤ 140737488355328)
    (h : ∀ v1 w1, Dat (Sx S W w1) w1 v1 (xs ++ ys) → W.grownBy w1 v.ownBlock → (∀ k, dblk v1 = some k → dblk v = some k ∨ W.heap.size ≤ k) → K (a.put o.dst v1) w1) :
    if Region.wanted o (yielded ops a.tmps) = true then Oper.wp Tryz.prog o a W K Q else E := by
  have hw : Region.wanted o (yielded ops a.tmps) = true := by simp [Region.wanted, hgd]
  rw [if_pos hw]
  obtain ⟨v1, w1, hr, h1, h2, h3⟩ := dat_append (S := S) t o.type ht v u xs ys hS HO HR hl
  unfold Oper.wp execOp
  simp only [ho, resolve, invoke, builtin, Sem.run_bind, Sem.run_pure, Result.andThen_ok, List.map_toArray, List.map_cons, List.map_nil, hs, hx, hr]
  exact h v1 w1 h1 h2 h3
end Go.Proofs.YtononoakdebjeaaGreatDoor.Dk
namespace Go.Proofs.YtononoakdebjeaaGreatDoor.Dk
open Go.RowKit Go.Proofs.YtononoakdebjeaaGreatDoorW.PrintWords Go.Proofs.YtononoakdebjeaaGreatDoorW.PrintLast Go.Proofs.YtononoakdebjeaaGreatDoor.Base Go.Proofs.YtononoakdebjeaaGreatDoor.Path Go.Maps
set_option linter.unusedVariables false
set_option linter.unusedSimpArgs false
set_option maxRecDepth 100000 in
set_option maxHeartbeats 4000000 in
theorem append1_any (S : Nat → Prop) (c g x : Nat) (D : DiskV) (s : ByteArray) (v : Value) (ys : List Int) (w : World) (h : Dk S (c + 1) w g D) (hs : s.size ≤ maxLen) (hv : BsO S w v ys) (hl : ys.length ≤ 1000000) (hc : c ≤ 40000000)
    (h0 : w.heap[x]? = some (.cells #[.pointer (some ⟨g, 0, none⟩)] 28 (0, 0))) (h1 : w.heap[x + 1]? = some (.cells #[.string s] 9 (0, 0))) (h2 : w.heap[x + 2]? = some (.cells #[v] 23 (0, 0))) :
    BodyC S c g D 70 #[.pointer (some ⟨x, 0, none⟩), .pointer (some ⟨x + 1, 0, none⟩), .pointer (some ⟨x + 2, 0, none⟩)] (AppendR s ys) w := by
  obtain ⟨mf, ms, vp, q1, _, _, _, q5, _⟩ := h.ex
  have hlk := fun m => (VMap.look (w := w.drewN m) (q5.block rfl) keyed_s Tryz.underlying76 (by kernel_rfl) (z := .pointer none) (s := s) (keyOf_s hs)).2
  obtain ⟨o, ho⟩ : ∃ o, o = look D.dir s := ⟨_, rfl⟩
  rw [← ho] at hlk
  have HO := Lib.hid ho
  obtain ⟨A, cp, rfl, hcp, hmx⟩ := hv.1.len
  obtain ⟨n, hn⟩ : ∃ n, n = ys.length := ⟨_, rfl⟩
  rw [← hn] at hv hcp hmx h2
  have hnl : n ≤ 1000000 := by omega
  have H := Lib.hid h
  have HV := Lib.hid hv
  have HN := Lib.hid hn
  have HS := Lib.hid hs
  have q5c := (show w.cell? ⟨g, 5, none⟩ = some (.map (some mf)) from blk_cell q1 5)
  have c0 := blk_cell h0 0
  have c1 := blk_cell h1 0
  have c2 := blk_cell h2 0
  have Q1 := Lib.hid q1
  have H0 := Lib.hid h0
  have H1 := Lib.hid h1
  have H2 := Lib.hid h2
  clear h hs hv hn hl q1 q5 h0 h1 h2 ho
  unfold BodyC
  cases o with
  | none =>
    simp only [Option.map_none, Option.getD_none] at hlk
    go_enter Tryz.func70, Tryz.ntmps70
    go_wp2
    go_quiet (fail)
    clear hlk
    go_wp2_with fail
    refine (fresh_any S (c + 1) g D s (.slice A n cp) ys (w.drewN nq) (H.out.drewN _) HS.out ⟨HV.out.1.drewN _, HV.out.2⟩ (by rw [← HN.out]; exact hnl) (by omega)).mono ?_
    rintro e w5 ⟨D', k, rfl, d5, r5, f5⟩
    have HD5 := Lib.hid d5
    have HR5 := Lib.hid r5
    have HF5 := Lib.hid f5
    clear d5 r5 f5
    go_wp2
    go_ret
    refine ⟨D', k, rfl, HD5.out, ?_, ⟨HF5.out.os, HF5.out.tape, HF5.out.output, HF5.out.size, HF5.out.block⟩⟩
    unfold AppendR
    rw [← HO.out]
    exact HR5.out
  | some i =>
    simp only [Option.map_some, Option.getD_some] at hlk
    have hi : Has D i := has_dir HO.out.symm
    obtain ⟨dv, hf⟩ := H.out.fl
    obtain ⟨i1, i2, i3⟩ := hf.1 i hi
    obtain ⟨B, bp, hd, hbp, hm⟩ := i3.bs.len
    obtain ⟨m, hme⟩ : ∃ m, m = (D.fs i).b.length := ⟨_, rfl⟩
    rw [← hme] at hd hbp hm
    obtain ⟨sr, hsr⟩ : ∃ sr, sr = (D.fs i).sure := ⟨_, rfl⟩
    obtain ⟨tm, htm⟩ : ∃ tm, tm = (D.fs i).time := ⟨_, rfl⟩
    have hml : m ≤ 65536 := by rw [hme]; exact (H.out.ok.file i hi).1
    have HD := Lib.hid hd
    rw [hd, ← hsr, ← htm] at i2
    rw [hd] at i3
    have I2 := Lib.hid i2
    have I3 := Lib.hid i3
    have I1 := Lib.hid i1
    have HF := Lib.hid hf
    have HI := Lib.hid hi
    have HM := Lib.hid hme
    have HSR := Lib.hid hsr
    have ty : ∀ {a b : Nat} {cs ds : Array Value} {t u : TypeId}, w.heap[a]? = some (.cells cs t (0, 0)) → w.heap[b]? = some (.cells ds u (0, 0)) → t ≠ u → a ≠ b := fun ha hb ht e => by
      subst e
      rw [ha] at hb
      injection hb with hb
      injection hb with _ hb _
      exact ht hb
    have HIG : Hid (i ≠ g) := ty I2.out Q1.out (by decide)
    have HXG : Hid (x ≠ g) := ty H0.out Q1.out (by decide)
    have HXI : Hid (x ≠ i ∧ x + 1 ≠ i ∧ x + 2 ≠ i) := ⟨ty H0.out I2.out (by decide), ty H1.out I2.out (by decide), ty H2.out I2.out (by decide)⟩
    have hrow : ∀ {k : Nat} {cs : Array Value} {t : TypeId}, w.heap[k]? = some (.cells cs t (0, 0)) → t ≠ 5 → (Value.slice B m bp).ownBlock ≠ some k := fun {k cs t} hk ht e => by
      obtain ⟨cells, hcl⟩ := dat_typed I3.out (k := k) (by cases B <;> exact e)
      exact ty hk hcl ht rfl
    have HROW : Hid ((Value.slice B m bp).ownBlock ≠ some i ∧ (Value.slice B m bp).ownBlock ≠ some g ∧ (Value.slice B m bp).ownBlock ≠ some x ∧ (Value.slice B m bp).ownBlock ≠ some (x + 1) ∧ (Value.slice B m bp).ownBlock ≠ some (x + 2)) :=
      ⟨hrow I2.out (by decide), hrow Q1.out (by decide), hrow H0.out (by decide), hrow H1.out (by decide), hrow H2.out (by decide)⟩
    have HWR : Hid (wrap64 ((m : Int) + (n : Int)) = ((m + n : Nat) : Int)) := by show _ = _; rw [IntWalk.wrap64_in _ (by omega)]; omega
    have hb1 : m + n ≤ 1000000000 := by omega
    have hb2 : c + 1 ≤ 1000000000 := by omega
    have HFT : Hid (∀ W, Below w.heap.size w W → Calls Tryz.prog 62 #[.pointer (some ⟨g, 0, none⟩), .string s, .int .i64 (wrap64 ((m : Int) + (n : Int)))] W fun e w' => e = .returned (.int .i64 (fitsV D s (m + n) : Int)) ∧ Below W.heap.size W w') := fun W hb => by
      rw [HWR.out]
      exact fits_any S (c + 1) g D s (m + n) W (H.out.below hb) HS.out hb1 hb2
    obtain ⟨q, hq⟩ : ∃ q, q = fitsV D s (m + n) := ⟨_, rfl⟩
    rw [← hq] at HFT
    have HQ := Lib.hid hq
    clear hi hf i1 i2 i3 hd hme hsr htm hq ty hrow hb1 hb2
    have Q0 := Lib.hid c0
    have Q2 := Lib.hid c1
    have Q3 := Lib.hid c2
    have Q4 := Lib.hid (show w.cell? ⟨i, 0, none⟩ = some (.slice B m bp) from blk_cell I2.out 0)
    go_enter Tryz.func70, Tryz.ntmps70
    go_wp2
    go_quiet (fail)
    clear hlk c0 c1 c2 q5c
    go_upto_region 4 with (fail)
    --S1
    refine start_ (n := 12) (S := fun w' => Below w.heap.size w w' ∧ w'.cell? ⟨x, 0, none⟩ = some (.pointer (some ⟨g, 0, none⟩)) ∧ w'.cell? ⟨x + 1, 0, none⟩ = some (.string s) ∧ w'.cell? ⟨x + 2, 0, none⟩ = some (.slice A n cp) ∧ w'.cell? ⟨i, 0, none⟩ = some (.slice B m bp)) (ds := []) #[false, false, false, false, false, false, false, false, false, false, false, false] (by kernel_rfl) rfl rfl ⟨Below.drew (pw_below_drewN (Below.refl _ _) _), Q0.out, Q2.out, Q3.out, Q4.out⟩ (fun hHeld => ?_)
    refine pure_ (i := 2) (N := some 20) (v := ?_) (a' := ?_) #[false, false, true, false, false, false, false, false, false, false, false, false] rfl rfl (by kernel_rfl) (fun _ _ _ h => h) (Or.inl ⟨by rfl, ?_⟩) ?_ ?_
    rotate_left
    · intro w'
      go_simp
      with_reducible rfl
    rotate_left
    · simp only [Act.put, List.setIfInBounds_toArray, List.set_cons_zero, List.set_cons_succ, i64_w, i32_w]
      rfl
    refine pure_ (i := 3) (N := some 21) (v := ?_) (a' := ?_) #[false, false, true, true, false, false, false, false, false, false, false, false] rfl rfl (by kernel_rfl) (fun _ _ _ h => h) (Or.inl ⟨by rfl, ?_⟩) ?_ ?_
    rotate_left
    · intro w'
      go_simp
      with_reducible rfl
    rotate_left
    · simp only [Act.put, List.setIfInBounds_toArray, List.set_cons_zero, List.set_cons_succ, i64_w, i32_w]
      rfl
    refine pure_ (i := 4) (N := some 22) (v := ?_) (a' := ?_) #[false, false, true, true, true, false, false, false, false, false, false, false] rfl rfl (by kernel_rfl) (fun _ _ _ h => h) (Or.inl ⟨by rfl, ?_⟩) ?_ ?_
    rotate_left
    · intro w'
      go_simp
      with_reducible rfl
    rotate_left
    · simp only [Act.put, List.setIfInBounds_toArray, List.set_cons_zero, List.set_cons_succ, i64_w, i32_w]
      rfl
    refine take_ (i := 0) (N := some 18) (v := ?_) (a' := ?_) #[true, false, true, true, true, false, false, false, false, false, false, false] rfl rfl (by kernel_rfl) (fun _ _ _ h => h) (Or.inl ⟨by rfl, ?_⟩) hHeld ?_ ?_
    rotate_left
    · rintro w' ⟨s0, s1, s2, s3, s4⟩
      go_simp
      with_reducible rfl
    rotate_left
    · simp only [Act.put, List.setIfInBounds_toArray, List.set_cons_zero, List.set_cons_succ, i64_w, i32_w]
      rfl
    refine take_ (i := 1) (N := some 19) (v := ?_) (a' := ?_) #[true, true, true, true, true, false, false, false, false, false, false, false] rfl rfl (by kernel_rfl) (fun _ _ _ h => h) (Or.inl ⟨by rfl, ?_⟩) hHeld ?_ ?_
    rotate_left
    · rintro w' ⟨s0, s1, s2, s3, s4⟩
      go_simp
      with_reducible rfl
    rotate_left
    · simp only [Act.put, List.setIfInBounds_toArray, List.set_cons_zero, List.set_cons_succ, i64_w, i32_w]
      rfl
    refine take_ (i := 5) (N := some 23) (v := ?_) (a' := ?_) #[true, true, true, true, true, true, false, false, false, false, false, false] rfl rfl (by kernel_rfl) (fun _ _ _ h => h) (Or.inl ⟨by rfl, ?_⟩) hHeld ?_ ?_
    rotate_left
    · rintro w' ⟨s0, s1, s2, s3, s4⟩
      go_simp
      with_reducible rfl
    rotate_left
    · simp only [Act.put, List.setIfInBounds_toArray, List.set_cons_zero, List.set_cons_succ, i64_w, i32_w]
      rfl
    refine pure_ (i := 6) (N := some 24) (v := ?_) (a' := ?_) #[true, true, true, true, true, true, true, false, false, false, false, false] rfl rfl (by kernel_rfl) (fun _ _ _ h => h) (Or.inl ⟨by rfl, ?_⟩) ?_ ?_
    rotate_left
    · intro w'
      go_simp
      with_reducible rfl
    rotate_left
    · simp only [Act.put, List.setIfInBounds_toArray, List.set_cons_zero, List.set_cons_succ, i64_w, i32_w]
      rfl
    refine take_ (i := 7) (N := some 25) (v := ?_) (a' := ?_) #[true, true, true, true, true, true, true, true, false, false, false, false] rfl rfl (by kernel_rfl) (fun _ _ _ h => h) (Or.inl ⟨by rfl, ?_⟩) hHeld ?_ ?_
    rotate_left
    · rintro w' ⟨s0, s1, s2, s3, s4⟩
      go_simp
      with_reducible rfl
    rotate_left
    · simp only [Act.put, List.setIfInBounds_toArray, List.set_cons_zero, List.set_cons_succ, i64_w, i32_w]
      rfl
    refine pure_ (i := 8) (N := some 26) (v := ?_) (a' := ?_) #[true, true, true, true, true, true, true, true, true, false, false, false] rfl rfl (by kernel_rfl) (fun _ _ _ h => h) (Or.inl ⟨by rfl, ?_⟩) ?_ ?_
    rotate_left
    · intro w'
      go_simp
      with_reducible rfl
    rotate_left
    · simp only [Act.put, List.setIfInBounds_toArray, List.set_cons_zero, List.set_cons_succ, i64_w, i32_w]
      rfl
    refine pure_ (i := 9) (N := some 27) (v := ?_) (a' := ?_) #[true, true, true, true, true, true, true, true, true, true, false, false] rfl rfl (by kernel_rfl) (fun _ _ _ h => h) (Or.inl ⟨by rfl, ?_⟩) ?_ ?_
    rotate_left
    · intro w'
      go_simp
      with_reducible rfl
    rotate_left
    · simp only [Act.put, List.setIfInBounds_toArray, List.set_cons_zero, List.set_cons_succ, i64_w, i32_w]
      rfl
    refine one_ (i := 10) (N := some 28) #[true, true, true, true, true, true, true, true, true, true, true, false] rfl rfl (by kernel_rfl) (by decide) (fun K hK => ?_)
    refine goes_ Tryz.func62 (by kernel_rfl) rfl #[.pointer (some ⟨g, 0, none⟩), .string s, .int .i64 (wrap64 ((m : Int) + (n : Int)))] (by rfl) rfl rfl (by first | (simp only [List.map_toArray, List.map_cons, List.map_nil]; done) | (simp only [List.map_toArray, List.map_cons, List.map_nil]; rfl) | rfl) ?_
    with_reducible refine (HFT.out _ hHeld.1).mono ?_
    rintro e w2 ⟨rfl, b2⟩
    refine ⟨_, rfl, ?_⟩
    have hb2 := hHeld.1.trans (b2.mono hHeld.1.size)
    have HB2 := Lib.hid hb2
    clear b2
    refine hK.out _ _ ⟨hb2, pw_cell_below (hb2) Q0.out, pw_cell_below (hb2) Q2.out, pw_cell_below (hb2) Q3.out, pw_cell_below (hb2) Q4.out⟩ (fun hHeld => ?_)
    clear hK K
    refine norm_ (a' := ?_) ?_ ?_
    rotate_left
    · show Act.put _ (some 28) _ = _
      simp only [Act.put, List.setIfInBounds_toArray, List.set_cons_zero, List.set_cons_succ, i64_w, i32_w]
      rfl
    refine pure_ (i := 11) (N := some 5) (v := ?_) (a' := ?_) #[true, true, true, true, true, true, true, true, true, true, true, true] rfl rfl (by kernel_rfl) (fun _ _ _ h => h) (Or.inl ⟨by rfl, ?_⟩) ?_ ?_
    rotate_left
    · intro w'
      go_simp
      with_reducible rfl
    rotate_left
    · simp only [Act.put, List.setIfInBounds_toArray, List.set_cons_zero, List.set_cons_succ, i64_w, i32_w]
      rfl
    refine done_ (by kernel_rfl) ?_
    --S2
    clear hHeld hb2
    by_cases q0 : q = 0
    · have b0 : ((q : Int) != 0) = false := by rw [q0]; rfl
      have HQ0 := Lib.hid q0
      clear q0
      have E0 := Lib.hid ((HB2.out.block i (blk_lt I2.out)).trans I2.out)
      have EG := Lib.hid ((HB2.out.block g (blk_lt Q1.out)).trans Q1.out)
      have EX := Lib.hid ((HB2.out.block x (blk_lt H0.out)).trans H0.out)
      have EV := Lib.hid ((HB2.out.block _ (blk_lt H2.out)).trans H2.out)
      have Y0 := Lib.hid (blk_cell E0.out 0)
      have Y1 := Lib.hid (blk_cell EX.out 0)
      have Y2 := Lib.hid (blk_cell EV.out 0)
      have HDT : Hid (Dat S w2.drew (.slice B m bp) (D.fs i).b) := I3.out.move (fun k hk => HB2.out.block k (H.out.lt k hk))
      have HVB : Hid (Bs w2.drew (.slice A n cp) ys) := (HV.out.1.below HB2.out).below (below_drew (Below.refl _ _))
      have HSL : Hid (∀ k, S k → k < w2.drew.heap.size) := fun k hk => Nat.lt_of_lt_of_le (H.out.lt k hk) HB2.out.size
      have HLL : Hid ((D.fs i).b.length + ys.length ≤ 140737488355328) := by show _ ≤ _; rw [← HM.out, ← HN.out]; omega
      have HCK : Hid (D.clock ≤ 1000000000) := by show _ ≤ _; have := H.out.ok.clock; omega
      go_upto_region 7 with (fail)
      --S3
      refine start_ (n := 16) (S := fun w' => w'.cell? ⟨i, 0, none⟩ = some (.slice B m bp) ∧ w'.cell? ⟨x, 0, none⟩ = some (.pointer (some ⟨g, 0, none⟩)) ∧ w'.cell? ⟨x + 2, 0, none⟩ = some (.slice A n cp)) (ds := [9, 12, 15]) #[false, false, false, false, false, false, false, false, false, false, false, false, false, false, false, false] (by kernel_rfl) rfl rfl ⟨Y0.out, Y1.out, Y2.out⟩ (fun hHeld => ?_)
      refine pure_ (i := 0) (N := some 32) (v := ?_) (a' := ?_) #[true, false, false, false, false, false, false, false, false, false, false, false, false, false, false, false] rfl rfl (by kernel_rfl) (fun _ _ _ h => h) (Or.inl ⟨by rfl, ?_⟩) ?_ ?_
      rotate_left
      · intro w'
        go_simp
        with_reducible rfl
      rotate_left
      · simp only [Act.put, List.setIfInBounds_toArray, List.set_cons_zero, List.set_cons_succ, i64_w, i32_w]
        rfl
      refine pure_ (i := 1) (N := some 33) (v := ?_) (a' := ?_) #[true, true, false, false, false, false, false, false, false, false, false, false, false, false, false, false] rfl rfl (by kernel_rfl) (fun _ _ _ h => h) (Or.inl ⟨by rfl, ?_⟩) ?_ ?_
      rotate_left
      · intro w'
        go_simp
        with_reducible rfl
      rotate_left
      · simp only [Act.put, List.setIfInBounds_toArray, List.set_cons_zero, List.set_cons_succ, i64_w, i32_w]
        rfl
      refine pure_ (i := 2) (N := some 34) (v := ?_) (a' := ?_) #[true, true, true, false, false, false, false, false, false, false, false, false, false, false, false, false] rfl rfl (by kernel_rfl) (fun _ _ _ h => h) (Or.inl ⟨by rfl, ?_⟩) ?_ ?_
      rotate_left
      · intro w'
        go_simp
        with_reducible rfl
      rotate_left
      · simp only [Act.put, List.setIfInBounds_toArray, List.set_cons_zero, List.set_cons_succ, i64_w, i32_w]
        rfl
      refine pure_ (i := 3) (N := some 35) (v := ?_) (a' := ?_) #[true, true, true, true, false, false, false, false, false, false, false, false, false, false, false, false] rfl rfl (by kernel_rfl) (fun _ _ _ h => h) (Or.inl ⟨by rfl, ?_⟩) ?_ ?_
      rotate_left
      · intro w'
        go_simp
        with_reducible rfl
      rotate_left
      · simp only [Act.put, List.setIfInBounds_toArray, List.set_cons_zero, List.set_cons_succ, i64_w, i32_w]
        rfl
      refine pure_ (i := 4) (N := some 36) (v := ?_) (a' := ?_) #[true, true, true, true, true, false, false, false, false, false, false, false, false, false, false, false] rfl rfl (by kernel_rfl) (fun _ _ _ h => h) (Or.inl ⟨by rfl, ?_⟩) ?_ ?_
      rotate_left
      · intro w'
        go_simp
        with_reducible rfl
      rotate_left
      · simp only [Act.put, List.setIfInBounds_toArray, List.set_cons_zero, List.set_cons_succ, i64_w, i32_w]
        rfl
      refine take_ (i := 5) (N := some 37) (v := ?_) (a' := ?_) #[true, true, true, true, true, true, false, false, false, false, false, false, false, false, false, false] rfl rfl (by kernel_rfl) (fun _ _ _ h => h) (Or.inl ⟨by rfl, ?_⟩) hHeld ?_ ?_
      rotate_left
      · rintro w' ⟨s0, s1, s2⟩
        go_simp
        with_reducible rfl
      rotate_left
      · simp only [Act.put, List.setIfInBounds_toArray, List.set_cons_zero, List.set_cons_succ, i64_w, i32_w]
        rfl
      refine take_ (i := 6) (N := some 38) (v := ?_) (a' := ?_) #[true, true, true, true, true, true, true, false, false, false, false, false, false, false, false, false] rfl rfl (by kernel_rfl) (fun _ _ _ h => h) (Or.inl ⟨by rfl, ?_⟩) hHeld ?_ ?_
      rotate_left
      · rintro w' ⟨s0, s1, s2⟩
        go_simp
        with_reducible rfl
      rotate_left
      · simp only [Act.put, List.setIfInBounds_toArray, List.set_cons_zero, List.set_cons_succ, i64_w, i32_w]
        rfl
      refine take_ (i := 8) (N := some 40) (v := ?_) (a' := ?_) #[true, true, true, true, true, true, true, false, true, false, false, false, false, false, false, false] rfl rfl (by kernel_rfl) (fun _ _ _ h => h) (Or.inl ⟨by rfl, ?_⟩) hHeld ?_ ?_
      rotate_left
      · rintro w' ⟨s0, s1, s2⟩
        go_simp
        with_reducible rfl
      rotate_left
      · simp only [Act.put, List.setIfInBounds_toArray, List.set_cons_zero, List.set_cons_succ, i64_w, i32_w]
        rfl
      refine one_ (i := 7) (N := some 39) #[true, true, true, true, true, true, true, true, true, false, false, false, false, false, false, false] rfl rfl (by kernel_rfl) (by decide) (fun K hK => ?_)
      refine app_dat_step (S := S) (W := w2.drew) rfl (.tmp 37) (.tmp 38) 23 rfl Tryz.underlying23 (.slice B m bp) (.slice A n cp) (D.fs i).b ys rfl rfl HSL.out HDT.out HVB.out HLL.out ?_
      intro v3 w3 d3 g3 n3
      have e0 := blk_grown (show w2.drew.heap[i]? = _ from E0.out) g3 (fun e => HROW.out.1 e.symm)
      have eg := blk_grown (show w2.drew.heap[g]? = _ from EG.out) g3 (fun e => HROW.out.2.1 e.symm)
      have ex := blk_grown (show w2.drew.heap[x]? = _ from EX.out) g3 (fun e => HROW.out.2.2.1 e.symm)
      have ev := blk_grown (show w2.drew.heap[x + 2]? = _ from EV.out) g3 (fun e => HROW.out.2.2.2.2 e.symm)
      obtain ⟨A3, c3, r3, _⟩ := d3.bs.len
      obtain ⟨m3, hm3⟩ : ∃ m3, m3 = ((D.fs i).b ++ ys).length := ⟨_, rfl⟩
      rw [← hm3] at r3
      subst r3
      have HM3 := Lib.hid hm3
      have HD3 := Lib.hid d3
      have HG3 := Lib.hid g3
      have HN3 := Lib.hid n3
      have EI3 := Lib.hid e0
      have EG3 := Lib.hid eg
      have EX3 := Lib.hid ex
      clear d3 g3 n3 hm3
      refine hK.out _ _ ⟨blk_cell e0 0, blk_cell ex 0, blk_cell ev 0⟩ (fun hHeld => ?_)
      clear hK K
      refine norm_ (a' := ?_) ?_ ?_
      rotate_left
      · show Act.put _ (some 39) _ = _
        simp only [Act.put, List.setIfInBounds_toArray, List.set_cons_zero, List.set_cons_succ, i64_w, i32_w]
        rfl
      refine last_ (i := 9) (N := some 41) #[true, true, true, true, true, true, true, true, true, true, false, false, false, false, false, false] rfl rfl (by kernel_rfl) (by decide) (fun K hK => ?_)
      refine goes_ Tryz.func64 (by kernel_rfl) rfl #[.pointer (some ⟨g, 0, none⟩)] (by rfl) rfl rfl (by first | (simp only [List.map_toArray, List.map_cons, List.map_nil]; done) | (simp only [List.map_toArray, List.map_cons, List.map_nil]; rfl) | rfl) ?_
      with_reducible refine (tick_raw g mf ms vp D _ EG3.out HCK.out).mono ?_
      rintro e w4 ⟨rfl, hw4⟩
      refine ⟨_, rfl, ?_⟩
      have k0 := (show w4.heap[i]? = w3.heap[i]? from by rw [hw4]; exact Below.heap_setCell _ _ _ _ (by show i ≠ g; exact HIG.out)).trans EI3.out
      have HW4 := Lib.hid hw4
      have K0 := Lib.hid k0
      clear hw4
      refine hK.out _ _ ?_
      clear hK K
      refine norm_ (a' := ?_) ?_ ?_
      rotate_left
      · show Act.put _ (some 41) _ = _
        simp only [Act.put, List.setIfInBounds_toArray, List.set_cons_zero, List.set_cons_succ, i64_w, i32_w]
        rfl
      refine pure_ (i := 10) (N := some 42) (v := ?_) (a' := ?_) #[true, true, true, true, true, true, true, true, true, true, true, false, false, false, false, false] rfl rfl (by kernel_rfl) (fun _ _ _ h => h) (Or.inl ⟨by rfl, ?_⟩) ?_ ?_
      rotate_left
      · intro w'
        go_simp
        with_reducible rfl
      rotate_left
      · simp only [Act.put, List.setIfInBounds_toArray, List.set_cons_zero, List.set_cons_succ, i64_w, i32_w]
        rfl
      refine pure_ (i := 11) (N := some 43) (v := ?_) (a' := ?_) #[true, true, true, true, true, true, true, true, true, true, true, true, false, false, false, false] rfl rfl (by kernel_rfl) (fun _ _ _ h => h) (Or.inl ⟨by rfl, ?_⟩) ?_ ?_
      rotate_left
      · intro w'
        go_simp
        with_reducible rfl
      rotate_left
      · simp only [Act.put, List.setIfInBounds_toArray, List.set_cons_zero, List.set_cons_succ, i64_w, i32_w]
        rfl
      refine last_ (i := 12) (N := none) #[true, true, true, true, true, true, true, true, true, true, true, true, true, false, false, false] rfl rfl (by kernel_rfl) (by decide) (fun K hK => ?_)
      have f0 := blk_frozen k0 0
      have m0 := blk_cell k0 0
      refine skip_ (w1 := ?_) (by rfl) rfl ?_ ?_
      rotate_left
      · go_simp
        rfl
      clear f0 m0
      have k4 := blk_set k0 0 (.slice A3 m3 c3)
      refine hK.out _ _ ?_
      clear hK K
      refine pure_ (i := 13) (N := some 44) (v := ?_) (a' := ?_) #[true, true, true, true, true, true, true, true, true, true, true, true, true, true, false, false] rfl rfl (by kernel_rfl) (fun _ _ _ h => h) (Or.inl ⟨by rfl, ?_⟩) ?_ ?_
      rotate_left
      · intro w'
        go_simp
        with_reducible rfl
      rotate_left
      · simp only [Act.put, List.setIfInBounds_toArray, List.set_cons_zero, List.set_cons_succ, i64_w, i32_w]
        rfl
      refine pure_ (i := 14) (N := some 45) (v := ?_) (a' := ?_) #[true, true, true, true, true, true, true, true, true, true, true, true, true, true, true, false] rfl rfl (by kernel_rfl) (fun _ _ _ h => h) (Or.inl ⟨by rfl, ?_⟩) ?_ ?_
      rotate_left
      · intro w'
        go_simp
        with_reducible rfl
      rotate_left
      · simp only [Act.put, List.setIfInBounds_toArray, List.set_cons_zero, List.set_cons_succ, i64_w, i32_w]
        rfl
      refine last_ (i := 15) (N := none) #[true, true, true, true, true, true, true, true, true, true, true, true, true, true, true, true] rfl rfl (by kernel_rfl) (by decide) (fun K hK => ?_)
      have f1 := blk_frozen k4 2
      have m1 := blk_cell k4 2
      refine skip_ (w1 := ?_) (by rfl) rfl ?_ ?_
      rotate_left
      · go_simp
        rfl
      clear f1 m1
      refine hK.out _ _ ?_
      clear hK K
      refine done_ (by kernel_rfl) ?_
      --S4
      go_wp2
      go_ret
      --S5
      obtain ⟨w9, hw9⟩ : ∃ w9, w9 = (w4.setCell ⟨i, 0, none⟩ (.slice A3 m3 c3)).setCell ⟨i, 2, none⟩ (.int .i64 (D.clock : Int)) := ⟨_, rfl⟩
      rw [← hw9]
      obtain ⟨wt, hwt⟩ : ∃ wt, wt = w2.setCell ⟨g, 1, none⟩ (.int .i64 ((D.clock : Int) + 1)) := ⟨_, rfl⟩
      have tyE : ∀ {w : World} {a b : Nat} {cs ds : Array Value} {t u : TypeId}, w.heap[a]? = some (.cells cs t (0, 0)) → w.heap[b]? = some (.cells ds u (0, 0)) → t ≠ u → a ≠ b := fun ha hb ht e => by
        subst e
        rw [ha] at hb
        injection hb with hb
        injection hb with _ hb _
        exact ht hb
      have hz3 : w2.heap.size ≤ w3.heap.size := HG3.out.size
      have hz4 : w4.heap.size = w3.heap.size := by rw [HW4.out]; simp
      have hz9 : w9.heap.size = w3.heap.size := by rw [hw9, ← hz4]; simp
      have hzt : wt.heap.size = w2.heap.size := by rw [hwt]; simp
      have hk9 : ∀ q, q ≠ i → w9.heap[q]? = w4.heap[q]? := fun q hq => by
        rw [hw9]
        exact (Below.heap_setCell _ _ _ _ hq).trans (Below.heap_setCell _ _ _ _ hq)
      have hk4 : ∀ q, q ≠ g → w4.heap[q]? = w3.heap[q]? := fun q hq => by rw [HW4.out]; exact Below.heap_setCell _ _ _ _ hq
      have hkt : ∀ q, q ≠ g → wt.heap[q]? = w2.heap[q]? := fun q hq => by rw [hwt]; exact Below.heap_setCell _ _ _ _ hq
      have hgt : wt.heap[g]? = w4.heap[g]? := by
        rw [hwt, HW4.out]
        exact (blk_set EG.out 1 _).trans (blk_set EG3.out 1 _).symm
      have hdt : Dk S (c + 1 + 1) wt g (tickV D) := by
        rw [hwt]
        refine (H.out.below HB2.out).turn (D' := tickV D) (fun k _ hk => Below.heap_setCell _ _ _ _ hk) (by simp) (fun mf ms vp h => (blk_set h 1 _).trans rfl) rfl rfl rfl rfl (tick_ok H.out.ok)
      have hft : FilesAt S wt (tickV D) dv := by
        have h1 : FilesAt S w2 D dv := HF.out.move (fun k hk => HB2.out.block k (H.out.lt k hk))
        exact FilesAt.keep (w := w2) h1 (fun k cells t _ ht hk => hkt k (tyE hk EG.out (by rcases ht with rfl | rfl <;> decide)))
      have hb9 : w9.heap[i]? = some (.cells #[.slice A3 m3 c3, .int .i64 (sr : Int), .int .i64 (D.clock : Int)] 74 (0, 0)) := by
        rw [hw9]
        exact (blk_set (blk_set K0.out 0 _) 2 _).trans rfl
      obtain ⟨fd, hfd⟩ : ∃ fd : FileV, fd = ⟨(D.fs i).b ++ ys, (D.fs i).sure, D.clock⟩ := ⟨_, rfl⟩
      have hfz : (D.fs i).b.length + ys.length ≤ 65536 := by
        have h1 := HQ.out
        rw [HQ0.out, fitsV_eq] at h1
        rw [← HM.out, ← HN.out]
        by_cases h2 : 65536 < m + n
        · rw [if_pos (.inl h2)] at h1
          omega
        · omega
      have hok : OkD (c + 1 + 1) { tickV D with fs := upd D.fs i fd } := hdt.ok.setFile (by
        have h1 := H.out.ok.file i HI.out
        rw [hfd]
        refine ⟨?_, ?_, H.out.ok.clock1, Nat.lt_succ_self _⟩
        · show ((D.fs i).b ++ ys).length ≤ _
          rw [List.length_append]; exact hfz
        · show (D.fs i).sure ≤ ((D.fs i).b ++ ys).length
          rw [List.length_append]; omega)
      have hd9 : Dat (Sx S w2 w3) w9 (.slice A3 m3 c3) ((D.fs i).b ++ ys) := by
        refine dat_keep2 (HD3.out.mono (fun q hq => hq)) (fun q hq => ?_)
        obtain ⟨cells, hcl⟩ := dat_typed HD3.out hq
        rw [hk9 q (tyE hcl EI3.out (by decide)), hk4 q (tyE hcl EG3.out (by decide))]
      have hfin := hdt.fileTurn (w' := w9) (v' := .slice A3 m3 c3) (f := fd) hft HI.out (by omega) (fun q hql hq hr => ?hk) (by rw [hb9, hfd, HSR.out]) (by
        rw [hfd]
        exact hd9.mono (fun q hq => hq.elim .inl (fun h => .inr (by rw [hzt, hz9]; exact h)))) (fun q hq => by
        rw [HD.out, hzt]
        exact HN3.out q hq) hok
      case hk =>
        rw [HD.out] at hr
        rw [hk9 q hq]
        by_cases hqg : q = g
        · rw [hqg]; exact hgt.symm
        · rw [hk4 q hqg, hkt q hqg]
          exact HG3.out.block q (by show q < w2.heap.size; rw [← hzt]; exact hql) (fun e => hr (by rw [e]; cases B <;> rfl))
      have hfo : Foot S w w9 := by
        have h3 : Foot S w2 w3 := Foot.of_grown (w := w2) ⟨HG3.out.os, HG3.out.tape, HG3.out.output, HG3.out.size, HG3.out.block⟩ (fun q hq => R_blk I3.out (by rw [← hq]; cases B <;> rfl))
        refine ((Foot.of_below HB2.out).trans h3).trans ?_
        rw [hw9, HW4.out]
        exact (((Foot.refl S w3).setCell H.out.sg 1 _).setCell I1.out 0 _).setCell I1.out 2 _
      refine ⟨_, 0, rfl, (hfin.mono (fun q hq => ?_) (fun q hq => ?_)).more (by omega), ?_, hfo⟩
      · rcases hq with hq | hq
        · exact .inl hq
        · exact .inr ⟨by have := HB2.out.size; omega, hq.2⟩
      · rcases hq with hq | hq
        · exact Nat.lt_of_lt_of_le (H.out.lt q hq) hfo.size
        · exact hq.2
      · unfold AppendR
        rw [← HO.out]
        refine .inr ?_
        rw [← HM.out, ← HN.out, ← HQ.out]
        exact ⟨HQ0.out, rfl, by rw [hfd]; rfl⟩
    · have b0 : ((q : Int) != 0) = true := by rw [bne_iff_ne]; omega
      have HQ0 := Lib.hid q0
      clear q0
      go_wp2
      go_ret
      refine ⟨D, q, rfl, ((H.out.below HB2.out).mono (fun k hk => .inl hk) (fun k hk => hk.elim (fun h => Nat.lt_of_lt_of_le (H.out.lt k h) HB2.out.size) (·.2))).more (by omega), ?_, Foot.of_below HB2.out⟩
      unfold AppendR
      rw [← HO.out]
      refine .inl ?_
      rw [← HM.out, ← HN.out, ← HQ.out]
      exact ⟨HQ0.out, rfl, rfl⟩
set_option maxHeartbeats 1000000 in
theorem append_any (S : Nat → Prop) (c g : Nat) (D : DiskV) (s : ByteArray) (v : Value) (xs : List Int) (w : World) (h : Dk S c w g D) (hs : s.size ≤ maxLen) (hv : BsO S w v xs) (hl : xs.length ≤ 1000000) (hc : c ≤ 40000000) :
    Calls Tryz.prog 45 #[.pointer (some ⟨g, 0, none⟩), .string s, v] w (DeedP S c g D (rightB s) (AppendR s xs) w) := by
  obtain ⟨x, hx⟩ : ∃ x, w.heap.size = x := ⟨_, rfl⟩
  have H := Lib.hid h
  have HV := Lib.hid hv
  have HS := Lib.hid hs
  have HL := Lib.hid hl
  have HX := Lib.hid hx
  obtain ⟨A, cp, rfl, _⟩ := hv.1.len
  obtain ⟨n, hn⟩ : ∃ n, n = xs.length := ⟨_, rfl⟩
  rw [← hn] at HV ⊢
  have HN := Lib.hid hn
  clear h hv hs hl hn
  go_enter Tryz.func45, Tryz.ntmps45
  go_wp2_with fail
  obtain ⟨W, hW⟩ : ∃ W, W = (((w.alloc (.cells #[.pointer (some ⟨g, 0, none⟩)] 28)).alloc (.cells #[.string s] 9)).alloc (.cells #[.slice A n cp] 23)).alloc (.cells #[.string s] 9) := ⟨_, rfl⟩
  rw [← hW]
  obtain ⟨g0, g1, g2, g3, _, hb⟩ := allocs4 w (.cells #[.pointer (some ⟨g, 0, none⟩)] 28) (.cells #[.string s] 9) (.cells #[.slice A n cp] 23) (.cells #[.string s] 9) hx
  rw [← hW] at g0 g1 g2 g3 hb
  have hgx : g < x := by rw [← hx]; exact H.out.lt g H.out.sg
  have G0 := Lib.hid g0
  have G1 := Lib.hid g1
  have G2 := Lib.hid g2
  have G3 := Lib.hid g3
  have HB := Lib.hid hb
  clear hW g0 g1 g2 g3 hb hx
  refine (deed_any S c g D 70 _ _ [s] (AppendR s xs) W (H.out.below HB.out) (fun W2 hf => ss_one (foot_blk hf G3.out (by omega))) (by simp) (fun r hr => by rw [List.mem_singleton.1 hr]; exact HS.out) (by omega) (enters_of Tryz.func70 (by kernel_rfl) rfl) (fun W2 hf hd => append1_any S c g x (countV D) s _ xs W2 hd HS.out (BsO.foot (HV.out.below HB.out) hf (fun k hk _ => by rw [hk]; exact H.out.sg)) HL.out hc (foot_blk hf G0.out (by omega)) (foot_blk hf G1.out (by omega)) (foot_blk hf G2.out (by omega)))).mono ?_
  rintro e w9 hp
  have HP := Lib.hid (deedP_from HB.out H.out.lt hp)
  obtain ⟨D', k, rfl, _⟩ := hp
  go_wp2
  go_ret
  have h := HP.out
  simp only [List.all_cons, List.all_nil, Bool.and_true] at h
  exact h
end Go.Proofs.YtononoakdebjeaaGreatDoor.Dk
namespace Go.Proofs.YtononoakdebjeaaGreatDoor.Dk
open Go.RowKit Go.Proofs.YtononoakdebjeaaGreatDoorW.PrintWords Go.Proofs.YtononoakdebjeaaGreatDoorW.PrintLast Go.Proofs.YtononoakdebjeaaGreatDoor.Base Go.Proofs.YtononoakdebjeaaGreatDoor.Path Go.Maps
set_option linter.unusedVariables false
set_option linter.unusedSimpArgs false
/-- What is read of a name. -/
def ReadP (D : DiskV) (s : ByteArray) (w : World) (e : Ending) (w' : World) : Prop :=
  (D.down = true ∧ e = .returned (.tuple #[.slice none 0 0, .int .i64 8]) ∧ Below w.heap.size w w') ∨ (D.down = false ∧ look D.dir s = none ∧ e = .returned (.tuple #[.slice none 0 0, .int .i64 6]) ∧ Below w.heap.size w w') ∨
  (D.down = false ∧ ∃ i v, look D.dir s = some i ∧ e = .returned (.tuple #[v, .int .i64 0]) ∧ Ow w w' v (D.fs i).b)
theorem read_any (S : Nat → Prop) (c g : Nat) (D : DiskV) (s : ByteArray) (w : World) (h : Dk S c w g D) (hs : s.size ≤ maxLen) :
    Calls Tryz.prog 18 #[.pointer (some ⟨g, 0, none⟩), .string s] w (ReadP D s w) := by
  have HL := Lib.hid (look_any S c g D s w h hs)
  have H := Lib.hid h
  clear h hs
  go_enter Tryz.func18, Tryz.ntmps18
  go_wp2_with fail
  refine HL.out.mono ?_
  rintro e w1 ⟨hp, rfl⟩
  rcases hp with ⟨h1, rfl⟩ | ⟨h1, h2, rfl⟩ | ⟨h1, i, h2, rfl⟩
  · have K1 := Lib.hid h1
    clear h1 HL
    go_wp2
    go_ret2
    exact .inl ⟨K1.out, rfl, Below.refl _ _⟩
  · have K1 := Lib.hid h1
    have K2 := Lib.hid h2
    clear h1 h2 HL
    go_wp2
    go_ret2
    exact .inr (.inl ⟨K1.out, K2.out, rfl, Below.refl _ _⟩)
  · obtain ⟨dv, hf⟩ := H.out.fl
    obtain ⟨i1, i2, i3⟩ := hf.1 i (has_dir h2)
    have hm : (D.fs i).b.length ≤ 65536 := (H.out.ok.file i (has_dir h2)).1
    have K1 := Lib.hid h1
    have K2 := Lib.hid h2
    have c0 := blk_cell i2 0
    have HC := Lib.hid (cloneB_any (dv i) (D.fs i).b w1 i3.bs (by omega))
    obtain ⟨A, cp, hd, _⟩ := i3.bs.len
    obtain ⟨m, hme⟩ : ∃ m, m = (D.fs i).b.length := ⟨_, rfl⟩
    rw [← hme] at hd
    rw [hd] at c0 HC
    have c0 : w1.cell? ⟨i, 0, none⟩ = some (.slice A m cp) := c0
    clear h1 h2 hf i1 i2 i3 hm hd hme HL
    go_wp2_with fail
    refine HC.out.mono ?_
    rintro e w2 ⟨v2, rfl, o2⟩
    obtain ⟨A2, n2, c2, rfl, hn2⟩ := o2.slice
    have HO2 := Lib.hid o2
    clear o2 hn2 c0
    go_wp2
    go_ret2
    exact .inr (.inr ⟨K1.out, i, _, K2.out, rfl, HO2.out⟩)
/-- What is told of a name. -/
def StatP (D : DiskV) (s : ByteArray) (w : World) (e : Ending) (w' : World) : Prop :=
  Below w.heap.size w w' ∧ ((D.down = true ∧ e = .returned (.tuple #[.agg #[.int .i64 0, .int .i64 0], .int .i64 8])) ∨ (D.down = false ∧ look D.dir s = none ∧ e = .returned (.tuple #[.agg #[.int .i64 0, .int .i64 0], .int .i64 6])) ∨
  (D.down = false ∧ ∃ i, look D.dir s = some i ∧ e = .returned (.tuple #[.agg #[.int .i64 ((D.fs i).b.length : Int), .int .i64 ((D.fs i).time : Int)], .int .i64 0])))
set_option maxRecDepth 100000 in
set_option maxHeartbeats 1000000 in
theorem stat_any (S : Nat → Prop) (c g : Nat) (D : DiskV) (s : ByteArray) (w : World) (h : Dk S c w g D) (hs : s.size ≤ maxLen) :
    Calls Tryz.prog 14 #[.pointer (some ⟨g, 0, none⟩), .string s] w (StatP D s w) := by
  obtain ⟨W, hW⟩ : ∃ W, W = w.alloc (.cells #[.int .i64 0, .int .i64 0] 36) := ⟨_, rfl⟩
  have hb : Below w.heap.size w W := by rw [hW]; exact below_alloc (Below.refl _ _) _
  obtain ⟨x, hx⟩ : ∃ x, w.heap.size = x := ⟨_, rfl⟩
  have hr : W.heap[x]? = some (.cells #[.int .i64 0, .int .i64 0] 36 (0, 0)) := by rw [hW]; exact alloc_at w _ hx
  have HL := Lib.hid (look_any S c g D s W (h.below hb) hs)
  have H := Lib.hid (h.below hb)
  have HB := Lib.hid hb
  have HR := Lib.hid hr
  have HW := Lib.hid hW
  have HX := Lib.hid hx
  have z0 := blk_cell hr 0
  have z1 := blk_cell hr 1
  have y0 := blk_frozen hr 0
  have y1 := blk_frozen hr 1
  clear h hs hb hr hW
  go_enter Tryz.func14, Tryz.ntmps14
  go_wp2_with fail
  rw [← HW.out]
  clear hx
  refine HL.out.mono ?_
  rintro e w1 ⟨hp, rfl⟩
  rcases hp with ⟨h1, rfl⟩ | ⟨h1, h2, rfl⟩ | ⟨h1, i, h2, rfl⟩
  · have K1 := Lib.hid h1
    clear h1 HL
    go_wp2
    have r1 := blk_set (blk_set HR.out 0 (.int .i64 0)) 1 (.int .i64 0)
    have k0 := blk_cell r1 0
    have k1 := blk_cell r1 1
    refine bodyPost_ret (v := .tuple #[.agg #[.int .i64 0, .int .i64 0], .int .i64 8]) (by simp [results, Tryz.results14, go_sem, k0, k1]) rfl ?_
    have hle : w.heap.size ≤ x := Nat.le_of_eq HX.out
    exact ⟨(HB.out.setCell hle _).setCell hle _, .inl ⟨K1.out, rfl⟩⟩
  · have K1 := Lib.hid h1
    have K2 := Lib.hid h2
    clear h1 h2 HL
    go_wp2
    have r1 := blk_set (blk_set HR.out 0 (.int .i64 0)) 1 (.int .i64 0)
    have k0 := blk_cell r1 0
    have k1 := blk_cell r1 1
    refine bodyPost_ret (v := .tuple #[.agg #[.int .i64 0, .int .i64 0], .int .i64 6]) (by simp [results, Tryz.results14, go_sem, k0, k1]) rfl ?_
    have hle : w.heap.size ≤ x := Nat.le_of_eq HX.out
    exact ⟨(HB.out.setCell hle _).setCell hle _, .inr (.inl ⟨K1.out, K2.out, rfl⟩)⟩
  · obtain ⟨dv, hf⟩ := H.out.fl
    obtain ⟨i1, i2, i3⟩ := hf.1 i (has_dir h2)
    have K1 := Lib.hid h1
    have K2 := Lib.hid h2
    obtain ⟨A, cp, hd, _⟩ := i3.bs.len
    obtain ⟨m, hme⟩ : ∃ m, m = (D.fs i).b.length := ⟨_, rfl⟩
    obtain ⟨tm, htm⟩ : ∃ tm, tm = (D.fs i).time := ⟨_, rfl⟩
    rw [← hme] at hd
    rw [hd, ← htm] at i2
    have Q0 := Lib.hid (blk_cell i2 0)
    have Q2 := Lib.hid (blk_cell i2 2)
    have HM := Lib.hid hme
    have HTM := Lib.hid htm
    clear h1 h2 hf i1 i2 i3 hd hme htm HL z0 z1 y0 y1
    go_upto_region 4 with (fail)
    --S1
    refine start_ (n := 12) (S := fun w' => w'.cell? ⟨i, 0, none⟩ = some (.slice A m cp) ∧ w'.cell? ⟨i, 2, none⟩ = some (.int .i64 (tm : Int))) (ds := [10]) #[false, false, false, false, false, false, false, false, false, false, false, false] (by kernel_rfl) rfl rfl ⟨Q0.out, Q2.out⟩ (fun hHeld => ?_)
    refine pure_ (i := 0) (N := some 18) (v := ?_) (a' := ?_) #[true, false, false, false, false, false, false, false, false, false, false, false] rfl rfl (by kernel_rfl) (fun _ _ _ h => h) (Or.inl ⟨by rfl, ?_⟩) ?_ ?_
    rotate_left
    · intro w'
      go_simp
      with_reducible rfl
    rotate_left
    · simp only [Act.put, List.setIfInBounds_toArray, List.set_cons_zero, List.set_cons_succ, i64_w, i32_w]
      rfl
    refine pure_ (i := 1) (N := some 19) (v := ?_) (a' := ?_) #[true, true, false, false, false, false, false, false, false, false, false, false] rfl rfl (by kernel_rfl) (fun _ _ _ h => h) (Or.inl ⟨by rfl, ?_⟩) ?_ ?_
    rotate_left
    · intro w'
      go_simp
      with_reducible rfl
    rotate_left
    · simp only [Act.put, List.setIfInBounds_toArray, List.set_cons_zero, List.set_cons_succ, i64_w, i32_w]
      rfl
    refine pure_ (i := 2) (N := some 20) (v := ?_) (a' := ?_) #[true, true, true, false, false, false, false, false, false, false, false, false] rfl rfl (by kernel_rfl) (fun _ _ _ h => h) (Or.inl ⟨by rfl, ?_⟩) ?_ ?_
    rotate_left
    · intro w'
      go_simp
      with_reducible rfl
    rotate_left
    · simp only [Act.put, List.setIfInBounds_toArray, List.set_cons_zero, List.set_cons_succ, i64_w, i32_w]
      rfl
    refine pure_ (i := 5) (N := some 23) (v := ?_) (a' := ?_) #[true, true, true, false, false, true, false, false, false, false, false, false] rfl rfl (by kernel_rfl) (fun _ _ _ h => h) (Or.inl ⟨by rfl, ?_⟩) ?_ ?_
    rotate_left
    · intro w'
      go_simp
      with_reducible rfl
    rotate_left
    · simp only [Act.put, List.setIfInBounds_toArray, List.set_cons_zero, List.set_cons_succ, i64_w, i32_w]
      rfl
    refine pure_ (i := 6) (N := some 24) (v := ?_) (a' := ?_) #[true, true, true, false, false, true, true, false, false, false, false, false] rfl rfl (by kernel_rfl) (fun _ _ _ h => h) (Or.inl ⟨by rfl, ?_⟩) ?_ ?_
    rotate_left
    · intro w'
      go_simp
      with_reducible rfl
    rotate_left
    · simp only [Act.put, List.setIfInBounds_toArray, List.set_cons_zero, List.set_cons_succ, i64_w, i32_w]
      rfl
    refine pure_ (i := 7) (N := some 25) (v := ?_) (a' := ?_) #[true, true, true, false, false, true, true, true, false, false, false, false] rfl rfl (by kernel_rfl) (fun _ _ _ h => h) (Or.inl ⟨by rfl, ?_⟩) ?_ ?_
    rotate_left
    · intro w'
      go_simp
      with_reducible rfl
    rotate_left
    · simp only [Act.put, List.setIfInBounds_toArray, List.set_cons_zero, List.set_cons_succ, i64_w, i32_w]
      rfl
    refine take_ (i := 3) (N := some 21) (v := ?_) (a' := ?_) #[true, true, true, true, false, true, true, true, false, false, false, false] rfl rfl (by kernel_rfl) (fun _ _ _ h => h) (Or.inl ⟨by rfl, ?_⟩) hHeld ?_ ?_
    rotate_left
    · rintro w' ⟨s0, s1⟩
      go_simp
      with_reducible rfl
    rotate_left
    · simp only [Act.put, List.setIfInBounds_toArray, List.set_cons_zero, List.set_cons_succ, i64_w, i32_w]
      rfl
    refine pure_ (i := 4) (N := some 22) (v := ?_) (a' := ?_) #[true, true, true, true, true, true, true, true, false, false, false, false] rfl rfl (by kernel_rfl) (fun _ _ _ h => h) (Or.inl ⟨by rfl, ?_⟩) ?_ ?_
    rotate_left
    · intro w'
      go_simp
      with_reducible rfl
    rotate_left
    · simp only [Act.put, List.setIfInBounds_toArray, List.set_cons_zero, List.set_cons_succ, i64_w, i32_w]
      rfl
    refine take_ (i := 8) (N := some 26) (v := ?_) (a' := ?_) #[true, true, true, true, true, true, true, true, true, false, false, false] rfl rfl (by kernel_rfl) (fun _ _ _ h => h) (Or.inl ⟨by rfl, ?_⟩) hHeld ?_ ?_
    rotate_left
    · rintro w' ⟨s0, s1⟩
      go_simp
      with_reducible rfl
    rotate_left
    · simp only [Act.put, List.setIfInBounds_toArray, List.set_cons_zero, List.set_cons_succ, i64_w, i32_w]
      rfl
    refine pure_ (i := 9) (N := some 27) (v := ?_) (a' := ?_) #[true, true, true, true, true, true, true, true, true, true, false, false] rfl rfl (by kernel_rfl) (fun _ _ _ h => h) (Or.inl ⟨by rfl, ?_⟩) ?_ ?_
    rotate_left
    · intro w'
      go_simp
      with_reducible rfl
    rotate_left
    · simp only [Act.put, List.setIfInBounds_toArray, List.set_cons_zero, List.set_cons_succ, i64_w, i32_w]
      rfl
    refine last_ (i := 10) (N := none) #[true, true, true, true, true, true, true, true, true, true, true, false] rfl rfl (by kernel_rfl) (by decide) (fun K hK => ?_)
    refine put_row_step (g := x) rfl rfl 36 _ _ rfl #[.int .i64 (m : Int), .int .i64 (tm : Int)] rfl rfl 36 #[.int .i64 0, .int .i64 0] HR.out (by kernel_rfl) rfl (by simp [Value.oneCell']) ?_
    refine hK.out _ _ ?_
    clear hK K
    refine pure_ (i := 11) (N := some 5) (v := ?_) (a' := ?_) #[true, true, true, true, true, true, true, true, true, true, true, true] rfl rfl (by kernel_rfl) (fun _ _ _ h => h) (Or.inl ⟨by rfl, ?_⟩) ?_ ?_
    rotate_left
    · intro w'
      go_simp
      with_reducible rfl
    rotate_left
    · simp only [Act.put, List.setIfInBounds_toArray, List.set_cons_zero, List.set_cons_succ, i64_w, i32_w]
      rfl
    refine done_ (by kernel_rfl) ?_
    --S2
    go_wp2
    have r1 := setRow_heap w1.drew x #[.int .i64 0, .int .i64 0] #[.int .i64 (m : Int), .int .i64 (tm : Int)] 36 (0, 0) HR.out
    have k0 := blk_cell r1 0
    have k1 := blk_cell r1 1
    refine bodyPost_ret (v := .tuple #[.agg #[.int .i64 (m : Int), .int .i64 (tm : Int)], .int .i64 0]) (by simp [results, Tryz.results14, go_sem, k0, k1]) rfl ?_
    have hle : w.heap.size ≤ x := Nat.le_of_eq HX.out
    exact ⟨row_below (Below.drew HB.out) hle _, .inr (.inr ⟨K1.out, i, K2.out, by rw [HM.out, HTM.out]⟩)⟩
end Go.Proofs.YtononoakdebjeaaGreatDoor.Dk
