/- A disk in the midst of a restart: its files' directory is the sure one; disk.cuts (walk). -/
import Derived.Test.YtononoakdebjeaaGreatDoorDkReadAll
namespace Go.Proofs.YtononoakdebjeaaGreatDoor.Dk
open Go.RowKit Go.Proofs.YtononoakdebjeaaGreatDoorW.PrintWords Go.Proofs.YtononoakdebjeaaGreatDoorW.PrintLast Go.Proofs.YtononoakdebjeaaGreatDoor.Base Go.Proofs.YtononoakdebjeaaGreatDoor.Path Go.Maps
set_option linter.unusedVariables false
set_option linter.unusedSimpArgs false
structure MidOk (c : Nat) (D : DiskV) : Prop where
  quota : D.quota ≤ 16777216
  clock1 : 1 ≤ D.clock
  clock : D.clock ≤ c
  deeds : D.deeds ≤ c
  armed : -1 ≤ D.armed ∧ D.armed ≤ 9223372036854775807
  up : UpD D.dir
  few : D.dir.length ≤ c
  names : ∀ p ∈ D.dir, p.1.size ≤ maxLen
  chs : ∀ h ∈ D.pend, h.name.size ≤ maxLen ∧ h.gone.size ≤ maxLen ∧ (h.name ≠ noName → h.dst.isSome = true)
  file : ∀ i, Has D i → (D.fs i).b.length ≤ 65536 ∧ (D.fs i).sure ≤ (D.fs i).b.length ∧ 1 ≤ (D.fs i).time ∧ (D.fs i).time < D.clock
structure Mid (ms : Nat) (vp : Value) (S : Nat → Prop) (c : Nat) (w : World) (g : Nat) (D : DiskV) : Prop where
  lt : ∀ k, S k → k < w.heap.size
  sg : S g
  sm : S ms
  ok : MidOk c D
  blk : w.heap[g]? = some (.cells (dcells D ms ms vp) 80 (0, 0))
  dir : DirAt w ms D.dir
  pend : kch.R 84 w 0 S vp (D.pend.map ChV.x)
  fl : ∃ dv, FilesAt S w D dv
section
variable {ms : Nat} {vp : Value} {S T : Nat → Prop} {c c' : Nat} {w w' : World} {g : Nat} {D D' : DiskV}
theorem MidOk.more (h : MidOk c D) (hc : c ≤ c') : MidOk c' D :=
  ⟨h.quota, h.clock1, Nat.le_trans h.clock hc, Nat.le_trans h.deeds hc, h.armed, h.up, Nat.le_trans h.few hc, h.names, h.chs, h.file⟩
theorem MidOk.setFile (h : MidOk c D) {i : Nat} {f : FileV} (hf : f.b.length ≤ 65536 ∧ f.sure ≤ f.b.length ∧ 1 ≤ f.time ∧ f.time < D.clock) : MidOk c { D with fs := upd D.fs i f } :=
  ⟨h.quota, h.clock1, h.clock, h.deeds, h.armed, h.up, h.few, h.names, h.chs, fun j hj => by
    show (upd D.fs i f j).b.length ≤ 65536 ∧ (upd D.fs i f j).sure ≤ (upd D.fs i f j).b.length ∧ 1 ≤ (upd D.fs i f j).time ∧ (upd D.fs i f j).time < D.clock
    by_cases e : j = i
    · rw [e, upd_same]; exact hf
    · rw [upd_other e]; exact h.file j hj⟩
theorem MidOk.tick (o : MidOk c D) : MidOk (c + 1) (tickV D) :=
  ⟨o.quota, by show 1 ≤ D.clock + 1; omega, by show D.clock + 1 ≤ c + 1; have := o.clock; omega, Nat.le_succ_of_le o.deeds, o.armed, o.up, Nat.le_succ_of_le o.few, o.names, o.chs, fun i hi => by
    obtain ⟨a, b, d, e⟩ := o.file i hi
    exact ⟨a, b, d, Nat.lt_succ_of_lt e⟩⟩
theorem Mid.more (h : Mid ms vp S c w g D) (hc : c ≤ c') : Mid ms vp S c' w g D := ⟨h.lt, h.sg, h.sm, h.ok.more hc, h.blk, h.dir, h.pend, h.fl⟩
theorem Mid.move (h : Mid ms vp S c w g D) (hm : ∀ k, S k → w'.heap[k]? = w.heap[k]?) : Mid ms vp S c w' g D := by
  obtain ⟨dv, h8⟩ := h.fl
  refine ⟨fun k hk => ?_, h.sg, h.sm, h.ok, (hm g h.sg).trans h.blk, h.dir.block (hm _ h.sm), Kd.R_move h.pend hm, ⟨dv, h8.move hm⟩⟩
  have hl := h.lt k hk
  have e := hm k hk
  rw [Array.getElem?_eq_getElem hl] at e
  exact (Array.getElem?_eq_some_iff.1 e).1
theorem Mid.below (h : Mid ms vp S c w g D) (hb : Below w.heap.size w w') : Mid ms vp S c w' g D := h.move fun k hk => hb.block k (h.lt k hk)
theorem Mid.mono (h : Mid ms vp S c w g D) (hs : ∀ k, S k → T k) (ht : ∀ k, T k → k < w.heap.size) : Mid ms vp T c w g D := by
  obtain ⟨dv, h8⟩ := h.fl
  exact ⟨ht, hs _ h.sg, hs _ h.sm, h.ok, h.blk, h.dir, Kd.R_mono h.pend hs, ⟨dv, h8.mono hs⟩⟩
/-- Only the disk's own cells turn. -/
theorem Mid.turn (h : Mid ms vp S c w g D) (hk : ∀ k, k < w.heap.size → k ≠ g → w'.heap[k]? = w.heap[k]?) (hsz : w.heap.size ≤ w'.heap.size)
    (hc : w'.heap[g]? = some (.cells (dcells D' ms ms vp) 80 (0, 0)))
    (e1 : D'.dir = D.dir) (e2 : D'.sure = D.sure) (e3 : D'.pend = D.pend) (e4 : D'.fs = D.fs) (hok : MidOk c' D') : Mid ms vp S c' w' g D' := by
  have hty : ∀ {k : Nat} {cs : Array Value} {t : TypeId}, w.heap[k]? = some (.cells cs t (0, 0)) → t ≠ 80 → k ≠ g := fun hb ht e => by
    rw [e, h.blk] at hb
    injection hb with hb
    injection hb with _ hb _
    exact ht hb.symm
  have hH : ∀ i, Has D' i → Has D i := fun i hi => by
    unfold Has at hi ⊢
    rwa [e1, e2, e3] at hi
  obtain ⟨dv, h8, h9⟩ := h.fl
  refine ⟨fun k hk2 => Nat.lt_of_lt_of_le (h.lt k hk2) hsz, h.sg, h.sm, hok, hc, ?_, ?_, ⟨dv, fun i hi => ?_, fun i j k hi hj => h9 i j k (hH i hi) (hH j hj)⟩⟩
  · rw [e1]; exact h.dir.block (hk ms (h.lt ms h.sm) (VMap.ne h.dir h.blk))
  · rw [e3]; exact kch_move h.pend (fun k cells hks hcl => hk k (h.lt k hks) (hty hcl (by decide)))
  · obtain ⟨a, b, d⟩ := h8 i (hH i hi)
    rw [e4]
    exact ⟨a, (hk i (h.lt i a) (hty b (by decide))).trans b, d.keep (fun k cells hks hcl => hk k (h.lt k hks) (hty hcl (by decide)))⟩
theorem Mid.fileTurn {i : Nat} {dv : Nat → Value} {f : FileV} {v' : Value} (h : Mid ms vp S c w g D) (hf : FilesAt S w D dv) (hi : Has D i) (hsz : w.heap.size ≤ w'.heap.size)
    (hk : ∀ k, k < w.heap.size → k ≠ i → dblk (dv i) ≠ some k → w'.heap[k]? = w.heap[k]?) (hb : w'.heap[i]? = some (.cells #[v', .int .i64 (f.sure : Int), .int .i64 (f.time : Int)] 74 (0, 0)))
    (hd : Dat (Sx S w w') w' v' f.b) (hv : ∀ k, dblk v' = some k → dblk (dv i) = some k ∨ w.heap.size ≤ k) (hok : MidOk c' { D with fs := upd D.fs i f }) : Mid ms vp (Sx S w w') c' w' g { D with fs := upd D.fs i f } := by
  obtain ⟨i1, i2, i3⟩ := hf.1 i hi
  have hno : ∀ {k : Nat} {o : Obj}, w.heap[k]? = some o → (∀ cells, o ≠ .cells cells 74 (0, 0)) → (∀ cells, o ≠ .cells cells 5 (0, 0)) → w'.heap[k]? = w.heap[k]? := fun {k o} hb1 ha hc => by
    refine hk k (blk_lt hb1) (fun e => ?_) (fun e => ?_)
    · rw [e, i2] at hb1
      exact ha _ (Option.some.inj hb1).symm
    · obtain ⟨cells, hcl⟩ := dat_typed i3 e
      rw [hcl] at hb1
      exact hc _ (Option.some.inj hb1).symm
  have hno2 : ∀ {k : Nat} {t : TypeId} {cs : Array Value}, w.heap[k]? = some (.cells cs t (0, 0)) → t ≠ 74 → t ≠ 5 → w'.heap[k]? = w.heap[k]? := fun hb1 ha hc => hno hb1 (fun cells e => ha (by injection e)) (fun cells e => hc (by injection e))
  have hmap : ∀ {k n : Nat} {F : ByteArray → Option Value}, VMap 9 skey w k n F → w'.heap[k]? = w.heap[k]? := fun {k n F} hm => by
    obtain ⟨_, ⟨es, clock, hb1, _⟩, _⟩ := id hm
    exact hno hb1 (fun cells e => by cases e) (fun cells e => by cases e)
  have hS : ∀ k, S k → k < w'.heap.size := fun k hk => Nat.lt_of_lt_of_le (h.lt k hk) hsz
  refine ⟨fun k hk => hk.elim (hS k) (·.2), .inl h.sg, .inl h.sm, hok, (hno2 h.blk (by decide) (by decide)).trans h.blk, h.dir.block (hmap h.dir), Kd.R_mono (kch_move h.pend (fun k cells _ hc => hno2 hc (by decide) (by decide))) (fun k hk => .inl hk), ⟨fun j => if j = i then v' else dv j, fun j hj => ?_, fun j q k hj hq hne e1 e2 => ?_⟩⟩
  · show Sx S w w' j ∧ w'.heap[j]? = some (.cells #[if j = i then v' else dv j, .int .i64 ((upd D.fs i f j).sure : Int), .int .i64 ((upd D.fs i f j).time : Int)] 74 (0, 0)) ∧ Dat (Sx S w w') w' (if j = i then v' else dv j) (upd D.fs i f j).b
    by_cases e : j = i
    · subst e
      rw [if_pos rfl, upd_same]
      exact ⟨.inl i1, hb, hd⟩
    · rw [if_neg e, upd_other e]
      have hj : Has D j := hj
      obtain ⟨j1, j2, j3⟩ := hf.1 j hj
      refine ⟨.inl j1, (hk j (blk_lt j2) e (fun e2 => ?_)).trans j2, (dat_keep2 j3 (fun k hkb => ?_)).mono (fun k hk => .inl hk)⟩
      · obtain ⟨cells, hcl⟩ := dat_typed i3 e2
        rw [hcl] at j2
        injection j2 with j2
        injection j2 with _ j2 _
        revert j2
        decide
      · obtain ⟨cells, hcl⟩ := dat_typed j3 hkb
        refine hk k (blk_lt hcl) (fun e2 => ?_) (fun e2 => hf.2 i j k hi hj (fun e3 => e e3.symm) e2 hkb)
        rw [e2, i2] at hcl
        injection hcl with hcl
        injection hcl with _ hcl _
        revert hcl
        decide
  · have hj : Has D j := hj
    have hq : Has D q := hq
    simp only at e1 e2
    have old : ∀ {z : Nat}, Has D z → z ≠ i → dblk (dv z) = some k → dblk v' = some k → False := fun {z} hz hzi ez ev => by
      rcases hv k ev with h | h
      · exact hf.2 i z k hi hz (fun e => hzi e.symm) h ez
      · obtain ⟨cells, hcl⟩ := dat_typed (hf.1 z hz).2.2 ez
        have := blk_lt hcl
        omega
    by_cases ej : j = i
    · rw [if_pos ej] at e1
      have eq : q ≠ i := fun e => hne (ej.trans e.symm)
      rw [if_neg eq] at e2
      exact old hq eq e2 e1
    · rw [if_neg ej] at e1
      by_cases eq : q = i
      · rw [if_pos eq] at e2
        exact old hj ej e1 e2
      · rw [if_neg eq] at e2
        exact hf.2 j q k hj hq hne e1 e2
end
end Go.Proofs.YtononoakdebjeaaGreatDoor.Dk
namespace Go.Proofs.YtononoakdebjeaaGreatDoor.Dk
open Go.RowKit Go.Proofs.YtononoakdebjeaaGreatDoorW.PrintWords Go.Proofs.YtononoakdebjeaaGreatDoorW.PrintLast Go.Proofs.YtononoakdebjeaaGreatDoor.Base Go.Proofs.YtononoakdebjeaaGreatDoor.Path Go.Maps
set_option linter.unusedVariables false
set_option linter.unusedSimpArgs false
theorem cuts_num (sr m : Nat) (tail : Int) (h : sr ≤ m) (hm : m ≤ 65536) : wrap64 ((sr : Int) + min (max tail 0) (wrap64 ((m : Int) - (sr : Int)))) = ((sr + min (max tail 0).toNat (m - sr) : Nat) : Int) := by
  rw [IntWalk.wrap64_in ((m : Int) - (sr : Int)) (by omega), IntWalk.wrap64_in _ (by omega)]
  omega
set_option maxRecDepth 100000 in
set_option maxHeartbeats 4000000 in
theorem cuts_any (S : Nat → Prop) (c g i ms : Nat) (vp : Value) (D : DiskV) (tail : Int) (w : World) (h : Mid ms vp S c w g D) (hi : Has D i) (hc : c ≤ 100000000) :
    Calls Tryz.prog 44 #[.pointer (some ⟨g, 0, none⟩), fptr i, .int .i64 tail] w fun e w' => e = .returned (.tuple #[]) ∧ Mid ms vp S (c + 1) w' g (cutsV D i tail) ∧ Foot S w w' ∧ w'.heap.size = w.heap.size := by
  have q1 := h.blk
  obtain ⟨dv, hf⟩ := h.fl
  obtain ⟨i1, i2, i3⟩ := hf.1 i hi
  obtain ⟨B, bp, hd, hbp, hm⟩ := i3.bs.len
  obtain ⟨m, hme⟩ : ∃ m, m = (D.fs i).b.length := ⟨_, rfl⟩
  rw [← hme] at hd hbp hm
  obtain ⟨sr, hsr⟩ : ∃ sr, sr = (D.fs i).sure := ⟨_, rfl⟩
  obtain ⟨tm, htm⟩ : ∃ tm, tm = (D.fs i).time := ⟨_, rfl⟩
  have hml : m ≤ 65536 := by rw [hme]; exact (h.ok.file i hi).1
  have hsm : sr ≤ m := by rw [hsr, hme]; exact (h.ok.file i hi).2.1
  have HD := Lib.hid hd
  rw [hd, ← hsr, ← htm] at i2
  rw [hd] at i3
  have I1 := Lib.hid i1
  have I2 := Lib.hid i2
  have I3 := Lib.hid i3
  have H := Lib.hid h
  have HF := Lib.hid hf
  have HI := Lib.hid hi
  have HM := Lib.hid hme
  have HSR := Lib.hid hsr
  have HTM := Lib.hid htm
  have Q1 := Lib.hid q1
  have HIG : Hid (i ≠ g) := fun e => by
    rw [e, q1] at i2
    injection i2 with i2
    injection i2 with _ i2 _
    revert i2
    decide
  obtain ⟨k, hk⟩ : ∃ k, k = sr + min (max tail 0).toNat (m - sr) := ⟨_, rfl⟩
  have hkm : k ≤ m := by omega
  have hcn := cuts_num sr m tail hsm hml
  rw [← hk] at hcn
  have HCN := Lib.hid hcn
  have HK := Lib.hid hk
  have HKM := Lib.hid hkm
  have HML := Lib.hid hml
  have HCK : Hid (D.clock ≤ 1000000000) := by show _ ≤ _; have := h.ok.clock; omega
  have Z0 := Lib.hid (blk_cell i2 0)
  have Z1 := Lib.hid (blk_cell i2 1)
  have HSL := Lib.hid (slice_cut B m bp k (by omega))
  clear h hf hi i1 i2 i3 hd hme hsr htm q1 hml hsm hk hcn
  go_enter Tryz.func44, Tryz.ntmps44
  go_upto_region 0 with (fail)
  --S1
  refine start_ (n := 19) (S := fun w' => w'.cell? ⟨i, 0, none⟩ = some (.slice B m bp) ∧ w'.cell? ⟨i, 1, none⟩ = some (.int .i64 (sr : Int))) (ds := []) #[false, false, false, false, false, false, false, false, false, false, false, false, false, false, false, false, false, false, false] (by kernel_rfl) rfl rfl ⟨Z0.out, Z1.out⟩ (fun hHeld => ?_)
  refine pure_ (i := 0) (N := some 7) (v := ?_) (a' := ?_) #[true, false, false, false, false, false, false, false, false, false, false, false, false, false, false, false, false, false, false] rfl rfl (by kernel_rfl) (fun _ _ _ h => h) (Or.inl ⟨by rfl, ?_⟩) ?_ ?_
  rotate_left
  · intro w'
    go_simp
    with_reducible rfl
  rotate_left
  · simp only [Act.put, List.setIfInBounds_toArray, List.set_cons_zero, List.set_cons_succ, i64_w, i32_w]
    rfl
  refine pure_ (i := 1) (N := some 8) (v := ?_) (a' := ?_) #[true, true, false, false, false, false, false, false, false, false, false, false, false, false, false, false, false, false, false] rfl rfl (by kernel_rfl) (fun _ _ _ h => h) (Or.inl ⟨by rfl, ?_⟩) ?_ ?_
  rotate_left
  · intro w'
    go_simp
    with_reducible rfl
  rotate_left
  · simp only [Act.put, List.setIfInBounds_toArray, List.set_cons_zero, List.set_cons_succ, i64_w, i32_w]
    rfl
  refine pure_ (i := 2) (N := some 9) (v := ?_) (a' := ?_) #[true, true, true, false, false, false, false, false, false, false, false, false, false, false, false, false, false, false, false] rfl rfl (by kernel_rfl) (fun _ _ _ h => h) (Or.inl ⟨by rfl, ?_⟩) ?_ ?_
  rotate_left
  · intro w'
    go_simp
    with_reducible rfl
  rotate_left
  · simp only [Act.put, List.setIfInBounds_toArray, List.set_cons_zero, List.set_cons_succ, i64_w, i32_w]
    rfl
  refine pure_ (i := 4) (N := some 11) (v := ?_) (a' := ?_) #[true, true, true, false, true, false, false, false, false, false, false, false, false, false, false, false, false, false, false] rfl rfl (by kernel_rfl) (fun _ _ _ h => h) (Or.inl ⟨by rfl, ?_⟩) ?_ ?_
  rotate_left
  · intro w'
    go_simp
    with_reducible rfl
  rotate_left
  · simp only [Act.put, List.setIfInBounds_toArray, List.set_cons_zero, List.set_cons_succ, i64_w, i32_w]
    rfl
  refine pure_ (i := 5) (N := some 12) (v := ?_) (a' := ?_) #[true, true, true, false, true, true, false, false, false, false, false, false, false, false, false, false, false, false, false] rfl rfl (by kernel_rfl) (fun _ _ _ h => h) (Or.inl ⟨by rfl, ?_⟩) ?_ ?_
  rotate_left
  · intro w'
    go_simp
    with_reducible rfl
  rotate_left
  · simp only [Act.put, List.setIfInBounds_toArray, List.set_cons_zero, List.set_cons_succ, i64_w, i32_w]
    rfl
  refine pure_ (i := 6) (N := some 13) (v := ?_) (a' := ?_) #[true, true, true, false, true, true, true, false, false, false, false, false, false, false, false, false, false, false, false] rfl rfl (by kernel_rfl) (fun _ _ _ h => h) (Or.inl ⟨by rfl, ?_⟩) ?_ ?_
  rotate_left
  · intro w'
    go_simp
    with_reducible rfl
  rotate_left
  · simp only [Act.put, List.setIfInBounds_toArray, List.set_cons_zero, List.set_cons_succ, i64_w, i32_w]
    rfl
  refine pure_ (i := 7) (N := some 14) (v := ?_) (a' := ?_) #[true, true, true, false, true, true, true, true, false, false, false, false, false, false, false, false, false, false, false] rfl rfl (by kernel_rfl) (fun _ _ _ h => h) (Or.inl ⟨by rfl, ?_⟩) ?_ ?_
  rotate_left
  · intro w'
    go_simp
    with_reducible rfl
  rotate_left
  · simp only [Act.put, List.setIfInBounds_toArray, List.set_cons_zero, List.set_cons_succ, i64_w, i32_w]
    rfl
  refine pure_ (i := 8) (N := some 15) (v := ?_) (a' := ?_) #[true, true, true, false, true, true, true, true, true, false, false, false, false, false, false, false, false, false, false] rfl rfl (by kernel_rfl) (fun _ _ _ h => h) (Or.inl ⟨by rfl, ?_⟩) ?_ ?_
  rotate_left
  · intro w'
    go_simp
    with_reducible rfl
  rotate_left
  · simp only [Act.put, List.setIfInBounds_toArray, List.set_cons_zero, List.set_cons_succ, i64_w, i32_w]
    rfl
  refine pure_ (i := 11) (N := some 18) (v := ?_) (a' := ?_) #[true, true, true, false, true, true, true, true, true, false, false, true, false, false, false, false, false, false, false] rfl rfl (by kernel_rfl) (fun _ _ _ h => h) (Or.inl ⟨by rfl, ?_⟩) ?_ ?_
  rotate_left
  · intro w'
    go_simp
    with_reducible rfl
  rotate_left
  · simp only [Act.put, List.setIfInBounds_toArray, List.set_cons_zero, List.set_cons_succ, i64_w, i32_w]
    rfl
  refine pure_ (i := 12) (N := some 19) (v := ?_) (a' := ?_) #[true, true, true, false, true, true, true, true, true, false, false, true, true, false, false, false, false, false, false] rfl rfl (by kernel_rfl) (fun _ _ _ h => h) (Or.inl ⟨by rfl, ?_⟩) ?_ ?_
  rotate_left
  · intro w'
    go_simp
    with_reducible rfl
  rotate_left
  · simp only [Act.put, List.setIfInBounds_toArray, List.set_cons_zero, List.set_cons_succ, i64_w, i32_w]
    rfl
  refine pure_ (i := 13) (N := some 20) (v := ?_) (a' := ?_) #[true, true, true, false, true, true, true, true, true, false, false, true, true, true, false, false, false, false, false] rfl rfl (by kernel_rfl) (fun _ _ _ h => h) (Or.inl ⟨by rfl, ?_⟩) ?_ ?_
  rotate_left
  · intro w'
    go_simp
    with_reducible rfl
  rotate_left
  · simp only [Act.put, List.setIfInBounds_toArray, List.set_cons_zero, List.set_cons_succ, i64_w, i32_w]
    rfl
  refine take_ (i := 3) (N := some 10) (v := ?_) (a' := ?_) #[true, true, true, true, true, true, true, true, true, false, false, true, true, true, false, false, false, false, false] rfl rfl (by kernel_rfl) (fun _ _ _ h => h) (Or.inl ⟨by rfl, ?_⟩) hHeld ?_ ?_
  rotate_left
  · rintro w' ⟨s0, s1⟩
    go_simp
    with_reducible rfl
  rotate_left
  · simp only [Act.put, List.setIfInBounds_toArray, List.set_cons_zero, List.set_cons_succ, i64_w, i32_w]
    rfl
  refine take_ (i := 9) (N := some 16) (v := ?_) (a' := ?_) #[true, true, true, true, true, true, true, true, true, true, false, true, true, true, false, false, false, false, false] rfl rfl (by kernel_rfl) (fun _ _ _ h => h) (Or.inl ⟨by rfl, ?_⟩) hHeld ?_ ?_
  rotate_left
  · rintro w' ⟨s0, s1⟩
    go_simp
    with_reducible rfl
  rotate_left
  · simp only [Act.put, List.setIfInBounds_toArray, List.set_cons_zero, List.set_cons_succ, i64_w, i32_w]
    rfl
  refine pure_ (i := 10) (N := some 17) (v := ?_) (a' := ?_) #[true, true, true, true, true, true, true, true, true, true, true, true, true, true, false, false, false, false, false] rfl rfl (by kernel_rfl) (fun _ _ _ h => h) (Or.inl ⟨by rfl, ?_⟩) ?_ ?_
  rotate_left
  · intro w'
    go_simp
    with_reducible rfl
  rotate_left
  · simp only [Act.put, List.setIfInBounds_toArray, List.set_cons_zero, List.set_cons_succ, i64_w, i32_w]
    rfl
  refine take_ (i := 14) (N := some 21) (v := ?_) (a' := ?_) #[true, true, true, true, true, true, true, true, true, true, true, true, true, true, true, false, false, false, false] rfl rfl (by kernel_rfl) (fun _ _ _ h => h) (Or.inl ⟨by rfl, ?_⟩) hHeld ?_ ?_
  rotate_left
  · rintro w' ⟨s0, s1⟩
    go_simp
    with_reducible rfl
  rotate_left
  · simp only [Act.put, List.setIfInBounds_toArray, List.set_cons_zero, List.set_cons_succ, i64_w, i32_w]
    rfl
  refine pure_ (i := 15) (N := some 22) (v := ?_) (a' := ?_) #[true, true, true, true, true, true, true, true, true, true, true, true, true, true, true, true, false, false, false] rfl rfl (by kernel_rfl) (fun _ _ _ h => h) (Or.inl ⟨by rfl, ?_⟩) ?_ ?_
  rotate_left
  · intro w'
    go_simp
    with_reducible rfl
  rotate_left
  · simp only [Act.put, List.setIfInBounds_toArray, List.set_cons_zero, List.set_cons_succ, i64_w, i32_w]
    rfl
  refine pure_ (i := 16) (N := some 23) (v := ?_) (a' := ?_) #[true, true, true, true, true, true, true, true, true, true, true, true, true, true, true, true, true, false, false] rfl rfl (by kernel_rfl) (fun _ _ _ h => h) (Or.inl ⟨by rfl, ?_⟩) ?_ ?_
  rotate_left
  · intro w'
    go_simp
    with_reducible rfl
  rotate_left
  · simp only [Act.put, List.setIfInBounds_toArray, List.set_cons_zero, List.set_cons_succ, i64_w, i32_w]
    rfl
  refine pure_ (i := 17) (N := some 24) (v := ?_) (a' := ?_) #[true, true, true, true, true, true, true, true, true, true, true, true, true, true, true, true, true, true, false] rfl rfl (by kernel_rfl) (fun _ _ _ h => h) (Or.inl ⟨by rfl, ?_⟩) ?_ ?_
  rotate_left
  · intro w'
    go_simp
    with_reducible rfl
  rotate_left
  · simp only [Act.put, List.setIfInBounds_toArray, List.set_cons_zero, List.set_cons_succ, i64_w, i32_w]
    rfl
  refine pure_ (i := 18) (N := some 6) (v := ?_) (a' := ?_) #[true, true, true, true, true, true, true, true, true, true, true, true, true, true, true, true, true, true, true] rfl rfl (by kernel_rfl) (fun _ _ _ h => h) (Or.inl ⟨by rfl, ?_⟩) ?_ ?_
  rotate_left
  · intro w'
    go_simp
    with_reducible rfl
  rotate_left
  · simp only [Act.put, List.setIfInBounds_toArray, List.set_cons_zero, List.set_cons_succ, i64_w, i32_w]
    rfl
  refine done_ (by kernel_rfl) ?_
  --S2
  clear hHeld
  rw [HCN.out]
  obtain ⟨W, hW⟩ : ∃ W, W = w.drew := ⟨_, rfl⟩
  rw [← hW]
  have W0 := Lib.hid ((show W.heap[i]? = w.heap[i]? from by rw [hW]; rfl).trans I2.out)
  have WG := Lib.hid ((show W.heap[g]? = w.heap[g]? from by rw [hW]; rfl).trans Q1.out)
  have WGD : Hid (W.drew.heap[g]? = some (.cells (dcells D ms ms vp) 80 (0, 0))) := WG.out
  have HWD : Hid (Mid ms vp S c W g D) := by rw [hW]; exact H.out.move (fun _ _ => rfl)
  have HWF : Hid (FilesAt S W D dv) := by rw [hW]; exact HF.out.move (fun _ _ => rfl)
  have HWI3 : Hid (Dat S W (.slice B m bp) (D.fs i).b) := by rw [hW]; exact I3.out.move (fun _ _ => rfl)
  have HFW : Hid (Foot S w W ∧ W.heap.size = w.heap.size) := by rw [hW]; exact ⟨Foot.drew (Foot.refl _ _), rfl⟩
  clear hW Z0 Z1 HCN
  have c0 := blk_cell W0.out 0
  have c1 := blk_cell W0.out 1
  have f1 := blk_frozen W0.out 1
  by_cases d : k < m
  · have b1 : decide ((k : Int) < (m : Int)) = true := decide_eq_true (by omega)
    have b1' : decide (k < m) = true := decide_eq_true d
    have HKL := Lib.hid d
    have hsl := HSL.out
    have Y0 := Lib.hid c0
    clear d c1 f1
    go_upto_region 2 with (fail)
    clear b1 b1' c0
    --S3
    refine start_ (n := 17) (S := fun w' => w'.cell? ⟨i, 0, none⟩ = some (.slice B m bp)) (ds := [13, 16]) #[false, false, false, false, false, false, false, false, false, false, false, false, false, false, false, false, false] (by kernel_rfl) rfl rfl (Y0.out) (fun hHeld => ?_)
    refine pure_ (i := 0) (N := some 32) (v := ?_) (a' := ?_) #[true, false, false, false, false, false, false, false, false, false, false, false, false, false, false, false, false] rfl rfl (by kernel_rfl) (fun _ _ _ h => h) (Or.inl ⟨by rfl, ?_⟩) ?_ ?_
    rotate_left
    · intro w'
      go_simp
      with_reducible rfl
    rotate_left
    · simp only [Act.put, List.setIfInBounds_toArray, List.set_cons_zero, List.set_cons_succ, i64_w, i32_w]
      rfl
    refine pure_ (i := 1) (N := some 33) (v := ?_) (a' := ?_) #[true, true, false, false, false, false, false, false, false, false, false, false, false, false, false, false, false] rfl rfl (by kernel_rfl) (fun _ _ _ h => h) (Or.inl ⟨by rfl, ?_⟩) ?_ ?_
    rotate_left
    · intro w'
      go_simp
      with_reducible rfl
    rotate_left
    · simp only [Act.put, List.setIfInBounds_toArray, List.set_cons_zero, List.set_cons_succ, i64_w, i32_w]
      rfl
    refine pure_ (i := 2) (N := some 34) (v := ?_) (a' := ?_) #[true, true, true, false, false, false, false, false, false, false, false, false, false, false, false, false, false] rfl rfl (by kernel_rfl) (fun _ _ _ h => h) (Or.inl ⟨by rfl, ?_⟩) ?_ ?_
    rotate_left
    · intro w'
      go_simp
      with_reducible rfl
    rotate_left
    · simp only [Act.put, List.setIfInBounds_toArray, List.set_cons_zero, List.set_cons_succ, i64_w, i32_w]
      rfl
    refine pure_ (i := 3) (N := some 35) (v := ?_) (a' := ?_) #[true, true, true, true, false, false, false, false, false, false, false, false, false, false, false, false, false] rfl rfl (by kernel_rfl) (fun _ _ _ h => h) (Or.inl ⟨by rfl, ?_⟩) ?_ ?_
    rotate_left
    · intro w'
      go_simp
      with_reducible rfl
    rotate_left
    · simp only [Act.put, List.setIfInBounds_toArray, List.set_cons_zero, List.set_cons_succ, i64_w, i32_w]
      rfl
    refine pure_ (i := 4) (N := some 36) (v := ?_) (a' := ?_) #[true, true, true, true, true, false, false, false, false, false, false, false, false, false, false, false, false] rfl rfl (by kernel_rfl) (fun _ _ _ h => h) (Or.inl ⟨by rfl, ?_⟩) ?_ ?_
    rotate_left
    · intro w'
      go_simp
      with_reducible rfl
    rotate_left
    · simp only [Act.put, List.setIfInBounds_toArray, List.set_cons_zero, List.set_cons_succ, i64_w, i32_w]
      rfl
    refine pure_ (i := 6) (N := some 38) (v := ?_) (a' := ?_) #[true, true, true, true, true, false, true, false, false, false, false, false, false, false, false, false, false] rfl rfl (by kernel_rfl) (fun _ _ _ h => h) (Or.inl ⟨by rfl, ?_⟩) ?_ ?_
    rotate_left
    · intro w'
      go_simp
      with_reducible rfl
    rotate_left
    · simp only [Act.put, List.setIfInBounds_toArray, List.set_cons_zero, List.set_cons_succ, i64_w, i32_w]
      rfl
    refine pure_ (i := 7) (N := some 39) (v := ?_) (a' := ?_) #[true, true, true, true, true, false, true, true, false, false, false, false, false, false, false, false, false] rfl rfl (by kernel_rfl) (fun _ _ _ h => h) (Or.inl ⟨by rfl, ?_⟩) ?_ ?_
    rotate_left
    · intro w'
      go_simp
      with_reducible rfl
    rotate_left
    · simp only [Act.put, List.setIfInBounds_toArray, List.set_cons_zero, List.set_cons_succ, i64_w, i32_w]
      rfl
    refine pure_ (i := 9) (N := some 41) (v := ?_) (a' := ?_) #[true, true, true, true, true, false, true, true, false, true, false, false, false, false, false, false, false] rfl rfl (by kernel_rfl) (fun _ _ _ h => h) (Or.inl ⟨by rfl, ?_⟩) ?_ ?_
    rotate_left
    · intro w'
      go_simp
      with_reducible rfl
    rotate_left
    · simp only [Act.put, List.setIfInBounds_toArray, List.set_cons_zero, List.set_cons_succ, i64_w, i32_w]
      rfl
    refine take_ (i := 5) (N := some 37) (v := ?_) (a' := ?_) #[true, true, true, true, true, true, true, true, false, true, false, false, false, false, false, false, false] rfl rfl (by kernel_rfl) (fun _ _ _ h => h) (Or.inl ⟨by rfl, ?_⟩) hHeld ?_ ?_
    rotate_left
    · intro w' s0
      go_simp
      with_reducible rfl
    rotate_left
    · simp only [Act.put, List.setIfInBounds_toArray, List.set_cons_zero, List.set_cons_succ, i64_w, i32_w]
      rfl
    refine pure_ (i := 8) (N := some 40) (v := ?_) (a' := ?_) #[true, true, true, true, true, true, true, true, true, true, false, false, false, false, false, false, false] rfl rfl (by kernel_rfl) (fun _ _ _ h => h) (Or.inl ⟨by rfl, ?_⟩) ?_ ?_
    rotate_left
    · intro w'
      go_simp
      with_reducible rfl
    rotate_left
    · simp only [Act.put, List.setIfInBounds_toArray, List.set_cons_zero, List.set_cons_succ, i64_w, i32_w]
      rfl
    refine one_ (i := 10) (N := some 42) #[true, true, true, true, true, true, true, true, true, true, true, false, false, false, false, false, false] rfl rfl (by kernel_rfl) (by decide) (fun K hK => ?_)
    refine goes_ Tryz.func64 (by kernel_rfl) rfl #[.pointer (some ⟨g, 0, none⟩)] (by rfl) rfl rfl (by first | (simp only [List.map_toArray, List.map_cons, List.map_nil]; done) | (simp only [List.map_toArray, List.map_cons, List.map_nil]; rfl) | rfl) ?_
    with_reducible refine (tick_raw g ms ms vp D _ WGD.out HCK.out).mono ?_
    rintro e w4 ⟨rfl, hw4⟩
    refine ⟨_, rfl, ?_⟩
    have k0 := (show w4.heap[i]? = W.heap[i]? from by rw [hw4]; exact Below.heap_setCell _ _ _ _ (by show i ≠ g; exact HIG.out)).trans W0.out
    have HW4 : Hid (w4 = W.drew.setCell ⟨g, 1, none⟩ (.int .i64 ((D.clock : Int) + 1))) := hw4
    have K0 := Lib.hid k0
    clear hw4
    refine hK.out _ _ (blk_cell k0 0) (fun hHeld => ?_)
    clear hK K
    refine norm_ (a' := ?_) ?_ ?_
    rotate_left
    · show Act.put _ (some 42) _ = _
      simp only [Act.put, List.setIfInBounds_toArray, List.set_cons_zero, List.set_cons_succ, i64_w, i32_w]
      rfl
    refine pure_ (i := 11) (N := some 43) (v := ?_) (a' := ?_) #[true, true, true, true, true, true, true, true, true, true, true, true, false, false, false, false, false] rfl rfl (by kernel_rfl) (fun _ _ _ h => h) (Or.inl ⟨by rfl, ?_⟩) ?_ ?_
    rotate_left
    · intro w'
      go_simp
      with_reducible rfl
    rotate_left
    · simp only [Act.put, List.setIfInBounds_toArray, List.set_cons_zero, List.set_cons_succ, i64_w, i32_w]
      rfl
    refine pure_ (i := 12) (N := some 44) (v := ?_) (a' := ?_) #[true, true, true, true, true, true, true, true, true, true, true, true, true, false, false, false, false] rfl rfl (by kernel_rfl) (fun _ _ _ h => h) (Or.inl ⟨by rfl, ?_⟩) ?_ ?_
    rotate_left
    · intro w'
      go_simp
      with_reducible rfl
    rotate_left
    · simp only [Act.put, List.setIfInBounds_toArray, List.set_cons_zero, List.set_cons_succ, i64_w, i32_w]
      rfl
    refine last_ (i := 13) (N := none) #[true, true, true, true, true, true, true, true, true, true, true, true, true, true, false, false, false] rfl rfl (by kernel_rfl) (by decide) (fun K hK => ?_)
    have f0 := blk_frozen k0 0
    have m0 := blk_cell k0 0
    refine skip_ (w1 := ?_) (by rfl) rfl ?_ ?_
    rotate_left
    · go_simp
      rfl
    clear f0 m0
    have k4 := blk_set k0 0 (.slice B k k)
    refine hK.out _ _ ?_
    clear hK K
    refine pure_ (i := 14) (N := some 45) (v := ?_) (a' := ?_) #[true, true, true, true, true, true, true, true, true, true, true, true, true, true, true, false, false] rfl rfl (by kernel_rfl) (fun _ _ _ h => h) (Or.inl ⟨by rfl, ?_⟩) ?_ ?_
    rotate_left
    · intro w'
      go_simp
      with_reducible rfl
    rotate_left
    · simp only [Act.put, List.setIfInBounds_toArray, List.set_cons_zero, List.set_cons_succ, i64_w, i32_w]
      rfl
    refine pure_ (i := 15) (N := some 46) (v := ?_) (a' := ?_) #[true, true, true, true, true, true, true, true, true, true, true, true, true, true, true, true, false] rfl rfl (by kernel_rfl) (fun _ _ _ h => h) (Or.inl ⟨by rfl, ?_⟩) ?_ ?_
    rotate_left
    · intro w'
      go_simp
      with_reducible rfl
    rotate_left
    · simp only [Act.put, List.setIfInBounds_toArray, List.set_cons_zero, List.set_cons_succ, i64_w, i32_w]
      rfl
    refine last_ (i := 16) (N := none) #[true, true, true, true, true, true, true, true, true, true, true, true, true, true, true, true, true] rfl rfl (by kernel_rfl) (by decide) (fun K hK => ?_)
    have f1 := blk_frozen k4 2
    have m1 := blk_cell k4 2
    refine skip_ (w1 := ?_) (by rfl) rfl ?_ ?_
    rotate_left
    · go_simp
      rfl
    clear f1 m1
    have k5 := blk_set k4 2 (.int .i64 (D.clock : Int))
    refine hK.out _ _ ?_
    clear hK K
    refine done_ (by kernel_rfl) ?_
    --S4
    have x0 := blk_cell k5 0
    have x1 := blk_cell k5 1
    have y1 := blk_frozen k5 1
    clear hHeld hsl k0 k4
    have K5 := Lib.hid k5
    clear k5
    go_wp2
    go_end0
    --S5
    obtain ⟨w9, hw9⟩ : ∃ w9, w9 = ((w4.setCell ⟨i, 0, none⟩ (.slice B k k)).setCell ⟨i, 2, none⟩ (.int .i64 (D.clock : Int))).setCell ⟨i, 1, none⟩ (.int .i64 (k : Int)) := ⟨_, rfl⟩
    rw [← hw9]
    have hgk : ∀ q cells t, (t = 5 ∨ t = 74) → W.heap[q]? = some (.cells cells t (0, 0)) → q ≠ g := fun q cells t ht hq e => by
      rw [e, WG.out] at hq
      injection hq with hq
      injection hq with _ hq _
      rcases ht with rfl | rfl <;> revert hq <;> decide
    have hk4 : ∀ q, q ≠ g → w4.heap[q]? = W.heap[q]? := fun q hq => by rw [HW4.out]; exact Below.heap_setCell _ _ _ _ hq
    have hz4 : w4.heap.size = W.heap.size := by rw [HW4.out]; simp
    have hd4 : Mid ms vp S (c + 1) w4 g (tickV D) := by
      rw [HW4.out]
      exact (HWD.out.move (fun _ _ => rfl) : Mid ms vp S c W.drew g D).turn (D' := tickV D) (fun k _ hk => Below.heap_setCell _ _ _ _ hk) (by simp) ((blk_set WGD.out 1 _).trans rfl) rfl rfl rfl rfl HWD.out.ok.tick
    have hf2 : FilesAt S w4 (tickV D) dv := FilesAt.keep (w := W) HWF.out (fun q cells t _ ht hq => hk4 q (hgk q cells t ht hq))
    obtain ⟨_, _, i3⟩ := hf2.1 i HI.out
    rw [HD.out] at i3
    have hz9 : w9.heap.size = w4.heap.size := by rw [hw9]; simp
    have hk9 : ∀ q, q ≠ i → w9.heap[q]? = w4.heap[q]? := fun q hq => by
      rw [hw9]
      exact (Below.heap_setCell _ _ _ _ hq).trans ((Below.heap_setCell _ _ _ _ hq).trans (Below.heap_setCell _ _ _ _ hq))
    have hb9 : w9.heap[i]? = some (.cells #[.slice B k k, .int .i64 (k : Int), .int .i64 (D.clock : Int)] 74 (0, 0)) := by
      rw [hw9]
      exact (blk_set K5.out 1 _).trans rfl
    obtain ⟨fd, hfd⟩ : ∃ fd : FileV, fd = ⟨(D.fs i).b.take k, k, D.clock⟩ := ⟨_, rfl⟩
    have hln : ((D.fs i).b.take k).length = k := by rw [List.length_take, ← HM.out]; have := HKM.out; omega
    have hok : MidOk (c + 1) { tickV D with fs := upd D.fs i fd } := hd4.ok.setFile (by
      have h1 := H.out.ok.file i HI.out
      rw [hfd]
      refine ⟨?_, ?_, H.out.ok.clock1, Nat.lt_succ_self _⟩
      · show ((D.fs i).b.take k).length ≤ _
        rw [hln]; have := HKM.out; have := HML.out; omega
      · show k ≤ ((D.fs i).b.take k).length
        rw [hln]; exact Nat.le_refl _)
    have hfin := hd4.fileTurn (w' := w9) (v' := .slice B k k) (f := fd) hf2 HI.out (Nat.le_of_eq hz9.symm) (fun q _ hq _ => hk9 q hq) (by rw [hb9, hfd]) (by
      rw [hfd]
      refine (dat_keep2 (dat_cut i3 HM.out HKM.out) (fun q hq => hk9 q (fun e => ?_))).mono (fun q hq => .inl hq)
      obtain ⟨cells, hcl⟩ := dat_typed (dat_cut i3 HM.out HKM.out) hq
      rw [e, hk4 i HIG.out, W0.out] at hcl
      injection hcl with hcl
      injection hcl with _ hcl _
      revert hcl
      decide) (fun q hq => .inl (by rw [HD.out]; cases B <;> exact hq)) hok
    have hft : Foot S w w9 := by
      refine HFW.out.1.trans ?_
      rw [hw9, HW4.out]
      exact (((Foot.drew (Foot.refl S W)).setCell H.out.sg 1 _).setCell I1.out 0 _ |>.setCell I1.out 2 _).setCell I1.out 1 _
    have hzw : w9.heap.size = w.heap.size := by rw [hz9, hz4]; exact HFW.out.2
    refine ⟨rfl, ?_, hft, hzw⟩
    have hcv : cutsV D i tail = { tickV D with fs := upd D.fs i fd } := by
      unfold cutsV
      simp only
      rw [← HSR.out, ← HM.out, ← HK.out, if_pos HKL.out, hfd]
      rfl
    rw [hcv]
    exact hfin.mono (fun q hq => hq.elim id (fun h => by omega)) (fun q hq => Nat.lt_of_lt_of_le (H.out.lt q hq) hft.size)
  · have b1 : decide ((k : Int) < (m : Int)) = false := decide_eq_false (by omega)
    have b1' : decide (k < m) = false := decide_eq_false d
    have HKL := Lib.hid d
    clear d
    go_wp2
    go_end0
    obtain ⟨w9, hw9⟩ : ∃ w9, w9 = W.setCell ⟨i, 1, none⟩ (.int .i64 (m : Int)) := ⟨_, rfl⟩
    rw [← hw9]
    have hz9 : w9.heap.size = W.heap.size := by rw [hw9]; simp
    have hk9 : ∀ q, q ≠ i → w9.heap[q]? = W.heap[q]? := fun q hq => by rw [hw9]; exact Below.heap_setCell _ _ _ _ hq
    have hb9 : w9.heap[i]? = some (.cells #[.slice B m bp, .int .i64 (m : Int), .int .i64 (tm : Int)] 74 (0, 0)) := by
      rw [hw9]
      exact (blk_set W0.out 1 _).trans rfl
    obtain ⟨fd, hfd⟩ : ∃ fd : FileV, fd = ⟨(D.fs i).b, (D.fs i).b.length, (D.fs i).time⟩ := ⟨_, rfl⟩
    have hok : MidOk c { D with fs := upd D.fs i fd } := HWD.out.ok.setFile (by
      have h1 := H.out.ok.file i HI.out
      rw [hfd]
      exact ⟨h1.1, Nat.le_refl _, h1.2.2⟩)
    have hfin := HWD.out.fileTurn (w' := w9) (v' := .slice B m bp) (f := fd) HWF.out HI.out (Nat.le_of_eq hz9.symm) (fun q _ hq _ => hk9 q hq) (by rw [hb9, hfd, HM.out, HTM.out]) (by
      rw [hfd]
      refine (dat_keep2 HWI3.out (fun q hq => hk9 q (fun e => ?_))).mono (fun q hq => .inl hq)
      obtain ⟨cells, hcl⟩ := dat_typed HWI3.out hq
      rw [e, W0.out] at hcl
      injection hcl with hcl
      injection hcl with _ hcl _
      revert hcl
      decide) (fun q hq => .inl (by rw [HD.out]; exact hq)) hok
    have hft : Foot S w w9 := by
      refine HFW.out.1.trans ?_
      rw [hw9]
      exact (Foot.refl S W).setCell I1.out 1 _
    have hzw : w9.heap.size = w.heap.size := by rw [hz9]; exact HFW.out.2
    refine ⟨rfl, ?_, hft, hzw⟩
    have hcv : cutsV D i tail = { D with fs := upd D.fs i fd } := by
      unfold cutsV
      simp only
      rw [← HSR.out, ← HM.out, ← HK.out, if_neg HKL.out, hfd, HM.out]
    rw [hcv]
    exact (hfin.mono (fun q hq => hq.elim id (fun h => by omega)) (fun q hq => Nat.lt_of_lt_of_le (H.out.lt q hq) hft.size)).more (by omega)
end Go.Proofs.YtononoakdebjeaaGreatDoor.Dk
