/- disk.Write (walks); disk.there, what it hands back, and Sync, Remove, Rename (walks); A file of a disk turns, in memory; disk.Sync, Remove, Rename (walks); disk.Remove, Rename (walks). -/
import Derived.Test.YtononoakdebjeaaGreatDoorDkDeed
namespace Go.Proofs.YtononoakdebjeaaGreatDoor.Dk
open Go.RowKit Go.Proofs.YtononoakdebjeaaGreatDoorW.PrintWords Go.Proofs.YtononoakdebjeaaGreatDoorW.PrintLast Go.Proofs.YtononoakdebjeaaGreatDoor.Base Go.Proofs.YtononoakdebjeaaGreatDoor.Path Go.Maps
set_option linter.unusedVariables false
set_option linter.unusedSimpArgs false
theorem foot_blk {T : Nat → Prop} {w W : World} {k : Nat} {o : Obj} (h : Foot T w W) (hk : w.heap[k]? = some o) (hn : ¬ T k) : W.heap[k]? = some o := (h.block k (blk_lt hk) hn).trans hk
theorem deedP_from {S : Nat → Prop} {c g : Nat} {D : DiskV} {ok : Bool} {body : DiskV → DiskV → Nat → Prop} {w W w' : World} {e : Ending} (hb : Below w.heap.size w W) (hl : ∀ k, S k → k < w.heap.size) (h : DeedP S c g D ok body W e w') : DeedP S c g D ok body w e w' := by
  obtain ⟨D', k, h1, h2, h3, h4⟩ := h
  have hf : Foot S w w' := (Foot.of_below hb).trans h4
  refine ⟨D', k, h1, h2.mono (fun q hq => ?_) (fun q hq => ?_), h3, hf⟩
  · rcases hq with hq | hq
    · exact .inl hq
    · exact .inr ⟨Nat.le_trans hb.size hq.1, hq.2⟩
  · rcases hq with hq | hq
    · exact Nat.lt_of_lt_of_le (hl q hq) hf.size
    · exact hq.2
theorem ss_one {w : World} {k : Nat} {s : ByteArray} {t : TypeId} (h : w.heap[k]? = some (.cells #[.string s] t (0, 0))) : Ss w (.slice (some ⟨k, 0, none⟩) 1 1) [s] :=
  ⟨some ⟨k, 0, none⟩, 1, rfl, Nat.le_refl _, by simp, fun _ => ⟨⟨k, 0, none⟩, rfl, fun i hi => by
    obtain rfl : i = 0 := by simp at hi; omega
    exact blk_cell h 0⟩⟩
theorem ss_two {w : World} {k : Nat} {s r : ByteArray} {t : TypeId} (h : w.heap[k]? = some (.cells #[.string s, .string r] t (0, 0))) : Ss w (.slice (some ⟨k, 0, none⟩) 2 2) [s, r] :=
  ⟨some ⟨k, 0, none⟩, 2, rfl, Nat.le_refl _, by simp, fun _ => ⟨⟨k, 0, none⟩, rfl, fun i hi => by
    have hi : i < 2 := hi
    rcases (by omega : i = 0 ∨ i = 1) with rfl | rfl
    · exact blk_cell h 0
    · exact blk_cell h 1⟩⟩
theorem alloc_at (w : World) (o : Obj) {x : Nat} (hx : w.heap.size = x) : (w.alloc o).heap[x]? = some o := by rw [← hx]; exact World.alloc_heap_new w o
theorem alloc_old {w : World} {k : Nat} {p : Obj} (h : w.heap[k]? = some p) (o : Obj) : (w.alloc o).heap[k]? = some p := ((below_alloc (Below.refl _ _) o).block k (blk_lt h)).trans h
theorem alloc_size (w : World) (o : Obj) {x : Nat} (hx : w.heap.size = x) : (w.alloc o).heap.size = x + 1 := by rw [World.size_alloc, hx]
theorem allocs2 (w : World) (a b : Obj) {x : Nat} (hx : w.heap.size = x) : ((w.alloc a).alloc b).heap[x]? = some a ∧ ((w.alloc a).alloc b).heap[x + 1]? = some b ∧ ((w.alloc a).alloc b).heap.size = x + 2 ∧ Below w.heap.size w ((w.alloc a).alloc b) :=
  ⟨alloc_old (alloc_at w a hx) b, alloc_at _ b (alloc_size w a hx), alloc_size _ b (alloc_size w a hx), below_alloc (below_alloc (Below.refl _ _) _) _⟩
theorem allocs3 (w : World) (a b c : Obj) {x : Nat} (hx : w.heap.size = x) : (((w.alloc a).alloc b).alloc c).heap[x]? = some a ∧ (((w.alloc a).alloc b).alloc c).heap[x + 1]? = some b ∧ (((w.alloc a).alloc b).alloc c).heap[x + 2]? = some c ∧ (((w.alloc a).alloc b).alloc c).heap.size = x + 3 ∧ Below w.heap.size w (((w.alloc a).alloc b).alloc c) := by
  obtain ⟨h1, h2, h3, h4⟩ := allocs2 w a b hx
  exact ⟨alloc_old h1 c, alloc_old h2 c, alloc_at _ c h3, alloc_size _ c h3, below_alloc h4 _⟩
theorem allocs4 (w : World) (a b c d : Obj) {x : Nat} (hx : w.heap.size = x) : ((((w.alloc a).alloc b).alloc c).alloc d).heap[x]? = some a ∧ ((((w.alloc a).alloc b).alloc c).alloc d).heap[x + 1]? = some b ∧ ((((w.alloc a).alloc b).alloc c).alloc d).heap[x + 2]? = some c ∧ ((((w.alloc a).alloc b).alloc c).alloc d).heap[x + 3]? = some d ∧ ((((w.alloc a).alloc b).alloc c).alloc d).heap.size = x + 4 ∧ Below w.heap.size w ((((w.alloc a).alloc b).alloc c).alloc d) := by
  obtain ⟨h1, h2, h3, h4, h5⟩ := allocs3 w a b c hx
  exact ⟨alloc_old h1 d, alloc_old h2 d, alloc_old h3 d, alloc_at _ d h4, alloc_size _ d h4, below_alloc h5 _⟩
set_option maxHeartbeats 1000000 in
theorem write1_any (S : Nat → Prop) (c g x : Nat) (D : DiskV) (s : ByteArray) (v : Value) (xs : List Int) (w : World) (h : Dk S (c + 1) w g D) (hs : s.size ≤ maxLen) (hv : BsO S w v xs) (hl : xs.length ≤ 1000000) (hc : c ≤ 40000000)
    (h0 : w.heap[x]? = some (.cells #[.pointer (some ⟨g, 0, none⟩)] 28 (0, 0))) (h1 : w.heap[x + 1]? = some (.cells #[.string s] 9 (0, 0))) (h2 : w.heap[x + 2]? = some (.cells #[v] 23 (0, 0))) :
    BodyC S c g D 34 #[.pointer (some ⟨x, 0, none⟩), .pointer (some ⟨x + 1, 0, none⟩), .pointer (some ⟨x + 2, 0, none⟩)] (FreshR s xs) w := by
  have c0 := blk_cell h0 0
  have c1 := blk_cell h1 0
  have c2 := blk_cell h2 0
  have H := Lib.hid (fresh_any S (c + 1) g D s v xs w h hs hv hl (by omega))
  obtain ⟨A, cp, rfl, _⟩ := hv.1.len
  obtain ⟨n, hn⟩ : ∃ n, n = xs.length := ⟨_, rfl⟩
  rw [← hn] at c2 H
  clear h h0 h1 h2 hs hv hl
  unfold BodyC
  rw [show (c : Nat) + 3 = c + 1 + 2 from rfl]
  clear hn
  go_enter Tryz.func34, Tryz.ntmps34
  go_wp2_with fail
  refine H.out.mono ?_
  rintro e w5 ⟨D', k, rfl, d5, r5, f5⟩
  have HD5 := Lib.hid d5
  have HR5 := Lib.hid r5
  have HF5 := Lib.hid f5
  clear d5 r5 f5 H
  go_wp2
  go_ret
  exact ⟨D', k, rfl, HD5.out, HR5.out, HF5.out⟩
set_option maxHeartbeats 1000000 in
theorem write_any (S : Nat → Prop) (c g : Nat) (D : DiskV) (s : ByteArray) (v : Value) (xs : List Int) (w : World) (h : Dk S c w g D) (hs : s.size ≤ maxLen) (hv : BsO S w v xs) (hl : xs.length ≤ 1000000) (hc : c ≤ 40000000) :
    Calls Tryz.prog 11 #[.pointer (some ⟨g, 0, none⟩), .string s, v] w (DeedP S c g D (rightB s) (FreshR s xs) w) := by
  obtain ⟨x, hx⟩ : ∃ x, w.heap.size = x := ⟨_, rfl⟩
  have H := Lib.hid h
  have HV := Lib.hid hv
  have HS := Lib.hid hs
  have HL := Lib.hid hl
  have HX := Lib.hid hx
  obtain ⟨A, cp, rfl, _⟩ := hv.1.len
  obtain ⟨n, hn⟩ : ∃ n, n = xs.length := ⟨_, rfl⟩
  rw [← hn] at HV ⊢
  have HN := Lib.hid hn
  clear h hv hs hl hn
  go_enter Tryz.func11, Tryz.ntmps11
  go_wp2_with fail
  obtain ⟨W, hW⟩ : ∃ W, W = (((w.alloc (.cells #[.pointer (some ⟨g, 0, none⟩)] 28)).alloc (.cells #[.string s] 9)).alloc (.cells #[.slice A n cp] 23)).alloc (.cells #[.string s] 9) := ⟨_, rfl⟩
  rw [← hW]
  obtain ⟨g0, g1, g2, g3, _, hb⟩ := allocs4 w (.cells #[.pointer (some ⟨g, 0, none⟩)] 28) (.cells #[.string s] 9) (.cells #[.slice A n cp] 23) (.cells #[.string s] 9) hx
  rw [← hW] at g0 g1 g2 g3 hb
  have hgx : g < x := by rw [← hx]; exact H.out.lt g H.out.sg
  have G0 := Lib.hid g0
  have G1 := Lib.hid g1
  have G2 := Lib.hid g2
  have G3 := Lib.hid g3
  have HB := Lib.hid hb
  clear hW g0 g1 g2 g3 hb hx
  refine (deed_any S c g D 34 _ _ [s] (FreshR s xs) W (H.out.below HB.out) (fun W2 hf => ss_one (foot_blk hf G3.out (by omega))) (by simp) (fun r hr => by rw [List.mem_singleton.1 hr]; exact HS.out) (by omega) (enters_of Tryz.func34 (by kernel_rfl) rfl) (fun W2 hf hd => write1_any S c g x (countV D) s _ xs W2 hd HS.out (BsO.foot (HV.out.below HB.out) hf (fun k hk _ => by rw [hk]; exact H.out.sg)) HL.out hc (foot_blk hf G0.out (by omega)) (foot_blk hf G1.out (by omega)) (foot_blk hf G2.out (by omega)))).mono ?_
  rintro e w9 hp
  have HP := Lib.hid (deedP_from HB.out H.out.lt hp)
  obtain ⟨D', k, rfl, _⟩ := hp
  go_wp2
  go_ret
  have h := HP.out
  simp only [List.all_cons, List.all_nil, Bool.and_true] at h
  exact h
end Go.Proofs.YtononoakdebjeaaGreatDoor.Dk
namespace Go.Proofs.YtononoakdebjeaaGreatDoor.Dk
open Go.RowKit Go.Proofs.YtononoakdebjeaaGreatDoorW.PrintWords Go.Proofs.YtononoakdebjeaaGreatDoorW.PrintLast Go.Proofs.YtononoakdebjeaaGreatDoor.Base Go.Proofs.YtononoakdebjeaaGreatDoor.Path Go.Maps
set_option linter.unusedVariables false
set_option linter.unusedSimpArgs false
/-- What is done with a file in a world. -/
def FileC (S : Nat → Prop) (c g : Nat) (D : DiskV) (f : Nat) (args : Array Value) (R : DiskV → DiskV → Nat → Prop) (W : World) : Prop :=
  Calls Tryz.prog f args W fun e w' => ∃ D' k, e = .returned (.int .i64 ((k : Nat) : Int)) ∧ Dk (Sx S W w') (c + 3) w' g D' ∧ R D D' k ∧ Foot S W w'
theorem sx_drew {S : Nat → Prop} {w w' : World} {n : Nat} : Sx S (w.drewN n) w' = Sx S w w' := rfl
set_option maxHeartbeats 1000000 in
theorem there1_any (S : Nat → Prop) (c g x : Nat) (D : DiskV) (s : ByteArray) (f : Nat) (lb : Array Value) (body : Nat → DiskV → DiskV → Nat → Prop) (w : World) (h : Dk S (c + 1) w g D) (hs : s.size ≤ maxLen) (hc : c ≤ 40000000)
    (h0 : w.heap[x]? = some (.cells #[.pointer (some ⟨g, 0, none⟩)] 28 (0, 0))) (h1 : w.heap[x + 1]? = some (.cells #[.string s] 9 (0, 0))) (h2 : w.heap[x + 2]? = some (.cells #[.func (.func f) #[] lb] 75 (0, 0)))
    (eg : ∀ args w, (callFunc f args).run Tryz.prog w = .ok (.enter f args) w) (hb : ∀ m i, look D.dir s = some i → FileC S c g D f (#[fptr i] ++ lb) (body i) (w.drewN m)) :
    BodyC S c g D 65 #[.pointer (some ⟨x, 0, none⟩), .pointer (some ⟨x + 1, 0, none⟩), .pointer (some ⟨x + 2, 0, none⟩)] (ThereR s body) w := by
  have c0 := blk_cell h0 0
  have c1 := blk_cell h1 0
  have c2 := blk_cell h2 0
  have H := Lib.hid h
  have HB := Lib.hid hb
  obtain ⟨mf, ms, vp, q1, _, _, _, q5, _⟩ := h.ex
  have q5c := (show w.cell? ⟨g, 5, none⟩ = some (.map (some mf)) from blk_cell q1 5)
  have hlk := fun m => (VMap.look (w := w.drewN m) (q5.block rfl) keyed_s Tryz.underlying76 (by kernel_rfl) (z := .pointer none) (s := s) (keyOf_s hs)).2
  obtain ⟨o, ho⟩ : ∃ o, o = look D.dir s := ⟨_, rfl⟩
  rw [← ho] at hlk
  have HO := Lib.hid ho
  clear h h0 h1 h2 hs q1 q5 hb ho
  unfold BodyC
  cases o with
  | none =>
    simp only [Option.map_none, Option.getD_none] at hlk
    go_enter Tryz.func65, Tryz.ntmps65
    go_wp2
    go_quiet (fail)
    go_wp2
    go_ret
    refine ⟨D, 6, rfl, ((H.out.drewN _).mono (fun k hk => .inl hk) (fun k hk => hk.elim (H.out.lt k) (·.2))).more (by omega), ?_, Foot.drewN (Foot.refl _ _) _⟩
    unfold ThereR
    rw [← HO.out]
    exact ⟨rfl, rfl⟩
  | some i =>
    simp only [Option.map_some, Option.getD_some] at hlk
    go_enter Tryz.func65, Tryz.ntmps65
    go_wp2
    go_quiet (fail)
    clear hlk
    go_wp2_with fail
    refine (HB.out _ i HO.out.symm).mono ?_
    rintro e w5 ⟨D', k, rfl, d5, r5, f5⟩
    have HD5 := Lib.hid d5
    have HR5 := Lib.hid r5
    have HF5 := Lib.hid f5
    clear d5 r5 f5 HB
    go_wp2
    go_ret
    refine ⟨D', k, rfl, HD5.out, ?_, ⟨HF5.out.os, HF5.out.tape, HF5.out.output, HF5.out.size, HF5.out.block⟩⟩
    unfold ThereR
    rw [← HO.out]
    exact HR5.out
end Go.Proofs.YtononoakdebjeaaGreatDoor.Dk
namespace Go.Proofs.YtononoakdebjeaaGreatDoor.Dk
open Go.RowKit Go.Proofs.YtononoakdebjeaaGreatDoorW.PrintWords Go.Proofs.YtononoakdebjeaaGreatDoorW.PrintLast Go.Proofs.YtononoakdebjeaaGreatDoor.Base Go.Proofs.YtononoakdebjeaaGreatDoor.Path Go.Maps
set_option linter.unusedVariables false
set_option linter.unusedSimpArgs false
theorem dat_typed {S : Nat → Prop} {w : World} {v : Value} {xs : List Int} (h : Dat S w v xs) {k : Nat} (hk : dblk v = some k) : ∃ cells, w.heap[k]? = some (.cells cells 5 (0, 0)) := by
  rcases h with h | ⟨q, cs, rfl, _, hq, _⟩
  · obtain ⟨A, c, rfl⟩ := Kd.R_slice h
    cases A with
    | none => cases hk
    | some a =>
      have : (Value.slice (some a) xs.length c).ownBlock = some k := hk
      exact Kd.R_typed h k this
  · have : q = k := Option.some.inj hk
    exact this ▸ ⟨cs, hq⟩
theorem kch_move {S : Nat → Prop} {w w' : World} {v : Value} {xs : List (ByteArray × (Option Nat × ByteArray))} (h : kch.R 84 w 0 S v xs) (hm : ∀ k cells, S k → w.heap[k]? = some (.cells cells 84 (0, 0)) → w'.heap[k]? = w.heap[k]?) : kch.R 84 w' 0 S v xs := by
  refine Kd.R_mono (Kd.R_move (Kd.R_bound h) (fun k hk => ?_)) (fun k hk => hk.1)
  obtain ⟨h1, _, _, q, hq, cells, hc⟩ := hk
  have hq : q = 84 := by
    have hE : kch.E = [] := rfl
    rw [hE] at hq
    exact List.mem_singleton.1 hq
  subst hq
  exact hm k cells h1 hc
theorem dat_keep2 {S : Nat → Prop} {w w' : World} {v : Value} {xs : List Int} (h : Dat S w v xs) (hm : ∀ k, dblk v = some k → w'.heap[k]? = w.heap[k]?) : Dat S w' v xs := by
  rcases h with h | ⟨k, cs, rfl, hs, hk, ht⟩
  · obtain ⟨A, c, rfl⟩ := Kd.R_slice h
    exact .inl (kd_int_R (own_move (Kd.own_of_R h) (fun k hk => by
      cases A with
      | none => cases hk
      | some a => exact hm k hk)) (fun k hk => h.1 k hk))
  · exact .inr ⟨k, cs, rfl, hs, (hm k rfl).trans hk, ht⟩
theorem Dk.fileTurn {S : Nat → Prop} {c c' g i : Nat} {w w' : World} {D : DiskV} {dv : Nat → Value} {f : FileV} {v' : Value} (h : Dk S c w g D) (hf : FilesAt S w D dv) (hi : Has D i) (hsz : w.heap.size ≤ w'.heap.size)
    (hk : ∀ k, k < w.heap.size → k ≠ i → dblk (dv i) ≠ some k → w'.heap[k]? = w.heap[k]?) (hb : w'.heap[i]? = some (.cells #[v', .int .i64 (f.sure : Int), .int .i64 (f.time : Int)] 74 (0, 0)))
    (hd : Dat (Sx S w w') w' v' f.b) (hv : ∀ k, dblk v' = some k → dblk (dv i) = some k ∨ w.heap.size ≤ k) (hok : OkD c' { D with fs := upd D.fs i f }) : Dk (Sx S w w') c' w' g { D with fs := upd D.fs i f } := by
  obtain ⟨lt, sg, ok, ⟨mf, ms, vp, h1, h2, h3, h4, h5, h6, h7⟩, _⟩ := h
  obtain ⟨i1, i2, i3⟩ := hf.1 i hi
  have hno : ∀ {k : Nat} {o : Obj}, w.heap[k]? = some o → (∀ cells, o ≠ .cells cells 74 (0, 0)) → (∀ cells, o ≠ .cells cells 5 (0, 0)) → w'.heap[k]? = w.heap[k]? := fun {k o} hb1 ha hc => by
    refine hk k (blk_lt hb1) (fun e => ?_) (fun e => ?_)
    · rw [e, i2] at hb1
      exact ha _ (Option.some.inj hb1).symm
    · obtain ⟨cells, hcl⟩ := dat_typed i3 e
      rw [hcl] at hb1
      exact hc _ (Option.some.inj hb1).symm
  have hno2 : ∀ {k : Nat} {t : TypeId} {cs : Array Value}, w.heap[k]? = some (.cells cs t (0, 0)) → t ≠ 74 → t ≠ 5 → w'.heap[k]? = w.heap[k]? := fun hb1 ha hc => hno hb1 (fun cells e => ha (by injection e)) (fun cells e => hc (by injection e))
  have hmap : ∀ {k n : Nat} {F : ByteArray → Option Value}, VMap 9 skey w k n F → w'.heap[k]? = w.heap[k]? := fun {k n F} hm => by
    obtain ⟨_, ⟨es, clock, hb1, _⟩, _⟩ := id hm
    exact hno hb1 (fun cells e => by cases e) (fun cells e => by cases e)
  have hS : ∀ k, S k → k < w'.heap.size := fun k hk => Nat.lt_of_lt_of_le (lt k hk) hsz
  refine ⟨fun k hk => hk.elim (hS k) (·.2), .inl sg, hok, ⟨mf, ms, vp, ?_, .inl h2, .inl h3, h4, h5.block (hmap h5), h6.block (hmap h6), ?_⟩, ⟨fun j => if j = i then v' else dv j, fun j hj => ?_, fun j q k hj hq hne e1 e2 => ?_⟩⟩
  · exact (hno2 h1 (by decide) (by decide)).trans h1
  · exact Kd.R_mono (kch_move h7 (fun k cells _ hc => hno2 hc (by decide) (by decide))) (fun k hk => .inl hk)
  · show Sx S w w' j ∧ w'.heap[j]? = some (.cells #[if j = i then v' else dv j, .int .i64 ((upd D.fs i f j).sure : Int), .int .i64 ((upd D.fs i f j).time : Int)] 74 (0, 0)) ∧ Dat (Sx S w w') w' (if j = i then v' else dv j) (upd D.fs i f j).b
    by_cases e : j = i
    · subst e
      rw [if_pos rfl, upd_same]
      exact ⟨.inl i1, hb, hd⟩
    · rw [if_neg e, upd_other e]
      have hj : Has D j := hj
      obtain ⟨j1, j2, j3⟩ := hf.1 j hj
      refine ⟨.inl j1, (hk j (blk_lt j2) e (fun e2 => ?_)).trans j2, (dat_keep2 j3 (fun k hkb => ?_)).mono (fun k hk => .inl hk)⟩
      · obtain ⟨cells, hcl⟩ := dat_typed i3 e2
        rw [hcl] at j2
        injection j2 with j2
        injection j2 with _ j2 _
        revert j2
        decide
      · obtain ⟨cells, hcl⟩ := dat_typed j3 hkb
        refine hk k (blk_lt hcl) (fun e2 => ?_) (fun e2 => hf.2 i j k hi hj (fun e3 => e e3.symm) e2 hkb)
        rw [e2, i2] at hcl
        injection hcl with hcl
        injection hcl with _ hcl _
        revert hcl
        decide
  · have hj : Has D j := hj
    have hq : Has D q := hq
    simp only at e1 e2
    have old : ∀ {z : Nat}, Has D z → z ≠ i → dblk (dv z) = some k → dblk v' = some k → False := fun {z} hz hzi ez ev => by
      rcases hv k ev with h | h
      · exact hf.2 i z k hi hz (fun e => hzi e.symm) h ez
      · obtain ⟨cells, hcl⟩ := dat_typed (hf.1 z hz).2.2 ez
        have := blk_lt hcl
        omega
    by_cases ej : j = i
    · rw [if_pos ej] at e1
      have eq : q ≠ i := fun e => hne (ej.trans e.symm)
      rw [if_neg eq] at e2
      exact old hq eq e2 e1
    · rw [if_neg ej] at e1
      by_cases eq : q = i
      · rw [if_pos eq] at e2
        exact old hj ej e1 e2
      · rw [if_neg eq] at e2
        exact hf.2 j q k hj hq hne e1 e2
theorem OkD.setFile {c : Nat} {D : DiskV} (h : OkD c D) {i : Nat} {f : FileV} (hf : f.b.length ≤ 65536 ∧ f.sure ≤ f.b.length ∧ 1 ≤ f.time ∧ f.time < D.clock) : OkD c { D with fs := upd D.fs i f } :=
  ⟨h.quota, h.clock1, h.clock, h.deeds, h.armed, h.up, h.dirE, h.few, h.names, h.chs, fun j hj => by
    show (upd D.fs i f j).b.length ≤ 65536 ∧ (upd D.fs i f j).sure ≤ (upd D.fs i f j).b.length ∧ 1 ≤ (upd D.fs i f j).time ∧ (upd D.fs i f j).time < D.clock
    by_cases e : j = i
    · rw [e, upd_same]; exact hf
    · rw [upd_other e]; exact h.file j hj⟩
end Go.Proofs.YtononoakdebjeaaGreatDoor.Dk
namespace Go.Proofs.YtononoakdebjeaaGreatDoor.Dk
open Go.RowKit Go.Proofs.YtononoakdebjeaaGreatDoorW.PrintWords Go.Proofs.YtononoakdebjeaaGreatDoorW.PrintLast Go.Proofs.YtononoakdebjeaaGreatDoor.Base Go.Proofs.YtononoakdebjeaaGreatDoor.Path Go.Maps
set_option linter.unusedVariables false
set_option linter.unusedSimpArgs false
set_option maxHeartbeats 1000000 in
theorem sync1_any (S : Nat → Prop) (c g i : Nat) (D : DiskV) (w : World) (h : Dk S (c + 1) w g D) (hi : Has D i) :
    FileC S c g D 37 #[fptr i] (SyncR i) w := by
  obtain ⟨dv, hf⟩ := h.fl
  obtain ⟨i1, i2, i3⟩ := hf.1 i hi
  obtain ⟨A, cp, hd, _, hm⟩ := i3.bs.len
  have HD := Lib.hid hd
  have HI2 := Lib.hid i2
  obtain ⟨n, hn⟩ : ∃ n, n = (D.fs i).b.length := ⟨_, rfl⟩
  rw [← hn] at hd
  rw [hd] at i2
  have c0 := blk_cell i2 0
  have c1 := blk_cell i2 1
  have f1 := blk_frozen i2 1
  have H := Lib.hid h
  have HF := Lib.hid hf
  have HN := Lib.hid hn
  have HI := Lib.hid hi
  clear h hf hi i1 i2 i3 hd hn
  unfold FileC
  go_enter Tryz.func37, Tryz.ntmps37
  go_wp2
  go_ret
  obtain ⟨i1, i2, i3⟩ := HF.out.1 i HI.out
  obtain ⟨fd, hfd⟩ : ∃ fd : FileV, fd = ⟨(D.fs i).b, (D.fs i).b.length, (D.fs i).time⟩ := ⟨_, rfl⟩
  have hok : OkD (c + 1) { D with fs := upd D.fs i fd } := H.out.ok.setFile (by
    have := H.out.ok.file i HI.out
    rw [hfd]
    exact ⟨this.1, Nat.le_refl _, this.2.2⟩)
  refine ⟨{ D with fs := upd D.fs i fd }, 0, rfl, (H.out.fileTurn (w' := w.setCell ⟨i, 1, none⟩ (.int .i64 (n : Int))) (v' := dv i) (f := fd) HF.out HI.out (by simp) (fun k _ hk _ => Below.heap_setCell _ _ _ _ hk) ?_ ?_ (fun k hk => .inl hk) hok).more (by omega), ⟨by rw [hfd], rfl⟩, (Foot.refl S w).setCell i1 _ _⟩
  · refine (blk_set i2 1 _).trans ?_
    rw [hfd, HN.out]
    rfl
  · rw [hfd]
    refine (dat_keep2 i3 (fun k hk => Below.heap_setCell _ _ _ _ (fun e => ?_))).mono (fun k hk => .inl hk)
    obtain ⟨cells, hcl⟩ := dat_typed i3 hk
    have e : k = i := e
    rw [e, i2] at hcl
    injection hcl with hcl
    injection hcl with _ hcl _
    revert hcl
    decide
theorem files_turns {S : Nat → Prop} {w : World} {D : DiskV} {ch : ChV} {dv : Nat → Value} (h : FilesAt S w D dv) (hc : ∀ i, ch.dst = some i → Has D i) : FilesAt S w (turnsV D ch) dv :=
  ⟨fun i hi => h.1 i ((has_turns hi).elim id (hc i)), fun i j k hi hj => h.2 i j k ((has_turns hi).elim id (hc i)) ((has_turns hj).elim id (hc j))⟩
set_option maxHeartbeats 1000000 in
theorem remove1_any (S : Nat → Prop) (c g i x : Nat) (D : DiskV) (s : ByteArray) (w : World) (h : Dk S (c + 1) w g D) (hi : Has D i) (hs : s.size ≤ maxLen) (hc : c ≤ 40000000)
    (h0 : w.heap[x]? = some (.cells #[.pointer (some ⟨g, 0, none⟩)] 28 (0, 0))) (h1 : w.heap[x + 1]? = some (.cells #[.string s] 9 (0, 0))) :
    FileC S c g D 73 #[fptr i, .pointer (some ⟨x, 0, none⟩), .pointer (some ⟨x + 1, 0, none⟩)] (RemoveR s i) w := by
  obtain ⟨dv, hf⟩ := h.fl
  have c0 := blk_cell h0 0
  have c1 := blk_cell h1 0
  have hok : OkD (c + 1 + 1) (turnsV D ⟨noName, none, s⟩) := h.ok.turns (by show (0 : Nat) ≤ _; exact Nat.zero_le _) hs (fun e => absurd rfl e) (fun j hj => by cases hj)
  have HT := Lib.hid (turns_any S (c + 1) g D ⟨noName, none, s⟩ dv w h (files_turns hf (fun j hj => by cases hj)) hok (by omega))
  have HS := Lib.hid h.lt
  clear h hf hi hs h0 h1 hok
  unfold FileC
  go_enter Tryz.func73, Tryz.ntmps73
  go_wp2_with fail
  refine HT.out.mono ?_
  rintro e w5 ⟨rfl, d5, f5⟩
  have HD5 := Lib.hid d5
  have HF5 := Lib.hid f5
  clear d5 f5 HT
  go_wp2
  go_ret
  exact ⟨_, 0, rfl, HD5.out.more (by omega), ⟨rfl, rfl⟩, HF5.out⟩
set_option maxHeartbeats 1000000 in
theorem rename1_any (S : Nat → Prop) (c g i x : Nat) (D : DiskV) (s r : ByteArray) (w : World) (h : Dk S (c + 1) w g D) (hi : Has D i) (hs : s.size ≤ maxLen) (hr : r.size ≤ maxLen) (hc : c ≤ 40000000)
    (h0 : w.heap[x]? = some (.cells #[.pointer (some ⟨g, 0, none⟩)] 28 (0, 0))) (h1 : w.heap[x + 1]? = some (.cells #[.string s] 9 (0, 0))) (h2 : w.heap[x + 2]? = some (.cells #[.string r] 9 (0, 0))) :
    FileC S c g D 72 #[fptr i, .pointer (some ⟨x, 0, none⟩), .pointer (some ⟨x + 2, 0, none⟩), .pointer (some ⟨x + 1, 0, none⟩)] (RenameR s r i) w := by
  obtain ⟨dv, hf⟩ := h.fl
  have c0 := blk_cell h0 0
  have c1 := blk_cell h1 0
  have c2 := blk_cell h2 0
  have hok : OkD (c + 1 + 1) (turnsV D ⟨r, some i, s⟩) := h.ok.turns hr hs (fun _ => rfl) (fun j hj => by
    have e : i = j := Option.some.inj hj
    subst e
    exact h.ok.file i hi)
  have HT := Lib.hid (turns_any S (c + 1) g D ⟨r, some i, s⟩ dv w h (files_turns hf (fun j hj => by
    have e : i = j := Option.some.inj hj
    exact e ▸ hi)) hok (by omega))
  clear h hf hi hs hr h0 h1 h2 hok
  unfold FileC
  go_enter Tryz.func72, Tryz.ntmps72
  go_wp2_with fail
  refine HT.out.mono ?_
  rintro e w5 ⟨rfl, d5, f5⟩
  have HD5 := Lib.hid d5
  have HF5 := Lib.hid f5
  clear d5 f5 HT
  go_wp2
  go_ret
  exact ⟨_, 0, rfl, HD5.out.more (by omega), ⟨rfl, rfl⟩, HF5.out⟩
/-- What there hands back. -/
theorem there_any (g : Nat) (s : ByteArray) (f : Nat) (lb : Array Value) (w : World) (x : Nat) (hx : w.heap.size = x) : Calls Tryz.prog 36 #[.pointer (some ⟨g, 0, none⟩), .string s, .func (.func f) #[] lb] w fun e w' =>
    e = .returned (.func (.func 65) #[] #[.pointer (some ⟨x, 0, none⟩), .pointer (some ⟨x + 1, 0, none⟩), .pointer (some ⟨x + 2, 0, none⟩)]) ∧ w' = ((w.alloc (.cells #[.pointer (some ⟨g, 0, none⟩)] 28)).alloc (.cells #[.string s] 9)).alloc (.cells #[.func (.func f) #[] lb] 75) := by
  go_enter Tryz.func36, Tryz.ntmps36
  go_wp2
  go_ret
  exact ⟨rfl, rfl⟩
/-- A deed with a file that must be there. -/
theorem thereB {S : Nat → Prop} {c g x : Nat} {D : DiskV} {s : ByteArray} {f : Nat} {lb : Array Value} {R : Nat → DiskV → DiskV → Nat → Prop} {w W : World} (h : Dk S c w g D) (hs : s.size ≤ maxLen) (hc : c ≤ 40000000) (hb : Below w.heap.size w W)
    (h0 : W.heap[x]? = some (.cells #[.pointer (some ⟨g, 0, none⟩)] 28 (0, 0))) (h1 : W.heap[x + 1]? = some (.cells #[.string s] 9 (0, 0))) (h2 : W.heap[x + 2]? = some (.cells #[.func (.func f) #[] lb] 75 (0, 0))) (hgx : g < x)
    (eg : ∀ args w, (callFunc f args).run Tryz.prog w = .ok (.enter f args) w) (hf : ∀ W2 m i, Foot (fun k => k = g) W W2 → Dk S (c + 1) (W2.drewN m) g (countV D) → look D.dir s = some i → FileC S c g (countV D) f (#[fptr i] ++ lb) (R i) (W2.drewN m)) :
    ∀ W2, Foot (fun k => k = g) W W2 → Dk S (c + 1) W2 g (countV D) → BodyC S c g (countV D) 65 #[.pointer (some ⟨x, 0, none⟩), .pointer (some ⟨x + 1, 0, none⟩), .pointer (some ⟨x + 2, 0, none⟩)] (ThereR s R) W2 :=
  fun W2 k1 k2 => there1_any S c g x (countV D) s f lb R W2 k2 hs hc (foot_blk k1 h0 (by omega)) (foot_blk k1 h1 (by omega)) (foot_blk k1 h2 (by omega)) eg (fun m i hi => hf W2 m i k1 (k2.drewN m) hi)
set_option maxHeartbeats 1000000 in
theorem sync_any (S : Nat → Prop) (c g : Nat) (D : DiskV) (s : ByteArray) (w : World) (h : Dk S c w g D) (hs : s.size ≤ maxLen) (hc : c ≤ 40000000) :
    Calls Tryz.prog 12 #[.pointer (some ⟨g, 0, none⟩), .string s] w (DeedP S c g D (rightB s) (ThereR s SyncR) w) := by
  obtain ⟨x, hx⟩ : ∃ x, w.heap.size = x := ⟨_, rfl⟩
  have H := Lib.hid h
  have HS := Lib.hid hs
  have hgx : g < x := by rw [← hx]; exact h.lt g h.sg
  have HX := Lib.hid hx
  clear h hs hx
  go_enter Tryz.func12, Tryz.ntmps12
  go_wp2_with fail
  refine (there_any g s 37 #[] w x HX.out).mono ?_
  rintro e w1 ⟨rfl, hw1⟩
  obtain ⟨g0, g1, g2, g3, hb⟩ := allocs3 w (.cells #[.pointer (some ⟨g, 0, none⟩)] 28) (.cells #[.string s] 9) (.cells #[.func (.func 37) #[] #[]] 75) HX.out
  rw [← hw1] at g0 g1 g2 g3 hb
  have G0 := Lib.hid g0
  have G1 := Lib.hid g1
  have G2 := Lib.hid g2
  have G3 := Lib.hid g3
  have HB := Lib.hid hb
  clear hw1 g0 g1 g2 hb
  go_wp2_with fail
  obtain ⟨W, hW⟩ : ∃ W, W = w1.alloc (.cells #[.string s] 9) := ⟨_, rfl⟩
  rw [← hW]
  have hB : Below w.heap.size w W := by rw [hW]; exact below_alloc HB.out _
  have HN : Hid (W.heap[x + 3]? = some (.cells #[.string s] 9 (0, 0))) := by show _ = _; rw [hW]; exact alloc_at w1 _ G3.out
  have k0 := alloc_old G0.out (.cells #[.string s] 9)
  rw [← hW] at k0
  have K0 := Lib.hid k0
  have k1 := alloc_old G1.out (.cells #[.string s] 9)
  rw [← hW] at k1
  have K1 := Lib.hid k1
  have k2 := alloc_old G2.out (.cells #[.string s] 9)
  rw [← hW] at k2
  have K2 := Lib.hid k2
  have HBW := Lib.hid hB
  clear hW hB g3 k0 k1 k2
  refine (deed_any S c g D 65 _ _ [s] (ThereR s SyncR) W (H.out.below HBW.out) (fun W2 hf => ss_one (foot_blk hf HN.out (by omega))) (by simp) (fun r hr => by rw [List.mem_singleton.1 hr]; exact HS.out) (by omega) (enters_of Tryz.func65 (by kernel_rfl) rfl)
    (thereB H.out HS.out hc HBW.out K0.out K1.out K2.out hgx (enters_of Tryz.func37 (by kernel_rfl) rfl) (fun W2 m i _ hd hi => sync1_any S c g i (countV D) (W2.drewN m) hd (has_dir hi)))).mono ?_
  rintro e w9 hp
  have HP := Lib.hid (deedP_from HBW.out H.out.lt hp)
  obtain ⟨D', k, rfl, _⟩ := hp
  go_wp2
  go_ret
  have h := HP.out
  simp only [List.all_cons, List.all_nil, Bool.and_true] at h
  exact h
end Go.Proofs.YtononoakdebjeaaGreatDoor.Dk
namespace Go.Proofs.YtononoakdebjeaaGreatDoor.Dk
open Go.RowKit Go.Proofs.YtononoakdebjeaaGreatDoorW.PrintWords Go.Proofs.YtononoakdebjeaaGreatDoorW.PrintLast Go.Proofs.YtononoakdebjeaaGreatDoor.Base Go.Proofs.YtononoakdebjeaaGreatDoor.Path Go.Maps
set_option linter.unusedVariables false
set_option linter.unusedSimpArgs false
theorem pw_blk_below {w W : World} {k : Nat} {o : Obj} (hb : Below w.heap.size w W) (h : w.heap[k]? = some o) : W.heap[k]? = some o := (hb.block k (blk_lt h)).trans h
set_option maxRecDepth 100000 in
set_option maxHeartbeats 4000000 in
theorem remove_any (S : Nat → Prop) (c g : Nat) (D : DiskV) (s : ByteArray) (w : World) (h : Dk S c w g D) (hs : s.size ≤ maxLen)  (hc : c ≤ 40000000) :
    Calls Tryz.prog 48 #[.pointer (some ⟨g, 0, none⟩), .string s] w (DeedP S c g D (rightB s) (ThereR s (RemoveR s)) w) := by
  obtain ⟨x, hx⟩ : ∃ x, w.heap.size = x := ⟨_, rfl⟩
  have H := Lib.hid h
  have HS := Lib.hid hs
  have hgx : g < x := by rw [← hx]; exact h.lt g h.sg
  clear h hs
  obtain ⟨W, hW⟩ : ∃ W, W = ((w.alloc (.cells #[.pointer (some ⟨g, 0, none⟩)] 28)).alloc (.cells #[.string s] 9)) := ⟨_, rfl⟩
  obtain ⟨g0, g1, gz, hb⟩ := allocs2 w (.cells #[.pointer (some ⟨g, 0, none⟩)] 28) (.cells #[.string s] 9) hx
  rw [← hW] at g0 g1 gz hb
  have B0 := Lib.hid g0
  have Q0 := Lib.hid (blk_cell g0 0)
  have B1 := Lib.hid g1
  have Q1 := Lib.hid (blk_cell g1 0)
  have HBW := Lib.hid hb
  obtain ⟨X, hX⟩ : ∃ X, W.drew.heap.size = X := ⟨_, rfl⟩
  have HXX := Lib.hid hX
  have HXL : Hid (x + 2 = X) := by show _ = _; rw [← gz, ← hX]; rfl
  have HW := Lib.hid hW
  have HX := Lib.hid hx
  have HX1 : Hid ((W.alloc (.cells #[.string s] 9)).drew.heap.size = X + 1) := alloc_size W.drew _ hX
  have HBN0 : Hid ((W.alloc (.cells #[.string s] 9)).drew.heap[W.heap.size]? = _) := World.alloc_heap_new W _
  have HGX : Hid (g < x) := hgx
  have HDEED : Hid (∀ wx ya yb, Below W.heap.size W wx → wx.heap[ya]? = some (.cells #[.pointer (some ⟨g, 0, none⟩)] 28) → wx.heap[ya + 1]? = some (.cells #[.string s] 9) → wx.heap[ya + 2]? = some (.cells #[.func (.func 73) #[] #[.pointer (some ⟨x, 0, none⟩), .pointer (some ⟨x + 1, 0, none⟩)]] 75) → wx.heap[yb]? = some (.cells #[.string s] 9) → X ≤ ya → X ≤ yb →
      Calls Tryz.prog 33 #[.pointer (some ⟨g, 0, none⟩), .func (.func 65) #[] #[.pointer (some ⟨ya, 0, none⟩), .pointer (some ⟨ya + 1, 0, none⟩), .pointer (some ⟨ya + 2, 0, none⟩)], .slice (some ⟨yb, 0, none⟩) 1 1] wx (DeedP S c g D ([s].all rightB) (ThereR s (RemoveR s)) wx)) := fun wx ya yb k1 k2 k3 k4 k5 k6 k7 => by
    have hBX := HBW.out.trans (k1.mono HBW.out.size)
    refine deed_any S c g D 65 _ _ [s] (ThereR s (RemoveR s)) wx (H.out.below hBX) (fun W2 hf => ss_one (foot_blk hf k5 (by have := HXL.out; have := HGX.out; omega))) (by simp) (fun r hr => by rw [List.mem_singleton.1 hr]; exact HS.out) (by omega) (enters_of Tryz.func65 (by kernel_rfl) rfl)
      (thereB H.out HS.out hc hBX k2 k3 k4 (by have := HXL.out; have := HGX.out; omega) (enters_of Tryz.func73 (by kernel_rfl) rfl) (fun W2 m i hf2 hd hi => ?_))
    exact remove1_any S c g i x (countV D) s (W2.drewN m) hd (has_dir hi) HS.out hc (show W2.heap[x]? = _ from foot_blk hf2 (pw_blk_below k1 B0.out) (by have := HGX.out; omega)) (show W2.heap[x + 1]? = _ from foot_blk hf2 (pw_blk_below k1 B1.out) (by have := HGX.out; omega))
  clear hb hX g0 g1 gz hW hgx
  go_enter Tryz.func48, Tryz.ntmps48
  go_upto_region 1 with (fail)
  rw [← HW.out]
  clear hx
  --S1
  refine start_ (n := 9) (S := fun w' => Below W.heap.size W w' ∧ w'.cell? ⟨x, 0, none⟩ = some (.pointer (some ⟨g, 0, none⟩)) ∧ w'.cell? ⟨x + 1, 0, none⟩ = some (.string s)) (ds := [7]) #[false, false, false, false, false, false, false, false, false] (by kernel_rfl) rfl rfl ⟨Below.drew (Below.refl _ _), Q0.out, Q1.out⟩ (fun hHeld => ?_)
  refine pure_ (i := 3) (N := some 8) (v := ?_) (a' := ?_) #[false, false, false, true, false, false, false, false, false] rfl rfl (by kernel_rfl) (fun _ _ _ h => h) (Or.inl ⟨by rfl, ?_⟩) ?_ ?_
  rotate_left
  · intro w'
    go_simp
    with_reducible rfl
  rotate_left
  · simp only [Act.put, List.setIfInBounds_toArray, List.set_cons_zero, List.set_cons_succ, i64_w, i32_w]
    rfl
  refine take_ (i := 0) (N := some 5) (v := ?_) (a' := ?_) #[true, false, false, true, false, false, false, false, false] rfl rfl (by kernel_rfl) (fun _ _ _ h => h) (Or.inl ⟨by rfl, ?_⟩) hHeld ?_ ?_
  rotate_left
  · rintro w' ⟨s0, s1, s2⟩
    go_simp
    with_reducible rfl
  rotate_left
  · simp only [Act.put, List.setIfInBounds_toArray, List.set_cons_zero, List.set_cons_succ, i64_w, i32_w]
    rfl
  refine take_ (i := 1) (N := some 6) (v := ?_) (a' := ?_) #[true, true, false, true, false, false, false, false, false] rfl rfl (by kernel_rfl) (fun _ _ _ h => h) (Or.inl ⟨by rfl, ?_⟩) hHeld ?_ ?_
  rotate_left
  · rintro w' ⟨s0, s1, s2⟩
    go_simp
    with_reducible rfl
  rotate_left
  · simp only [Act.put, List.setIfInBounds_toArray, List.set_cons_zero, List.set_cons_succ, i64_w, i32_w]
    rfl
  refine take_ (i := 2) (N := some 7) (v := ?_) (a' := ?_) #[true, true, true, true, false, false, false, false, false] rfl rfl (by kernel_rfl) (fun _ _ _ h => h) (Or.inl ⟨by rfl, ?_⟩) hHeld ?_ ?_
  rotate_left
  · rintro w' ⟨s0, s1, s2⟩
    go_simp
    with_reducible rfl
  rotate_left
  · simp only [Act.put, List.setIfInBounds_toArray, List.set_cons_zero, List.set_cons_succ, i64_w, i32_w]
    rfl
  refine take_ (i := 5) (N := some 10) (v := ?_) (a' := ?_) #[true, true, true, true, false, true, false, false, false] rfl rfl (by kernel_rfl) (fun _ _ _ h => h) (Or.inl ⟨by rfl, ?_⟩) hHeld ?_ ?_
  rotate_left
  · rintro w' ⟨s0, s1, s2⟩
    go_simp
    with_reducible rfl
  rotate_left
  · simp only [Act.put, List.setIfInBounds_toArray, List.set_cons_zero, List.set_cons_succ, i64_w, i32_w]
    rfl
  refine join_ (σ := Nat × Nat) 2 #[true, true, true, true, true, true, true, false, false] (fun s => [(9, .func (.func 65) #[] #[.pointer (some ⟨s.1, 0, none⟩), .pointer (some ⟨s.1 + 1, 0, none⟩), .pointer (some ⟨s.1 + 2, 0, none⟩)]), (11, .slice (some ⟨s.2, 0, none⟩) 1 1)]) (fun z w' => Below W.heap.size W w' ∧ w'.heap[z.1]? = some (.cells #[.pointer (some ⟨g, 0, none⟩)] 28) ∧ w'.heap[z.1 + 1]? = some (.cells #[.string s] 9) ∧ w'.heap[z.1 + 2]? = some (.cells #[.func (.func 73) #[] #[.pointer (some ⟨x, 0, none⟩), .pointer (some ⟨x + 1, 0, none⟩)]] 75) ∧ w'.heap[z.2]? = some (.cells #[.string s] 9) ∧ X ≤ z.1 ∧ X ≤ z.2) ?_ ?_
  rotate_left
  · intro hCont
    refine two_ (i := 4) (j := 6) (Ni := some 9) (Nj := some 11) #[true, true, true, true, true, true, false, false, false] #[true, true, true, true, false, true, true, false, false] rfl rfl rfl rfl (by kernel_rfl) (by decide) (by decide) (fun K hK => ?_) (fun K hK => ?_)
    · skip
      refine goes_ Tryz.func36 (by kernel_rfl) rfl #[.pointer (some ⟨g, 0, none⟩), .string s, .func (.func 73) #[] #[.pointer (some ⟨x, 0, none⟩), .pointer (some ⟨x + 1, 0, none⟩)]] (by rfl) rfl rfl (by first | (simp only [List.map_toArray, List.map_cons, List.map_nil]; done) | (simp only [List.map_toArray, List.map_cons, List.map_nil]; rfl) | rfl) ?_
      with_reducible refine (there_any g s 73 #[.pointer (some ⟨x, 0, none⟩), .pointer (some ⟨x + 1, 0, none⟩)] _ X HXX.out).mono ?_
      rintro e w2 ⟨rfl, hw2⟩
      refine ⟨_, rfl, ?_⟩
      obtain ⟨a0, a1, a2, a3, ab⟩ := allocs3 W.drew (.cells #[.pointer (some ⟨g, 0, none⟩)] 28) (.cells #[.string s] 9) (.cells #[.func (.func 73) #[] #[.pointer (some ⟨x, 0, none⟩), .pointer (some ⟨x + 1, 0, none⟩)]] 75) HXX.out
      rw [← hw2] at a0 a1 a2 a3 ab
      have G0 := Lib.hid a0
      have G1 := Lib.hid a1
      have G2 := Lib.hid a2
      have G3 := Lib.hid a3
      have hb2 : Below W.heap.size W w2 := hHeld.1.trans (ab.mono hHeld.1.size)
      have HB2 := Lib.hid hb2
      clear hw2 a0 a1 a2 a3 ab
      refine hK.out _ _ ⟨hb2, pw_cell_below (hb2) Q0.out, pw_cell_below (hb2) Q1.out⟩ (fun hHeld => ?_)
      clear hK K
      refine norm_ (a' := ?_) ?_ ?_
      rotate_left
      · show Act.put _ (some 9) _ = _
        simp only [Act.put, List.setIfInBounds_toArray, List.set_cons_zero, List.set_cons_succ, i64_w, i32_w]
        rfl
      refine one_ (i := 6) (N := some 11) #[true, true, true, true, true, true, true, false, false] rfl rfl (by kernel_rfl) (by decide) (fun K hK => ?_)
      refine value_ (w1 := ?_) (v := ?_) (by rfl) rfl ?_ ?_
      rotate_left 2
      · go_simp
        constructor
        · rfl
        · rfl
      refine hK.out _ _ ⟨hHeld.1.alloc hHeld.1.size _, pw_cell_below (hHeld.1.alloc hHeld.1.size _) Q0.out, pw_cell_below (hHeld.1.alloc hHeld.1.size _) Q1.out⟩ (fun hHeld => ?_)
      clear hK K
      refine norm_ (a' := ?_) ?_ ?_
      rotate_left
      · show Act.put _ (some 11) _ = _
        simp only [Act.put, List.setIfInBounds_toArray, List.set_cons_zero, List.set_cons_succ, i64_w, i32_w]
        rfl
      exact norm_ (by simp only [putAll, Act.put, List.setIfInBounds_toArray, List.set_cons_zero, List.set_cons_succ]) (hCont (X, w2.heap.size) _ ⟨hHeld.1, alloc_old G0.out _, alloc_old G1.out _, alloc_old G2.out _, alloc_at w2 _ rfl, Nat.le_refl _, Nat.le_trans (Nat.le_add_right _ _) (Nat.le_of_eq G3.out.symm)⟩)
    · skip
      refine value_ (w1 := ?_) (v := ?_) (by rfl) rfl ?_ ?_
      rotate_left 2
      · go_simp
        constructor
        · rfl
        · rfl
      refine hK.out _ _ ⟨hHeld.1.alloc hHeld.1.size _, pw_cell_below (hHeld.1.alloc hHeld.1.size _) Q0.out, pw_cell_below (hHeld.1.alloc hHeld.1.size _) Q1.out⟩ (fun hHeld => ?_)
      clear hK K
      refine norm_ (a' := ?_) ?_ ?_
      rotate_left
      · show Act.put _ (some 11) _ = _
        simp only [Act.put, List.setIfInBounds_toArray, List.set_cons_zero, List.set_cons_succ, i64_w, i32_w]
        rfl
      refine one_ (i := 4) (N := some 9) #[true, true, true, true, true, true, true, false, false] rfl rfl (by kernel_rfl) (by decide) (fun K hK => ?_)
      refine goes_ Tryz.func36 (by kernel_rfl) rfl #[.pointer (some ⟨g, 0, none⟩), .string s, .func (.func 73) #[] #[.pointer (some ⟨x, 0, none⟩), .pointer (some ⟨x + 1, 0, none⟩)]] (by rfl) rfl rfl (by first | (simp only [List.map_toArray, List.map_cons, List.map_nil]; done) | (simp only [List.map_toArray, List.map_cons, List.map_nil]; rfl) | rfl) ?_
      with_reducible refine (there_any g s 73 #[.pointer (some ⟨x, 0, none⟩), .pointer (some ⟨x + 1, 0, none⟩)] _ (X + 1) HX1.out).mono ?_
      rintro e w2 ⟨rfl, hw2⟩
      refine ⟨_, rfl, ?_⟩
      obtain ⟨a0, a1, a2, a3, ab⟩ := allocs3 ((W.alloc (.cells #[.string s] 9)).drew) (.cells #[.pointer (some ⟨g, 0, none⟩)] 28) (.cells #[.string s] 9) (.cells #[.func (.func 73) #[] #[.pointer (some ⟨x, 0, none⟩), .pointer (some ⟨x + 1, 0, none⟩)]] 75) HX1.out
      rw [← hw2] at a0 a1 a2 a3 ab
      have G0 := Lib.hid a0
      have G1 := Lib.hid a1
      have G2 := Lib.hid a2
      have G3 := Lib.hid a3
      have hb2 : Below W.heap.size W w2 := hHeld.1.trans (ab.mono hHeld.1.size)
      have HB2 := Lib.hid hb2
      have HBN := Lib.hid ((ab.block _ (blk_lt HBN0.out)).trans HBN0.out)
      clear hw2 a0 a1 a2 a3 ab
      refine hK.out _ _ ⟨hb2, pw_cell_below (hb2) Q0.out, pw_cell_below (hb2) Q1.out⟩ (fun hHeld => ?_)
      clear hK K
      refine norm_ (a' := ?_) ?_ ?_
      rotate_left
      · show Act.put _ (some 9) _ = _
        simp only [Act.put, List.setIfInBounds_toArray, List.set_cons_zero, List.set_cons_succ, i64_w, i32_w]
        rfl
      exact norm_ (by simp only [putAll, Act.put, List.setIfInBounds_toArray, List.set_cons_zero, List.set_cons_succ]) (hCont (X + 1, W.heap.size) _ ⟨hHeld.1, G0.out, G1.out, G2.out, HBN.out, Nat.le_add_right _ _, Nat.le_of_eq HXX.out.symm⟩)
  rintro ⟨ya, yb⟩ wx ⟨hF1, hF2, hF3, hF4, hF5, hF6, hF7⟩
  simp only at hF2 hF3 hF4 hF5 hF6 hF7
  have hHeld : Below W.heap.size W wx ∧ wx.cell? ⟨x, 0, none⟩ = some (.pointer (some ⟨g, 0, none⟩)) ∧ wx.cell? ⟨x + 1, 0, none⟩ = some (.string s) := ⟨hF1, pw_cell_below (hF1) Q0.out, pw_cell_below (hF1) Q1.out⟩
  have P0 := Lib.hid hF2
  have P1 := Lib.hid hF3
  have P2 := Lib.hid hF4
  have P3 := Lib.hid hF5
  have P4 := Lib.hid hF6
  have P5 := Lib.hid hF7
  have HBX := Lib.hid (HBW.out.trans (hF1.mono HBW.out.size))
  have HB1 := Lib.hid hF1
  clear hF1 hF2 hF3 hF4 hF5 hF6 hF7
  refine norm_ (a' := ?_) ?_ ?_
  rotate_left
  · simp only [putAll, Act.put, List.setIfInBounds_toArray, List.set_cons_zero, List.set_cons_succ]
    rfl
  refine last_ (i := 7) (N := some 12) #[true, true, true, true, true, true, true, true, false] rfl rfl (by kernel_rfl) (by decide) (fun K hK => ?_)
  refine goes_ Tryz.func33 (by kernel_rfl) rfl #[.pointer (some ⟨g, 0, none⟩), .func (.func 65) #[] #[.pointer (some ⟨ya, 0, none⟩), .pointer (some ⟨ya + 1, 0, none⟩), .pointer (some ⟨ya + 2, 0, none⟩)], .slice (some ⟨yb, 0, none⟩) 1 1] (by rfl) rfl rfl (by first | (simp only [List.map_toArray, List.map_cons, List.map_nil]; done) | (simp only [List.map_toArray, List.map_cons, List.map_nil]; rfl) | rfl) ?_
  with_reducible refine (HDEED.out _ _ _ hHeld.1 P0.out P1.out P2.out P3.out P4.out P5.out).mono ?_
  rintro e w9 hp
  have HP := Lib.hid (deedP_from HBX.out H.out.lt hp)
  obtain ⟨D', kk, rfl, _⟩ := hp
  refine ⟨_, rfl, ?_⟩
  refine hK.out _ _ ?_
  clear hK K
  refine norm_ (a' := ?_) ?_ ?_
  rotate_left
  · show Act.put _ (some 12) _ = _
    simp only [Act.put, List.setIfInBounds_toArray, List.set_cons_zero, List.set_cons_succ, i64_w, i32_w]
    rfl
  refine pure_ (i := 8) (N := some 4) (v := ?_) (a' := ?_) #[true, true, true, true, true, true, true, true, true] rfl rfl (by kernel_rfl) (fun _ _ _ h => h) (Or.inl ⟨by rfl, ?_⟩) ?_ ?_
  rotate_left
  · intro w'
    go_simp
    with_reducible rfl
  rotate_left
  · simp only [Act.put, List.setIfInBounds_toArray, List.set_cons_zero, List.set_cons_succ, i64_w, i32_w]
    rfl
  refine done_ (by kernel_rfl) ?_
  --S2
  go_wp2
  go_ret
  have h := HP.out
  simp only [List.all_cons, List.all_nil, Bool.and_true] at h
  exact h
set_option maxRecDepth 100000 in
set_option maxHeartbeats 4000000 in
theorem rename_any (S : Nat → Prop) (c g : Nat) (D : DiskV) (s r : ByteArray) (w : World) (h : Dk S c w g D) (hs : s.size ≤ maxLen) (h2 : r.size ≤ maxLen) (hc : c ≤ 40000000) :
    Calls Tryz.prog 47 #[.pointer (some ⟨g, 0, none⟩), .string s, .string r] w (DeedP S c g D (rightB s && rightB r) (ThereR s (RenameR s r)) w) := by
  obtain ⟨x, hx⟩ : ∃ x, w.heap.size = x := ⟨_, rfl⟩
  have H := Lib.hid h
  have HS := Lib.hid hs
  have hgx : g < x := by rw [← hx]; exact h.lt g h.sg
  have HH := Lib.hid h2
  clear h hs h2
  obtain ⟨W, hW⟩ : ∃ W, W = (((w.alloc (.cells #[.pointer (some ⟨g, 0, none⟩)] 28)).alloc (.cells #[.string s] 9)).alloc (.cells #[.string r] 9)) := ⟨_, rfl⟩
  obtain ⟨g0, g1, g2, gz, hb⟩ := allocs3 w (.cells #[.pointer (some ⟨g, 0, none⟩)] 28) (.cells #[.string s] 9) (.cells #[.string r] 9) hx
  rw [← hW] at g0 g1 g2 gz hb
  have B0 := Lib.hid g0
  have Q0 := Lib.hid (blk_cell g0 0)
  have B1 := Lib.hid g1
  have Q1 := Lib.hid (blk_cell g1 0)
  have B2 := Lib.hid g2
  have Q2 := Lib.hid (blk_cell g2 0)
  have HBW := Lib.hid hb
  obtain ⟨X, hX⟩ : ∃ X, W.drew.heap.size = X := ⟨_, rfl⟩
  have HXX := Lib.hid hX
  have HXL : Hid (x + 3 = X) := by show _ = _; rw [← gz, ← hX]; rfl
  have HW := Lib.hid hW
  have HX := Lib.hid hx
  have HX1 : Hid ((W.alloc (.cells #[.string s, .string r] 9)).drew.heap.size = X + 1) := alloc_size W.drew _ hX
  have HBN0 : Hid ((W.alloc (.cells #[.string s, .string r] 9)).drew.heap[W.heap.size]? = _) := World.alloc_heap_new W _
  have HGX : Hid (g < x) := hgx
  have HDEED : Hid (∀ wx ya yb, Below W.heap.size W wx → wx.heap[ya]? = some (.cells #[.pointer (some ⟨g, 0, none⟩)] 28) → wx.heap[ya + 1]? = some (.cells #[.string s] 9) → wx.heap[ya + 2]? = some (.cells #[.func (.func 72) #[] #[.pointer (some ⟨x, 0, none⟩), .pointer (some ⟨x + 2, 0, none⟩), .pointer (some ⟨x + 1, 0, none⟩)]] 75) → wx.heap[yb]? = some (.cells #[.string s, .string r] 9) → X ≤ ya → X ≤ yb →
      Calls Tryz.prog 33 #[.pointer (some ⟨g, 0, none⟩), .func (.func 65) #[] #[.pointer (some ⟨ya, 0, none⟩), .pointer (some ⟨ya + 1, 0, none⟩), .pointer (some ⟨ya + 2, 0, none⟩)], .slice (some ⟨yb, 0, none⟩) 2 2] wx (DeedP S c g D ([s, r].all rightB) (ThereR s (RenameR s r)) wx)) := fun wx ya yb k1 k2 k3 k4 k5 k6 k7 => by
    have hBX := HBW.out.trans (k1.mono HBW.out.size)
    refine deed_any S c g D 65 _ _ [s, r] (ThereR s (RenameR s r)) wx (H.out.below hBX) (fun W2 hf => ss_two (foot_blk hf k5 (by have := HXL.out; have := HGX.out; omega))) (by simp) (fun q hq => by rcases List.mem_cons.1 hq with rfl | hq; exact HS.out; rw [List.mem_singleton.1 hq]; exact HH.out) (by omega) (enters_of Tryz.func65 (by kernel_rfl) rfl)
      (thereB H.out HS.out hc hBX k2 k3 k4 (by have := HXL.out; have := HGX.out; omega) (enters_of Tryz.func72 (by kernel_rfl) rfl) (fun W2 m i hf2 hd hi => ?_))
    exact rename1_any S c g i x (countV D) s r (W2.drewN m) hd (has_dir hi) HS.out HH.out hc (show W2.heap[x]? = _ from foot_blk hf2 (pw_blk_below k1 B0.out) (by have := HGX.out; omega)) (show W2.heap[x + 1]? = _ from foot_blk hf2 (pw_blk_below k1 B1.out) (by have := HGX.out; omega)) (show W2.heap[x + 2]? = _ from foot_blk hf2 (pw_blk_below k1 B2.out) (by have := HGX.out; omega))
  clear hb hX g0 g1 g2 gz hW hgx
  go_enter Tryz.func47, Tryz.ntmps47
  go_upto_region 1 with (fail)
  rw [← HW.out]
  clear hx
  --S1
  refine start_ (n := 10) (S := fun w' => Below W.heap.size W w' ∧ w'.cell? ⟨x, 0, none⟩ = some (.pointer (some ⟨g, 0, none⟩)) ∧ w'.cell? ⟨x + 1, 0, none⟩ = some (.string s) ∧ w'.cell? ⟨x + 1 + 1, 0, none⟩ = some (.string r)) (ds := [8]) #[false, false, false, false, false, false, false, false, false, false] (by kernel_rfl) rfl rfl ⟨Below.drew (Below.refl _ _), Q0.out, Q1.out, Q2.out⟩ (fun hHeld => ?_)
  refine pure_ (i := 3) (N := some 10) (v := ?_) (a' := ?_) #[false, false, false, true, false, false, false, false, false, false] rfl rfl (by kernel_rfl) (fun _ _ _ h => h) (Or.inl ⟨by rfl, ?_⟩) ?_ ?_
  rotate_left
  · intro w'
    go_simp
    with_reducible rfl
  rotate_left
  · simp only [Act.put, List.setIfInBounds_toArray, List.set_cons_zero, List.set_cons_succ, i64_w, i32_w]
    rfl
  refine take_ (i := 0) (N := some 7) (v := ?_) (a' := ?_) #[true, false, false, true, false, false, false, false, false, false] rfl rfl (by kernel_rfl) (fun _ _ _ h => h) (Or.inl ⟨by rfl, ?_⟩) hHeld ?_ ?_
  rotate_left
  · rintro w' ⟨s0, s1, s2, s3⟩
    go_simp
    with_reducible rfl
  rotate_left
  · simp only [Act.put, List.setIfInBounds_toArray, List.set_cons_zero, List.set_cons_succ, i64_w, i32_w]
    rfl
  refine take_ (i := 1) (N := some 8) (v := ?_) (a' := ?_) #[true, true, false, true, false, false, false, false, false, false] rfl rfl (by kernel_rfl) (fun _ _ _ h => h) (Or.inl ⟨by rfl, ?_⟩) hHeld ?_ ?_
  rotate_left
  · rintro w' ⟨s0, s1, s2, s3⟩
    go_simp
    with_reducible rfl
  rotate_left
  · simp only [Act.put, List.setIfInBounds_toArray, List.set_cons_zero, List.set_cons_succ, i64_w, i32_w]
    rfl
  refine take_ (i := 2) (N := some 9) (v := ?_) (a' := ?_) #[true, true, true, true, false, false, false, false, false, false] rfl rfl (by kernel_rfl) (fun _ _ _ h => h) (Or.inl ⟨by rfl, ?_⟩) hHeld ?_ ?_
  rotate_left
  · rintro w' ⟨s0, s1, s2, s3⟩
    go_simp
    with_reducible rfl
  rotate_left
  · simp only [Act.put, List.setIfInBounds_toArray, List.set_cons_zero, List.set_cons_succ, i64_w, i32_w]
    rfl
  refine take_ (i := 5) (N := some 12) (v := ?_) (a' := ?_) #[true, true, true, true, false, true, false, false, false, false] rfl rfl (by kernel_rfl) (fun _ _ _ h => h) (Or.inl ⟨by rfl, ?_⟩) hHeld ?_ ?_
  rotate_left
  · rintro w' ⟨s0, s1, s2, s3⟩
    go_simp
    with_reducible rfl
  rotate_left
  · simp only [Act.put, List.setIfInBounds_toArray, List.set_cons_zero, List.set_cons_succ, i64_w, i32_w]
    rfl
  refine take_ (i := 6) (N := some 13) (v := ?_) (a' := ?_) #[true, true, true, true, false, true, true, false, false, false] rfl rfl (by kernel_rfl) (fun _ _ _ h => h) (Or.inl ⟨by rfl, ?_⟩) hHeld ?_ ?_
  rotate_left
  · rintro w' ⟨s0, s1, s2, s3⟩
    go_simp
    with_reducible rfl
  rotate_left
  · simp only [Act.put, List.setIfInBounds_toArray, List.set_cons_zero, List.set_cons_succ, i64_w, i32_w]
    rfl
  refine join_ (σ := Nat × Nat) 2 #[true, true, true, true, true, true, true, true, false, false] (fun s => [(11, .func (.func 65) #[] #[.pointer (some ⟨s.1, 0, none⟩), .pointer (some ⟨s.1 + 1, 0, none⟩), .pointer (some ⟨s.1 + 2, 0, none⟩)]), (14, .slice (some ⟨s.2, 0, none⟩) 2 2)]) (fun z w' => Below W.heap.size W w' ∧ w'.heap[z.1]? = some (.cells #[.pointer (some ⟨g, 0, none⟩)] 28) ∧ w'.heap[z.1 + 1]? = some (.cells #[.string s] 9) ∧ w'.heap[z.1 + 2]? = some (.cells #[.func (.func 72) #[] #[.pointer (some ⟨x, 0, none⟩), .pointer (some ⟨x + 2, 0, none⟩), .pointer (some ⟨x + 1, 0, none⟩)]] 75) ∧ w'.heap[z.2]? = some (.cells #[.string s, .string r] 9) ∧ X ≤ z.1 ∧ X ≤ z.2) ?_ ?_
  rotate_left
  · intro hCont
    refine two_ (i := 4) (j := 7) (Ni := some 11) (Nj := some 14) #[true, true, true, true, true, true, true, false, false, false] #[true, true, true, true, false, true, true, true, false, false] rfl rfl rfl rfl (by kernel_rfl) (by decide) (by decide) (fun K hK => ?_) (fun K hK => ?_)
    · skip
      refine goes_ Tryz.func36 (by kernel_rfl) rfl #[.pointer (some ⟨g, 0, none⟩), .string s, .func (.func 72) #[] #[.pointer (some ⟨x, 0, none⟩), .pointer (some ⟨x + 2, 0, none⟩), .pointer (some ⟨x + 1, 0, none⟩)]] (by rfl) rfl rfl (by first | (simp only [List.map_toArray, List.map_cons, List.map_nil]; done) | (simp only [List.map_toArray, List.map_cons, List.map_nil]; rfl) | rfl) ?_
      with_reducible refine (there_any g s 72 #[.pointer (some ⟨x, 0, none⟩), .pointer (some ⟨x + 2, 0, none⟩), .pointer (some ⟨x + 1, 0, none⟩)] _ X HXX.out).mono ?_
      rintro e w2 ⟨rfl, hw2⟩
      refine ⟨_, rfl, ?_⟩
      obtain ⟨a0, a1, a2, a3, ab⟩ := allocs3 W.drew (.cells #[.pointer (some ⟨g, 0, none⟩)] 28) (.cells #[.string s] 9) (.cells #[.func (.func 72) #[] #[.pointer (some ⟨x, 0, none⟩), .pointer (some ⟨x + 2, 0, none⟩), .pointer (some ⟨x + 1, 0, none⟩)]] 75) HXX.out
      rw [← hw2] at a0 a1 a2 a3 ab
      have G0 := Lib.hid a0
      have G1 := Lib.hid a1
      have G2 := Lib.hid a2
      have G3 := Lib.hid a3
      have hb2 : Below W.heap.size W w2 := hHeld.1.trans (ab.mono hHeld.1.size)
      have HB2 := Lib.hid hb2
      clear hw2 a0 a1 a2 a3 ab
      refine hK.out _ _ ⟨hb2, pw_cell_below (hb2) Q0.out, pw_cell_below (hb2) Q1.out, pw_cell_below (hb2) Q2.out⟩ (fun hHeld => ?_)
      clear hK K
      refine norm_ (a' := ?_) ?_ ?_
      rotate_left
      · show Act.put _ (some 11) _ = _
        simp only [Act.put, List.setIfInBounds_toArray, List.set_cons_zero, List.set_cons_succ, i64_w, i32_w]
        rfl
      refine one_ (i := 7) (N := some 14) #[true, true, true, true, true, true, true, true, false, false] rfl rfl (by kernel_rfl) (by decide) (fun K hK => ?_)
      refine value_ (w1 := ?_) (v := ?_) (by rfl) rfl ?_ ?_
      rotate_left 2
      · go_simp
        constructor
        · rfl
        · rfl
      refine hK.out _ _ ⟨hHeld.1.alloc hHeld.1.size _, pw_cell_below (hHeld.1.alloc hHeld.1.size _) Q0.out, pw_cell_below (hHeld.1.alloc hHeld.1.size _) Q1.out, pw_cell_below (hHeld.1.alloc hHeld.1.size _) Q2.out⟩ (fun hHeld => ?_)
      clear hK K
      refine norm_ (a' := ?_) ?_ ?_
      rotate_left
      · show Act.put _ (some 14) _ = _
        simp only [Act.put, List.setIfInBounds_toArray, List.set_cons_zero, List.set_cons_succ, i64_w, i32_w]
        rfl
      exact norm_ (by simp only [putAll, Act.put, List.setIfInBounds_toArray, List.set_cons_zero, List.set_cons_succ]) (hCont (X, w2.heap.size) _ ⟨hHeld.1, alloc_old G0.out _, alloc_old G1.out _, alloc_old G2.out _, alloc_at w2 _ rfl, Nat.le_refl _, Nat.le_trans (Nat.le_add_right _ _) (Nat.le_of_eq G3.out.symm)⟩)
    · skip
      refine value_ (w1 := ?_) (v := ?_) (by rfl) rfl ?_ ?_
      rotate_left 2
      · go_simp
        constructor
        · rfl
        · rfl
      refine hK.out _ _ ⟨hHeld.1.alloc hHeld.1.size _, pw_cell_below (hHeld.1.alloc hHeld.1.size _) Q0.out, pw_cell_below (hHeld.1.alloc hHeld.1.size _) Q1.out, pw_cell_below (hHeld.1.alloc hHeld.1.size _) Q2.out⟩ (fun hHeld => ?_)
      clear hK K
      refine norm_ (a' := ?_) ?_ ?_
      rotate_left
      · show Act.put _ (some 14) _ = _
        simp only [Act.put, List.setIfInBounds_toArray, List.set_cons_zero, List.set_cons_succ, i64_w, i32_w]
        rfl
      refine one_ (i := 4) (N := some 11) #[true, true, true, true, true, true, true, true, false, false] rfl rfl (by kernel_rfl) (by decide) (fun K hK => ?_)
      refine goes_ Tryz.func36 (by kernel_rfl) rfl #[.pointer (some ⟨g, 0, none⟩), .string s, .func (.func 72) #[] #[.pointer (some ⟨x, 0, none⟩), .pointer (some ⟨x + 2, 0, none⟩), .pointer (some ⟨x + 1, 0, none⟩)]] (by rfl) rfl rfl (by first | (simp only [List.map_toArray, List.map_cons, List.map_nil]; done) | (simp only [List.map_toArray, List.map_cons, List.map_nil]; rfl) | rfl) ?_
      with_reducible refine (there_any g s 72 #[.pointer (some ⟨x, 0, none⟩), .pointer (some ⟨x + 2, 0, none⟩), .pointer (some ⟨x + 1, 0, none⟩)] _ (X + 1) HX1.out).mono ?_
      rintro e w2 ⟨rfl, hw2⟩
      refine ⟨_, rfl, ?_⟩
      obtain ⟨a0, a1, a2, a3, ab⟩ := allocs3 ((W.alloc (.cells #[.string s, .string r] 9)).drew) (.cells #[.pointer (some ⟨g, 0, none⟩)] 28) (.cells #[.string s] 9) (.cells #[.func (.func 72) #[] #[.pointer (some ⟨x, 0, none⟩), .pointer (some ⟨x + 2, 0, none⟩), .pointer (some ⟨x + 1, 0, none⟩)]] 75) HX1.out
      rw [← hw2] at a0 a1 a2 a3 ab
      have G0 := Lib.hid a0
      have G1 := Lib.hid a1
      have G2 := Lib.hid a2
      have G3 := Lib.hid a3
      have hb2 : Below W.heap.size W w2 := hHeld.1.trans (ab.mono hHeld.1.size)
      have HB2 := Lib.hid hb2
      have HBN := Lib.hid ((ab.block _ (blk_lt HBN0.out)).trans HBN0.out)
      clear hw2 a0 a1 a2 a3 ab
      refine hK.out _ _ ⟨hb2, pw_cell_below (hb2) Q0.out, pw_cell_below (hb2) Q1.out, pw_cell_below (hb2) Q2.out⟩ (fun hHeld => ?_)
      clear hK K
      refine norm_ (a' := ?_) ?_ ?_
      rotate_left
      · show Act.put _ (some 11) _ = _
        simp only [Act.put, List.setIfInBounds_toArray, List.set_cons_zero, List.set_cons_succ, i64_w, i32_w]
        rfl
      exact norm_ (by simp only [putAll, Act.put, List.setIfInBounds_toArray, List.set_cons_zero, List.set_cons_succ]) (hCont (X + 1, W.heap.size) _ ⟨hHeld.1, G0.out, G1.out, G2.out, HBN.out, Nat.le_add_right _ _, Nat.le_of_eq HXX.out.symm⟩)
  rintro ⟨ya, yb⟩ wx ⟨hF1, hF2, hF3, hF4, hF5, hF6, hF7⟩
  simp only at hF2 hF3 hF4 hF5 hF6 hF7
  have hHeld : Below W.heap.size W wx ∧ wx.cell? ⟨x, 0, none⟩ = some (.pointer (some ⟨g, 0, none⟩)) ∧ wx.cell? ⟨x + 1, 0, none⟩ = some (.string s) ∧ wx.cell? ⟨x + 1 + 1, 0, none⟩ = some (.string r) := ⟨hF1, pw_cell_below (hF1) Q0.out, pw_cell_below (hF1) Q1.out, pw_cell_below (hF1) Q2.out⟩
  have P0 := Lib.hid hF2
  have P1 := Lib.hid hF3
  have P2 := Lib.hid hF4
  have P3 := Lib.hid hF5
  have P4 := Lib.hid hF6
  have P5 := Lib.hid hF7
  have HBX := Lib.hid (HBW.out.trans (hF1.mono HBW.out.size))
  have HB1 := Lib.hid hF1
  clear hF1 hF2 hF3 hF4 hF5 hF6 hF7
  refine norm_ (a' := ?_) ?_ ?_
  rotate_left
  · simp only [putAll, Act.put, List.setIfInBounds_toArray, List.set_cons_zero, List.set_cons_succ]
    rfl
  refine last_ (i := 8) (N := some 15) #[true, true, true, true, true, true, true, true, true, false] rfl rfl (by kernel_rfl) (by decide) (fun K hK => ?_)
  refine goes_ Tryz.func33 (by kernel_rfl) rfl #[.pointer (some ⟨g, 0, none⟩), .func (.func 65) #[] #[.pointer (some ⟨ya, 0, none⟩), .pointer (some ⟨ya + 1, 0, none⟩), .pointer (some ⟨ya + 2, 0, none⟩)], .slice (some ⟨yb, 0, none⟩) 2 2] (by rfl) rfl rfl (by first | (simp only [List.map_toArray, List.map_cons, List.map_nil]; done) | (simp only [List.map_toArray, List.map_cons, List.map_nil]; rfl) | rfl) ?_
  with_reducible refine (HDEED.out _ _ _ hHeld.1 P0.out P1.out P2.out P3.out P4.out P5.out).mono ?_
  rintro e w9 hp
  have HP := Lib.hid (deedP_from HBX.out H.out.lt hp)
  obtain ⟨D', kk, rfl, _⟩ := hp
  refine ⟨_, rfl, ?_⟩
  refine hK.out _ _ ?_
  clear hK K
  refine norm_ (a' := ?_) ?_ ?_
  rotate_left
  · show Act.put _ (some 15) _ = _
    simp only [Act.put, List.setIfInBounds_toArray, List.set_cons_zero, List.set_cons_succ, i64_w, i32_w]
    rfl
  refine pure_ (i := 9) (N := some 6) (v := ?_) (a' := ?_) #[true, true, true, true, true, true, true, true, true, true] rfl rfl (by kernel_rfl) (fun _ _ _ h => h) (Or.inl ⟨by rfl, ?_⟩) ?_ ?_
  rotate_left
  · intro w'
    go_simp
    with_reducible rfl
  rotate_left
  · simp only [Act.put, List.setIfInBounds_toArray, List.set_cons_zero, List.set_cons_succ, i64_w, i32_w]
    rfl
  refine done_ (by kernel_rfl) ?_
  --S2
  go_wp2
  go_ret
  have h := HP.out
  simp only [List.all_cons, List.all_nil, Bool.and_true] at h
  exact h
end Go.Proofs.YtononoakdebjeaaGreatDoor.Dk
