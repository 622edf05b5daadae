/- disk.Restart (walk). -/
import Derived.Test.YtononoakdebjeaaGreatDoorDkKeys
import Derived.Test.YtononoakdebjeaaGreatDoorDkLawP
namespace Go.Proofs.YtononoakdebjeaaGreatDoor.Dk
open Go.RowKit Go.Proofs.YtononoakdebjeaaGreatDoorW.PrintWords Go.Proofs.YtononoakdebjeaaGreatDoorW.PrintLast Go.Proofs.YtononoakdebjeaaGreatDoor.Base Go.Proofs.YtononoakdebjeaaGreatDoor.Path Go.Maps Go.Sort
set_option linter.unusedVariables false
set_option linter.unusedSimpArgs false
/-- A row of whole numbers that is read. -/
def Ti (w : World) (v : Value) (l : List Int) : Prop := ∃ A c, v = .slice A l.length c ∧ ReadsInt w .i64 A l.length l
theorem mid_of {S : Nat → Prop} {c g ms mf : Nat} {vp : Value} {w w' : World} {D : DiskV} (h : Dk S c w g D) (hg : w.heap[g]? = some (.cells (dcells D mf ms vp) 80 (0, 0))) (hms : S ms) (hd : DirAt w ms D.sure) (hp : kch.R 84 w 0 S vp (D.pend.map ChV.x))
    (hk : ∀ k, k < w.heap.size → k ≠ g → w'.heap[k]? = w.heap[k]?) (hsz : w.heap.size ≤ w'.heap.size) (hc : w'.heap[g]? = some (.cells (dcells D ms ms vp) 80 (0, 0))) : Mid ms vp S c w' g { D with dir := D.sure } := by
  have hty : ∀ {k : Nat} {cs : Array Value} {t : TypeId}, w.heap[k]? = some (.cells cs t (0, 0)) → t ≠ 80 → k ≠ g := fun hb ht e => by
    rw [e, hg] at hb
    injection hb with hb
    injection hb with _ hb _
    exact ht hb.symm
  have hH : ∀ i, Has { D with dir := D.sure } i → Has D i := fun i hi => by
    rcases hi with hi | hi | hi
    · exact .inr (.inl hi)
    · exact .inr (.inl hi)
    · exact .inr (.inr hi)
  obtain ⟨dv, h8, h9⟩ := h.fl
  have ok := h.ok
  refine ⟨fun k hk2 => Nat.lt_of_lt_of_le (h.lt k hk2) hsz, h.sg, hms, ⟨ok.quota, ok.clock1, ok.clock, ok.deeds, ok.armed, ok.up, by show D.sure.length ≤ c; have := ok.few; omega, ok.names, ok.chs, fun i hi => ok.file i (hH i hi)⟩, hc, hd.block (hk ms (h.lt ms hms) (VMap.ne hd hg)), ?_, ⟨dv, fun i hi => ?_, fun i j k hi hj => h9 i j k (hH i hi) (hH j hj)⟩⟩
  · exact kch_move hp (fun k cells hks hcl => hk k (h.lt k hks) (hty hcl (by decide)))
  · obtain ⟨a, b, d⟩ := h8 i (hH i hi)
    exact ⟨a, (hk i (h.lt i a) (hty b (by decide))).trans b, d.keep (fun k cells hks hcl => hk k (h.lt k hks) (hty hcl (by decide)))⟩
/-- The directory turns. -/
theorem Mid.dirTurn {S : Nat → Prop} {c g ms : Nat} {vp : Value} {w w' : World} {D : DiskV} {L : Dir} (h : Mid ms vp S c w g D) (hk : ∀ k, k < w.heap.size → k ≠ ms → w'.heap[k]? = w.heap[k]?) (hsz : w.heap.size ≤ w'.heap.size) (hd : DirAt w' ms L) (hu : UpD L) (hl : L.length ≤ c) (hn : ∀ p ∈ L, p.1.size ≤ maxLen)
    (hH : ∀ i, Has { D with dir := L } i → Has D i) : Mid ms vp S c w' g { D with dir := L } := by
  obtain ⟨dv, h8, h9⟩ := h.fl
  have ok := h.ok
  have hty : ∀ {k : Nat} {cs : Array Value} {t : TypeId}, w.heap[k]? = some (.cells cs t (0, 0)) → k ≠ ms := fun hb => (VMap.ne h.dir hb).symm
  refine ⟨fun k hk2 => Nat.lt_of_lt_of_le (h.lt k hk2) hsz, h.sg, h.sm, ⟨ok.quota, ok.clock1, ok.clock, ok.deeds, ok.armed, hu, hl, hn, ok.chs, fun i hi => ok.file i (hH i hi)⟩, (hk g (h.lt g h.sg) (hty h.blk)).trans h.blk, hd, kch_move h.pend (fun k cells hks hcl => hk k (h.lt k hks) (hty hcl)), ⟨dv, fun i hi => ?_, fun i j k hi hj => h9 i j k (hH i hi) (hH j hj)⟩⟩
  obtain ⟨a, b, d⟩ := h8 i (hH i hi)
  exact ⟨a, (hk i (h.lt i a) (hty b)).trans b, d.keep (fun k cells hks hcl => hk k (h.lt k hks) (hty hcl))⟩
/-- v[:n] of changes. -/
theorem slice_chs (A : Option Addr) (m c n : Nat) (hn : n ≤ c) (W : World) : (Instr.slice 78 (.slice A m c) none (some (.int .i64 (n : Int))) none).run Tryz.prog W = .ok (.slice A n c) W := by
  have hi : (Tryz.prog.info? 84).map (fun i => i.size) = some 3 := by kernel_rfl
  obtain ⟨i0, hi, hz⟩ := Option.map_eq_some_iff.1 hi
  have hel : Tryz.prog.elem 78 = 84 := by simp [Program.elem, Tryz.underlying78]
  have hu : Tryz.prog.underlying 78 = some (.slice (Tryz.prog.elem 78)) := by rw [hel]; exact Tryz.underlying78
  rw [run_slice_h W 78 A m c hu .i64 (n : Int) (by omega) (by omega), hel]
  simp [sizeOf, typeInfo, hi, hz, sliced, Result.andThen]
  intro _
  cases A with
  | none => rfl
  | some a => rfl
theorem pend_at {S : Nat → Prop} {w : World} {A : Option Addr} {n c : Nat} {l : List ChV} (h : kch.R 84 w 0 S (.slice A n c) (l.map ChV.x)) (hn : n = l.length) (k : Nat) (hk : k < l.length) :
    ∃ q, A = some ⟨q, 0, none⟩ ∧ w.cell? ⟨q, k * 3, none⟩ = some (.string l[k].name) ∧ w.cell? ⟨q, k * 3 + 1, none⟩ = some (optr l[k].dst) ∧ w.cell? ⟨q, k * 3 + 2, none⟩ = some (.string l[k].gone) := by
  obtain ⟨g, cap, e, _⟩ := Kd.R_form h (by rw [List.length_map]; omega)
  injection e with e1 e2 e3
  obtain ⟨A', c', e', _, hC⟩ := Kd.R_reads h
  injection e' with e1' _ _
  rw [← e1'] at hC
  obtain ⟨ad, cs, ea, hl, hK, hcell⟩ := Kd.C_get hC ⟨⟨#[]⟩, none, ⟨#[]⟩⟩ (k : Int) (by omega) (by rw [List.length_map]; omega)
  rw [e1] at ea
  obtain rfl := Option.some.inj ea
  refine ⟨g, e1, ?_⟩
  have hx : (l.map ChV.x).getD (k : Int).toNat ⟨⟨#[]⟩, none, ⟨#[]⟩⟩ = l[k].x := by
    rw [Int.toNat_natCast, List.getD_eq_getElem?_getD, List.getElem?_map, List.getElem?_eq_getElem hk]
    rfl
  rw [hx] at hK
  rw [Int.toNat_natCast] at hcell
  have hadd : ∀ j, (⟨g, 0, none⟩ : Addr).add j = ⟨g, j, none⟩ := fun j => by
    by_cases h0 : j = 0
    · subst h0; rfl
    · simp [Addr.add, h0]
  have hcs : cs = [.string l[k].name, optr l[k].dst, .string l[k].gone] := by
    obtain ⟨c0, c1, rfl, h0, c2, c3, rfl, h1, h2⟩ := hK
    rw [show c0 = _ from h0, show c2 = _ from h1, show c3 = _ from h2]
    rfl
  subst hcs
  refine ⟨?_, ?_, ?_⟩
  · have := hcell 0 _ rfl
    rwa [hadd] at this
  · have := hcell 1 _ rfl
    rwa [hadd] at this
  · have := hcell 2 _ rfl
    rwa [hadd] at this
theorem row_name {w : World} {A : Option Addr} {n c : Nat} {L : Dir} (h : w.ownsRow 0 9 1 (.slice A n c) n ((pathsL L).map encS)) {j : Nat} (hj : j < L.length) (hn : j < n) :
    ∃ q, A = some ⟨q, 0, none⟩ ∧ w.cell? ⟨q, j, none⟩ = some (.string (L[j]).1) := by
  rcases h.2 with ⟨_, h0⟩ | ⟨q, cap, cur, e, _, hq, _, _, _, ht⟩
  · omega
  · injection e with e1 _ _
    refine ⟨q, e1, ?_⟩
    rw [blk_cell hq j, ← Array.getElem?_toList]
    have h1 := congrArg (·[j]?) ht
    simp only [List.getElem?_take, List.getElem?_map] at h1
    rw [if_pos (by omega)] at h1
    rw [h1]
    unfold pathsL
    rw [List.getElem?_map, List.getElem?_eq_getElem hj]
    simp [encS]
theorem cutsAll_snoc (tails : List Int) (p : ByteArray × Nat) : ∀ (L : Dir) (D : DiskV) (k : Nat), cutsAll D tails (L ++ [p]) k = cutsV (cutsAll D tails L k) p.2 (tailOf tails (k + L.length))
  | [], D, k => rfl
  | q :: L, D, k => by
    show cutsAll (cutsV D q.2 (tailOf tails k)) tails (L ++ [p]) (k + 1) = cutsV (cutsAll (cutsV D q.2 (tailOf tails k)) tails L (k + 1)) p.2 _
    rw [cutsAll_snoc tails p L, List.length_cons]
    congr 2
    omega
/-- Behind a restart. -/
theorem mid_end {S : Nat → Prop} {c g ms m3 : Nat} {vp : Value} {w w' : World} {D : DiskV} (h : Mid ms vp S c w g D) (hk : ∀ k, k < w.heap.size → k ≠ g → w'.heap[k]? = w.heap[k]?) (hsz : w.heap.size ≤ w'.heap.size) (h1 : w.heap.size ≤ m3) (h2 : m3 < w'.heap.size) (hd : DirAt w' m3 D.dir)
    (hc : w'.heap[g]? = some (.cells (dcells { D with sure := D.dir, pend := [], armed := -1, down := false } ms m3 (.slice none 0 0)) 80 (0, 0))) : Dk (Sx S w w') c w' g { D with sure := D.dir, pend := [], armed := -1, down := false } := by
  have hH : ∀ i, Has { D with sure := D.dir, pend := [], armed := -1, down := false } i → Has D i := fun i hi => by
    rcases hi with hi | hi | ⟨d, hd, _⟩
    · exact .inl hi
    · exact .inl hi
    · cases hd
  have hty : ∀ {k : Nat} {cs : Array Value} {t : TypeId}, w.heap[k]? = some (.cells cs t (0, 0)) → t ≠ 80 → k ≠ g := fun hb ht e => by
    rw [e, h.blk] at hb
    injection hb with hb
    injection hb with _ hb _
    exact ht hb.symm
  obtain ⟨dv, h8, h9⟩ := h.fl
  have ok := h.ok
  refine ⟨fun k hk => hk.elim (fun hs => Nat.lt_of_lt_of_le (h.lt k hs) hsz) (·.2), .inl h.sg, ⟨ok.quota, ok.clock1, ok.clock, ok.deeds, by show -1 ≤ (-1 : Int) ∧ (-1 : Int) ≤ _; omega, ok.up, rfl, by show D.dir.length + 0 ≤ c; have := ok.few; omega, ok.names, (fun q hq => by cases hq), fun i hi => ok.file i (hH i hi)⟩,
    ⟨ms, m3, .slice none 0 0, hc, .inl h.sm, .inr ⟨h1, h2⟩, fun e => by have := h.lt ms h.sm; omega, h.dir.block (hk ms (h.lt ms h.sm) (VMap.ne h.dir h.blk)), hd, Kd.R_nil _ _ _ _ _⟩, ⟨dv, fun i hi => ?_, fun i j k hi hj => h9 i j k (hH i hi) (hH j hj)⟩⟩
  obtain ⟨a, b, d⟩ := h8 i (hH i hi)
  exact ⟨.inl a, (hk i (h.lt i a) (hty b (by decide))).trans b, (d.keep (fun k cells hks hcl => hk k (h.lt k hks) (hty hcl (by decide)))).mono (fun k hk => .inl hk)⟩
--BEGIN WALK
set_option maxRecDepth 100000 in
set_option maxHeartbeats 4000000 in
theorem restart_any (S : Nat → Prop) (c N g : Nat) (D : DiskV) (dirN : Int) (vt : Value) (tails : List Int) (w : World) (h : Dk S c w g D) (hN : D.sure.length + D.pend.length ≤ N) (ht : ∀ W, Foot S w W → Ti W vt tails) (hd : -9223372036854775808 ≤ dirN ∧ dirN ≤ 9223372036854775807) (htl : tails.length ≤ 1000000) (hc : c + N ≤ 10000000) :
    Calls Tryz.prog 16 #[.pointer (some ⟨g, 0, none⟩), .agg #[.int .i64 dirN, vt]] w fun e w' => e = .returned (.tuple #[]) ∧ Dk (Sx S w w') (c + N + 1) w' g (restartV D dirN tails) ∧ Foot S w w' := by
  obtain ⟨x, hx⟩ : ∃ x, w.heap.size = x := ⟨_, rfl⟩
  obtain ⟨mf, ms, vp, h1, hmf, hms, hne, h5, h6, h7⟩ := h.ex
  obtain ⟨At, ct, hvt, _⟩ := ht w (Foot.refl _ _)
  obtain ⟨nt, hnt⟩ : ∃ nt, nt = tails.length := ⟨_, rfl⟩
  rw [← hnt] at hvt
  subst hvt
  obtain ⟨Ap, cp, hvp⟩ := Kd.R_slice h7
  obtain ⟨np, hnp⟩ : ∃ np, np = (D.pend.map ChV.x).length := ⟨_, rfl⟩
  rw [← hnp] at hvp
  subst hvp
  have hcp : np ≤ cp := by
    obtain ⟨A', c', e, hle, _⟩ := Kd.R_reads h7
    injection e with _ e2 e3
    rw [e3, hnp]
    exact hle
  have hnpl : np = D.pend.length := by rw [hnp, List.length_map]
  obtain ⟨W, hW⟩ : ∃ W, W = w.alloc (.cells #[.int .i64 dirN, .slice At nt ct] 26) := ⟨_, rfl⟩
  have hb : Below w.heap.size w W := by rw [hW]; exact below_alloc (Below.refl _ _) _
  have hX : W.heap[x]? = some (.cells #[.int .i64 dirN, .slice At nt ct] 26 (0, 0)) := by rw [hW]; exact alloc_at w _ hx
  have hgx : g < x := by rw [← hx]; exact h.lt g h.sg
  have hG : W.heap[g]? = some (.cells (dcells D mf ms (.slice Ap np cp)) 80 (0, 0)) := (hb.block g (h.lt g h.sg)).trans h1
  have H := Lib.hid h
  have HT := Lib.hid ht
  have HNN := Lib.hid hN
  have HW := Lib.hid hW
  have HB := Lib.hid hb
  have HX := Lib.hid hX
  have HXS := Lib.hid hx
  have HMS := Lib.hid hms
  have HG := Lib.hid hG
  have HNP := Lib.hid hnpl
  have HNT := Lib.hid hnt
  have HCP := Lib.hid hcp
  have HDW := Lib.hid (h.below hb)
  have H6 := Lib.hid (h6.block (hb.block ms (h.lt ms hms)))
  have H7 := Lib.hid (Kd.R_move h7 (fun k hk => hb.block k (h.lt k hk)))
  have HGX := Lib.hid hgx
  have g6 := (show W.cell? ⟨g, 6, none⟩ = some (.map (some ms)) from blk_cell hG 6)
  have g5 := blk_cell hG 5
  have f5 := blk_frozen hG 5
  clear h ht hN h1 hmf hms hne h5 h6 h7 hnp hnpl hnt hW hb hX hgx hG hcp
  go_enter Tryz.func16, Tryz.ntmps16
  go_upto_region 2 with (fail)
  rw [← HW.out]
  go_wp2_with fail
  clear g5 f5 g6
  obtain ⟨W2, hW2⟩ : ∃ W2, W2 = W.setCell ⟨g, 5, none⟩ (.map (some ms)) := ⟨_, rfl⟩
  rw [← hW2]
  have hk2 : ∀ k, k ≠ g → W2.heap[k]? = W.heap[k]? := fun k hk => by rw [hW2]; exact Below.heap_setCell _ _ _ _ hk
  have hz2 : W2.heap.size = W.heap.size := by rw [hW2]; simp
  have hG2 : W2.heap[g]? = some (.cells (dcells D ms ms (.slice Ap np cp)) 80 (0, 0)) := by rw [hW2]; exact (blk_set HG.out 5 _).trans rfl
  have hMid : Mid ms (.slice Ap np cp) S c W2 g { D with dir := D.sure } := mid_of HDW.out HG.out HMS.out H6.out H7.out (fun k _ hk => hk2 k hk) (Nat.le_of_eq hz2.symm) hG2
  have hX2 : W2.heap[x]? = some (.cells #[.int .i64 dirN, .slice At nt ct] 26 (0, 0)) := (hk2 x (by have := HGX.out; omega)).trans HX.out
  have hf2 : Foot S w W2 := (Foot.of_below HB.out).trans (by rw [hW2]; exact (Foot.refl S W).setCell H.out.sg 5 _)
  obtain ⟨nk, hnk⟩ : ∃ nk : Nat, nk = min (max dirN 0).toNat np := ⟨_, rfl⟩
  have hnp2 : nk ≤ np := by omega
  have hsl : ∀ V : World, (Instr.slice 78 (.slice Ap np cp) none (some (.int .i64 (min (max dirN 0) (np : Int)))) none).run Tryz.prog V = .ok (.slice Ap nk cp) V := fun V => by
    rw [show min (max dirN 0) (np : Int) = (nk : Int) by omega]
    exact slice_chs Ap np cp nk (by have := HCP.out; omega) V
  have HM2 := Lib.hid hMid
  have HX2 := Lib.hid hX2
  have HF2 := Lib.hid hf2
  have HNK := Lib.hid hnk
  have HNK2 := Lib.hid hnp2
  have Y0 := Lib.hid (show W2.cell? ⟨g, 7, none⟩ = some (.slice Ap np cp) from blk_cell hG2 7)
  have Y1 := Lib.hid (show W2.cell? ⟨x, 0, none⟩ = some (.int .i64 dirN) from blk_cell hX2 0)
  have HZ2 : Hid (w.heap.size ≤ W2.heap.size) := hf2.size
  clear hk2 hz2 hG2 hMid hX2 hf2 hnk hnp2 hW2
  --S
  refine start_ (n := 16) (S := fun w' => w'.cell? ⟨g, 7, none⟩ = some (.slice Ap np cp) ∧ w'.cell? ⟨x, 0, none⟩ = some (.int .i64 dirN)) (ds := []) #[false, false, false, false, false, false, false, false, false, false, false, false, false, false, false, false] (by kernel_rfl) rfl rfl ⟨Y0.out, Y1.out⟩ (fun hHeld => ?_)
  refine pure_ (i := 0) (N := some 18) (v := ?_) (a' := ?_) #[true, false, false, false, false, false, false, false, false, false, false, false, false, false, false, false] rfl rfl (by kernel_rfl) (fun _ _ _ h => h) (Or.inl ⟨by rfl, ?_⟩) ?_ ?_
  rotate_left
  · intro w'
    go_simp
    with_reducible rfl
  rotate_left
  · simp only [Act.put, List.setIfInBounds_toArray, List.set_cons_zero, List.set_cons_succ, i64_w, i32_w]
    rfl
  refine pure_ (i := 1) (N := some 19) (v := ?_) (a' := ?_) #[true, true, false, false, false, false, false, false, false, false, false, false, false, false, false, false] rfl rfl (by kernel_rfl) (fun _ _ _ h => h) (Or.inl ⟨by rfl, ?_⟩) ?_ ?_
  rotate_left
  · intro w'
    go_simp
    with_reducible rfl
  rotate_left
  · simp only [Act.put, List.setIfInBounds_toArray, List.set_cons_zero, List.set_cons_succ, i64_w, i32_w]
    rfl
  refine pure_ (i := 2) (N := some 20) (v := ?_) (a' := ?_) #[true, true, true, false, false, false, false, false, false, false, false, false, false, false, false, false] rfl rfl (by kernel_rfl) (fun _ _ _ h => h) (Or.inl ⟨by rfl, ?_⟩) ?_ ?_
  rotate_left
  · intro w'
    go_simp
    with_reducible rfl
  rotate_left
  · simp only [Act.put, List.setIfInBounds_toArray, List.set_cons_zero, List.set_cons_succ, i64_w, i32_w]
    rfl
  refine pure_ (i := 4) (N := some 22) (v := ?_) (a' := ?_) #[true, true, true, false, true, false, false, false, false, false, false, false, false, false, false, false] rfl rfl (by kernel_rfl) (fun _ _ _ h => h) (Or.inl ⟨by rfl, ?_⟩) ?_ ?_
  rotate_left
  · intro w'
    go_simp
    with_reducible rfl
  rotate_left
  · simp only [Act.put, List.setIfInBounds_toArray, List.set_cons_zero, List.set_cons_succ, i64_w, i32_w]
    rfl
  refine pure_ (i := 7) (N := some 25) (v := ?_) (a' := ?_) #[true, true, true, false, true, false, false, true, false, false, false, false, false, false, false, false] rfl rfl (by kernel_rfl) (fun _ _ _ h => h) (Or.inl ⟨by rfl, ?_⟩) ?_ ?_
  rotate_left
  · intro w'
    go_simp
    with_reducible rfl
  rotate_left
  · simp only [Act.put, List.setIfInBounds_toArray, List.set_cons_zero, List.set_cons_succ, i64_w, i32_w]
    rfl
  refine pure_ (i := 8) (N := some 26) (v := ?_) (a' := ?_) #[true, true, true, false, true, false, false, true, true, false, false, false, false, false, false, false] rfl rfl (by kernel_rfl) (fun _ _ _ h => h) (Or.inl ⟨by rfl, ?_⟩) ?_ ?_
  rotate_left
  · intro w'
    go_simp
    with_reducible rfl
  rotate_left
  · simp only [Act.put, List.setIfInBounds_toArray, List.set_cons_zero, List.set_cons_succ, i64_w, i32_w]
    rfl
  refine pure_ (i := 9) (N := some 27) (v := ?_) (a' := ?_) #[true, true, true, false, true, false, false, true, true, true, false, false, false, false, false, false] rfl rfl (by kernel_rfl) (fun _ _ _ h => h) (Or.inl ⟨by rfl, ?_⟩) ?_ ?_
  rotate_left
  · intro w'
    go_simp
    with_reducible rfl
  rotate_left
  · simp only [Act.put, List.setIfInBounds_toArray, List.set_cons_zero, List.set_cons_succ, i64_w, i32_w]
    rfl
  refine pure_ (i := 15) (N := some 33) (v := ?_) (a' := ?_) #[true, true, true, false, true, false, false, true, true, true, false, false, false, false, false, true] rfl rfl (by kernel_rfl) (fun _ _ _ h => h) (Or.inl ⟨by rfl, ?_⟩) ?_ ?_
  rotate_left
  · intro w'
    go_simp
    with_reducible rfl
  rotate_left
  · simp only [Act.put, List.setIfInBounds_toArray, List.set_cons_zero, List.set_cons_succ, i64_w, i32_w]
    rfl
  refine take_ (i := 3) (N := some 21) (v := ?_) (a' := ?_) #[true, true, true, true, true, false, false, true, true, true, false, false, false, false, false, true] rfl rfl (by kernel_rfl) (fun _ _ _ h => h) (Or.inl ⟨by rfl, ?_⟩) hHeld ?_ ?_
  rotate_left
  · rintro w' ⟨s0, s1⟩
    go_simp
    with_reducible rfl
  rotate_left
  · simp only [Act.put, List.setIfInBounds_toArray, List.set_cons_zero, List.set_cons_succ, i64_w, i32_w]
    rfl
  refine take_ (i := 5) (N := some 23) (v := ?_) (a' := ?_) #[true, true, true, true, true, true, false, true, true, true, false, false, false, false, false, true] rfl rfl (by kernel_rfl) (fun _ _ _ h => h) (Or.inl ⟨by rfl, ?_⟩) hHeld ?_ ?_
  rotate_left
  · rintro w' ⟨s0, s1⟩
    go_simp
    with_reducible rfl
  rotate_left
  · simp only [Act.put, List.setIfInBounds_toArray, List.set_cons_zero, List.set_cons_succ, i64_w, i32_w]
    rfl
  refine pure_ (i := 6) (N := some 24) (v := ?_) (a' := ?_) #[true, true, true, true, true, true, true, true, true, true, false, false, false, false, false, true] rfl rfl (by kernel_rfl) (fun _ _ _ h => h) (Or.inl ⟨by rfl, ?_⟩) ?_ ?_
  rotate_left
  · intro w'
    go_simp
    with_reducible rfl
  rotate_left
  · simp only [Act.put, List.setIfInBounds_toArray, List.set_cons_zero, List.set_cons_succ, i64_w, i32_w]
    rfl
  refine take_ (i := 10) (N := some 28) (v := ?_) (a' := ?_) #[true, true, true, true, true, true, true, true, true, true, true, false, false, false, false, true] rfl rfl (by kernel_rfl) (fun _ _ _ h => h) (Or.inl ⟨by rfl, ?_⟩) hHeld ?_ ?_
  rotate_left
  · rintro w' ⟨s0, s1⟩
    go_simp
    with_reducible rfl
  rotate_left
  · simp only [Act.put, List.setIfInBounds_toArray, List.set_cons_zero, List.set_cons_succ, i64_w, i32_w]
    rfl
  refine pure_ (i := 11) (N := some 29) (v := ?_) (a' := ?_) #[true, true, true, true, true, true, true, true, true, true, true, true, false, false, false, true] rfl rfl (by kernel_rfl) (fun _ _ _ h => h) (Or.inl ⟨by rfl, ?_⟩) ?_ ?_
  rotate_left
  · intro w'
    go_simp
    with_reducible rfl
  rotate_left
  · simp only [Act.put, List.setIfInBounds_toArray, List.set_cons_zero, List.set_cons_succ, i64_w, i32_w]
    rfl
  refine pure_ (i := 12) (N := some 30) (v := ?_) (a' := ?_) #[true, true, true, true, true, true, true, true, true, true, true, true, true, false, false, true] rfl rfl (by kernel_rfl) (fun _ _ _ h => h) (Or.inl ⟨by rfl, ?_⟩) ?_ ?_
  rotate_left
  · intro w'
    go_simp
    with_reducible rfl
  rotate_left
  · simp only [Act.put, List.setIfInBounds_toArray, List.set_cons_zero, List.set_cons_succ, i64_w, i32_w]
    rfl
  refine pure_ (i := 13) (N := some 31) (v := ?_) (a' := ?_) #[true, true, true, true, true, true, true, true, true, true, true, true, true, true, false, true] rfl rfl (by kernel_rfl) (fun _ _ _ h => h) (Or.inl ⟨by rfl, ?_⟩) ?_ ?_
  rotate_left
  · intro w'
    go_simp
    with_reducible rfl
  rotate_left
  · simp only [Act.put, List.setIfInBounds_toArray, List.set_cons_zero, List.set_cons_succ, i64_w, i32_w]
    rfl
  refine pure_ (i := 14) (N := some 32) (v := ?_) (a' := ?_) #[true, true, true, true, true, true, true, true, true, true, true, true, true, true, true, true] rfl rfl (by kernel_rfl) (fun _ _ _ h => h) (Or.inl ⟨by rfl, ?_⟩) ?_ ?_
  rotate_left
  · intro w'
    go_simp
    with_reducible rfl
  rotate_left
  · simp only [Act.put, List.setIfInBounds_toArray, List.set_cons_zero, List.set_cons_succ, i64_w, i32_w]
    rfl
  refine done_ (by kernel_rfl) ?_
  --S2
  clear hHeld hsl
  obtain ⟨W3, hW3⟩ : ∃ W3, W3 = W2.drew := ⟨_, rfl⟩
  rw [← hW3]
  have HM3 : Hid (Mid ms (.slice Ap np cp) S c W3 g { D with dir := D.sure }) := by rw [hW3]; exact HM2.out.move (fun _ _ => rfl)
  have HX3 : Hid (W3.heap[x]? = some (.cells #[.int .i64 dirN, .slice At nt ct] 26 (0, 0))) := by rw [hW3]; exact HX2.out
  have HF3 : Hid (Foot S w W3) := by rw [hW3]; exact Foot.drew HF2.out
  clear hW3
  have hnkb : nk ≤ 10000000 := by have h1 := HNK2.out; have h2 := HNP.out; have h3 := HNN.out; omega
  go_wp2
  go_loopw [33] (fun i wr => ∃ k : Nat, k ≤ nk ∧ i = .int .i64 k ∧ Hid (Mid ms (.slice Ap np cp) S c wr g { D with dir := (D.pend.take k).foldl chDo D.sure }) ∧ Hid (Foot S w wr) ∧ Hid (wr.heap[x]? = some (.cells #[.int .i64 dirN, .slice At nt ct] 26 (0, 0)))) (fun i _ => nk - (intOf i).toNat)
  case atStart =>
    refine ⟨0, Nat.zero_le _, rfl, ?_, HF3.out, HX3.out⟩
    rw [List.take_zero]
    exact HM3.out
  case round =>
    obtain ⟨k, hk, rfl, HM, HF, HXX⟩ := hrel
    by_cases l1 : k < nk
    · --S3
      have hpl : k < D.pend.length := by have := HNK2.out; have := HNP.out; omega
      obtain ⟨ch, hch⟩ : ∃ ch, ch = D.pend[k] := ⟨_, rfl⟩
      obtain ⟨q, hq0, hc0, hc1, hc2⟩ := pend_at HM.out.pend HNP.out k hpl
      rw [← hch] at hc0 hc1 hc2
      subst hq0
      have HCH := Lib.hid hch
      clear hch
      have g5 := (show wr.cell? ⟨g, 5, none⟩ = some (.map (some ms)) from blk_cell HM.out.blk 5)
      obtain ⟨z, hz⟩ : ∃ z, wr.heap.size = z := ⟨_, rfl⟩
      obtain ⟨W5, hW5⟩ : ∃ W5, W5 = wr.alloc (.cells #[.string ch.name, optr ch.dst, .string ch.gone] 84) := ⟨_, rfl⟩
      have HW5 := Lib.hid hW5
      have hZ5 : W5.heap[z]? = some (.cells #[.string ch.name, optr ch.dst, .string ch.gone] 84 (0, 0)) := by rw [hW5]; exact alloc_at wr _ hz
      have hb5 : Below wr.heap.size wr W5 := by rw [hW5]; exact below_alloc (Below.refl _ _) _
      have HZ5 := Lib.hid hZ5
      have HB5 := Lib.hid hb5
      have Z0 := Lib.hid (blk_cell hZ5 0)
      have Z1 := Lib.hid (blk_cell hZ5 1)
      have Z2 := Lib.hid (blk_cell hZ5 2)
      have Z5 := Lib.hid (pw_cell_below hb5 g5)
      have HDM : Hid (DirAt W5.drew ms ((D.pend.take k).foldl chDo D.sure)) := (HM.out.below hb5).dir.block rfl
      have hlen : ((D.pend.take k).foldl chDo D.sure).length < 1000000000 := by have h1 := HM.out.ok.few; have h2 : ((D.pend.take k).foldl chDo D.sure).length ≤ c := h1; omega
      have hchm : ch ∈ D.pend := by rw [HCH.out]; exact List.getElem_mem hpl
      have HDO := Lib.hid (does_any ms _ ch W5.drew HDM.out HM.out.ok.up hlen (H.out.ok.chs ch hchm).1 (H.out.ok.chs ch hchm).2.1 (H.out.ok.chs ch hchm).2.2)
      have HCM := Lib.hid hchm
      clear hW5 hZ5 hb5 hlen hchm g5
      go_wp2_with fail
      rw [← HW5.out]
      clear hc0 hc1 hc2 hz
      --S3b
      refine start_ (n := 6) (S := fun w' => w'.cell? ⟨z, 0, none⟩ = some (.string ch.name) ∧ w'.cell? ⟨z, 1, none⟩ = some (optr ch.dst) ∧ w'.cell? ⟨z, 2, none⟩ = some (.string ch.gone) ∧ w'.cell? ⟨g, 5, none⟩ = some (.map (some ms))) (ds := [5]) #[false, false, false, false, false, false] (by kernel_rfl) rfl rfl ⟨Z0.out, Z1.out, Z2.out, Z5.out⟩ (fun hHeld => ?_)
      refine pure_ (i := 1) (N := some 38) (v := ?_) (a' := ?_) #[false, true, false, false, false, false] rfl rfl (by kernel_rfl) (fun _ _ _ h => h) (Or.inl ⟨by rfl, ?_⟩) ?_ ?_
      rotate_left
      · intro w'
        go_simp
        with_reducible rfl
      rotate_left
      · simp only [Act.put, List.setIfInBounds_toArray, List.set_cons_zero, List.set_cons_succ, i64_w, i32_w]
        rfl
      refine pure_ (i := 2) (N := some 39) (v := ?_) (a' := ?_) #[false, true, true, false, false, false] rfl rfl (by kernel_rfl) (fun _ _ _ h => h) (Or.inl ⟨by rfl, ?_⟩) ?_ ?_
      rotate_left
      · intro w'
        go_simp
        with_reducible rfl
      rotate_left
      · simp only [Act.put, List.setIfInBounds_toArray, List.set_cons_zero, List.set_cons_succ, i64_w, i32_w]
        rfl
      refine pure_ (i := 3) (N := some 40) (v := ?_) (a' := ?_) #[false, true, true, true, false, false] rfl rfl (by kernel_rfl) (fun _ _ _ h => h) (Or.inl ⟨by rfl, ?_⟩) ?_ ?_
      rotate_left
      · intro w'
        go_simp
        with_reducible rfl
      rotate_left
      · simp only [Act.put, List.setIfInBounds_toArray, List.set_cons_zero, List.set_cons_succ, i64_w, i32_w]
        rfl
      refine take_ (i := 0) (N := some 37) (v := ?_) (a' := ?_) #[true, true, true, true, false, false] rfl rfl (by kernel_rfl) (fun _ _ _ h => h) (Or.inl ⟨by rfl, ?_⟩) hHeld ?_ ?_
      rotate_left
      · rintro w' ⟨s0, s1, s2, s3⟩
        go_simp
        with_reducible rfl
      rotate_left
      · simp only [Act.put, List.setIfInBounds_toArray, List.set_cons_zero, List.set_cons_succ, i64_w, i32_w]
        rfl
      refine take_ (i := 4) (N := some 41) (v := ?_) (a' := ?_) #[true, true, true, true, true, false] rfl rfl (by kernel_rfl) (fun _ _ _ h => h) (Or.inl ⟨by rfl, ?_⟩) hHeld ?_ ?_
      rotate_left
      · rintro w' ⟨s0, s1, s2, s3⟩
        go_simp
        with_reducible rfl
      rotate_left
      · simp only [Act.put, List.setIfInBounds_toArray, List.set_cons_zero, List.set_cons_succ, i64_w, i32_w]
        rfl
      refine last_ (i := 5) (N := some 42) #[true, true, true, true, true, true] rfl rfl (by kernel_rfl) (by decide) (fun K hK => ?_)
      refine goes_ Tryz.func41 (by kernel_rfl) rfl #[cagg ch, .map (some ms)] (by rfl) rfl rfl (by first | (simp only [List.map_toArray, List.map_cons, List.map_nil]; done) | (simp only [List.map_toArray, List.map_cons, List.map_nil]; rfl) | rfl) ?_
      with_reducible refine (HDO.out).mono ?_
      rintro e w6 ⟨rfl, d6, f6⟩
      refine ⟨_, rfl, ?_⟩
      have HD6 := Lib.hid d6
      have HF6 := Lib.hid f6
      clear d6 f6
      refine hK.out _ _ ?_
      clear hK K
      refine norm_ (a' := ?_) ?_ ?_
      rotate_left
      · show Act.put _ (some 42) _ = _
        simp only [Act.put, List.setIfInBounds_toArray, List.set_cons_zero, List.set_cons_succ, i64_w, i32_w]
        rfl
      refine done_ (by kernel_rfl) ?_
      --S3c
      clear hHeld
      go_wp2
      go_roundw
      case rel =>
        have hms6 : ∀ q, q ≠ ms → q < W5.heap.size → w6.heap[q]? = W5.heap[q]? := fun q hq hl => HF6.out.block q hl hq
        have hz6 : W5.heap.size ≤ w6.heap.size := HF6.out.size
        have hmsl : ms < w.heap.size := H.out.lt ms HMS.out
        have hf6 : Foot S w w6 := by
          have h1 : Foot S W5 w6 := ⟨HF6.out.os, HF6.out.tape, HF6.out.output, HF6.out.size, fun q hq hn => HF6.out.block q hq (fun e => hn (by rw [e]; exact HMS.out))⟩
          exact (HF.out.trans (Foot.of_below HB5.out)).trans h1
        refine ⟨k + 1, by omega, by go_num, ?_, hf6, ?_⟩
        · have hm5 : Mid ms (.slice (some ⟨q, 0, none⟩) np cp) S c W5 g { D with dir := (D.pend.take k).foldl chDo D.sure } := HM.out.below HB5.out
          have hfold : (D.pend.take (k + 1)).foldl chDo D.sure = chDo ((D.pend.take k).foldl chDo D.sure) ch := by
            rw [List.take_succ_eq_append_getElem hpl, List.foldl_append, ← HCH.out]
            rfl
          have hpre : ∀ p ∈ (D.pend.take (k + 1)).foldl chDo D.sure, p ∈ D.sure ∨ ∃ d ∈ D.pend, p.1 = d.name ∧ d.dst = some p.2 := fun p hp => (mem_foldl hp).imp id (fun ⟨d, hd, h⟩ => ⟨d, List.mem_of_mem_take hd, h⟩)
          have h6 := hm5.dirTurn (w' := w6) (L := (D.pend.take (k + 1)).foldl chDo D.sure) (fun q hq hn => hms6 q hn hq) hz6 (by rw [hfold]; exact HD6.out) (foldl_up H.out.ok.up) (by
            have h1 := foldl_len (cs := D.pend.take (k + 1)) H.out.ok.up
            have h2 := H.out.ok.few
            have h3 := List.length_take_le (k + 1) D.pend
            have h4 : (D.pend.take (k + 1)).length ≤ D.pend.length := by rw [List.length_take]; exact Nat.min_le_right _ _
            omega) (fun p hp => by
            rcases hpre p hp with h1 | ⟨d, hd, h1, _⟩
            · exact H.out.ok.names p h1
            · rw [h1]; exact (H.out.ok.chs d hd).1) (fun i hi => by
            rcases hi with ⟨s, hs⟩ | hi | hi
            · rcases hpre _ hs with h1 | ⟨d, hd, _, h1⟩
              · exact .inr (.inl ⟨s, h1⟩)
              · exact .inr (.inr ⟨d, hd, h1⟩)
            · exact .inr (.inl hi)
            · exact .inr (.inr hi))
          exact h6
        · have hxw : x < W5.heap.size := Nat.lt_of_lt_of_le (blk_lt HXX.out) HB5.out.size
          have hxm : x ≠ ms := by have := HXS.out; omega
          exact (hms6 x hxm hxw).trans ((HB5.out.block x (blk_lt HXX.out)).trans HXX.out)
      case measure => simp [intOf]; omega
    · --S4
      obtain rfl : k = nk := by omega
      obtain ⟨L, hL⟩ : ∃ L, L = (D.pend.take k).foldl chDo D.sure := ⟨_, rfl⟩
      obtain ⟨n, hn⟩ : ∃ n, n = L.length := ⟨_, rfl⟩
      rw [← hL] at HM
      have hkept : Hid (keptV D dirN = L) := by
        show _ = _
        unfold keptV
        rw [hL, ← HNP.out, ← HNK.out]
      have HLL := Lib.hid hL
      have HN := Lib.hid hn
      have hnl : n ≤ N := by
        have h1 := foldl_len (cs := D.pend.take k) H.out.ok.up
        have h2 := HNN.out
        have h3 : (D.pend.take k).length ≤ D.pend.length := by rw [List.length_take]; exact Nat.min_le_right _ _
        rw [← hL] at h1
        omega
      have g5 := (show wr.cell? ⟨g, 5, none⟩ = some (.map (some ms)) from blk_cell HM.out.blk 5)
      have HSO := Lib.hid (sorted_any ms L wr HM.out.dir HM.out.ok.up (by rw [← hn]; omega))
      clear hL hn
      go_wp2_with fail
      refine (keys_call ms wr).mono ?_
      rintro e w1 ⟨rfl, rfl⟩
      go_wp2_with fail
      refine HSO.out.mono ?_
      rintro e w2 ⟨v, rfl, hr, hb⟩
      obtain ⟨A, cs, rfl⟩ := own_slice hr
      rw [← HN.out] at hr ⊢
      have HR := Lib.hid hr
      have HB2 := Lib.hid ((below_alloc (Below.refl wr.heap.size wr) (.cells #[.map (some ms)] 76)).trans (hb.mono (Nat.le_succ _)))
      have HRB : Hid (∀ b, (Value.slice A n cs).ownBlock = some b → wr.heap.size ≤ b) := fun b hb => Nat.le_of_succ_le (own_base hr b hb)
      clear hr hb HSO g5
      have HM2b : Hid (Mid ms (.slice Ap np cp) S c w2 g { D with dir := L }) := HM.out.below HB2.out
      have HF2b : Hid (Foot S w w2) := HF.out.trans (Foot.of_below HB2.out)
      have HX2b : Hid (w2.heap[x]? = some (.cells #[.int .i64 dirN, .slice At nt ct] 26 (0, 0))) := (HB2.out.block x (blk_lt HXX.out)).trans HXX.out
      have HRS : Hid (∀ b, (Value.slice A n cs).ownBlock = some b → ¬ S b) := fun b hb hs => by
        have h1 := HRB.out b hb
        have h2 := HM.out.lt b hs
        omega
      go_wp2
      --S5
      clear HM HF HXX HB2 HRB
      go_loopw [51] (fun i wq => ∃ j : Nat, j ≤ n ∧ i = .int .i64 j ∧ Hid (Mid ms (.slice Ap np cp) S (c + j) wq g (cutsAll { D with dir := L } tails (L.take j) 0)) ∧ Hid (Foot S w wq) ∧ Hid (wq.heap.size = w2.heap.size) ∧ Hid (wq.heap[x]? = some (.cells #[.int .i64 dirN, .slice At nt ct] 26 (0, 0))) ∧ Hid (wq.ownsRow 0 9 1 (.slice A n cs) n ((pathsL L).map encS))) (fun i _ => n - (intOf i).toNat)
      case atStart =>
        exact ⟨0, Nat.zero_le _, rfl, HM2b.out, HF2b.out, rfl, HX2b.out, own_weaken HR.out (Nat.zero_le _)⟩
      case round =>
        obtain ⟨j, hj, rfl, HMq, HFq, HZq, HXq, HRq⟩ := hrel
        by_cases l2 : j < n
        · --S6
          have hjl : j < L.length := by have := HN.out; omega
          obtain ⟨s, hs⟩ : ∃ s, s = (L[j]).1 := ⟨_, rfl⟩
          obtain ⟨i, hi⟩ : ∃ i, i = (L[j]).2 := ⟨_, rfl⟩
          obtain ⟨q, hq, hname⟩ := row_name HRq.out hjl l2
          rw [← hs] at hname
          subst hq
          have hsm : (s, i) ∈ L := by rw [hs, hi]; exact List.getElem_mem hjl
          have hLd := (cutsAll_dir tails (L.take j) { D with dir := L } 0).1
          have hdir : DirAt wr ms L := by have h := HMq.out.dir; rw [hLd] at h; exact h
          have hup : UpD L := by have h := HMq.out.ok.up; rw [hLd] at h; exact h
          have hss : s.size ≤ maxLen := by have h := HMq.out.ok.names; rw [hLd] at h; exact h _ hsm
          have hlk := (VMap.look hdir keyed_s Tryz.underlying76 (show (zeroValue 72).run Tryz.prog wr = .ok (.pointer none) wr from by kernel_rfl) (s := s) (keyOf_s hss)).2
          have hlkd := (VMap.look (w := wr.drew) (hdir.block rfl) keyed_s Tryz.underlying76 (show (zeroValue 72).run Tryz.prog wr.drew = .ok (.pointer none) wr.drew from by kernel_rfl) (s := s) (keyOf_s hss)).2
          rw [look_of_mem hup hsm] at hlk hlkd
          simp only [Option.map_some, Option.getD_some] at hlk hlkd
          have g5 := (show wr.cell? ⟨g, 5, none⟩ = some (.map (some ms)) from blk_cell HMq.out.blk 5)
          have x1 := blk_cell HXq.out 1
          have HSI : Hid ((s, i) = L[j]) := by show _ = _; rw [hs, hi]
          have HSM := Lib.hid hsm
          have HJL := Lib.hid hjl
          have HLK := Lib.hid hlk
          have HLKd := Lib.hid hlkd
          have G5 := Lib.hid g5
          have HHI : Hid (Has (cutsAll { D with dir := L } tails (L.take j) 0) i) := .inl ⟨s, by rw [hLd]; exact hsm⟩
          clear hs hi hsm hLd hdir hup hss hlk hlkd g5
          obtain ⟨tl, htl2⟩ : ∃ tl, tl = tailOf tails j := ⟨_, rfl⟩
          have HTL := Lib.hid htl2
          have HCU0 : Hid (Calls Tryz.prog 44 #[.pointer (some ⟨g, 0, none⟩), fptr i, .int .i64 tl] wr fun e w' => e = .returned (.tuple #[]) ∧ Mid ms (.slice Ap np cp) S (c + j + 1) w' g (cutsV (cutsAll { D with dir := L } tails (L.take j) 0) i tl) ∧ Foot S wr w' ∧ w'.heap.size = wr.heap.size) :=
            cuts_any S (c + j) g i ms _ _ tl wr HMq.out HHI.out (by omega)
          have HCU1 : Hid (Calls Tryz.prog 44 #[.pointer (some ⟨g, 0, none⟩), fptr i, .int .i64 tl] wr.drew fun e w' => e = .returned (.tuple #[]) ∧ Mid ms (.slice Ap np cp) S (c + j + 1) w' g (cutsV (cutsAll { D with dir := L } tails (L.take j) 0) i tl) ∧ Foot S wr.drew w' ∧ w'.heap.size = wr.drew.heap.size) :=
            cuts_any S (c + j) g i ms _ _ tl wr.drew (HMq.out.move (fun _ _ => rfl)) HHI.out (by omega)
          have HEND : Hid (∀ w', Mid ms (.slice Ap np cp) S (c + j + 1) w' g (cutsV (cutsAll { D with dir := L } tails (L.take j) 0) i tl) → Foot S wr w' → w'.heap.size = wr.heap.size →
              Mid ms (.slice Ap np cp) S (c + (j + 1)) w' g (cutsAll { D with dir := L } tails (L.take (j + 1)) 0) ∧ Foot S w w' ∧ w'.heap.size = w2.heap.size ∧ w'.heap[x]? = some (.cells #[.int .i64 dirN, .slice At nt ct] 26 (0, 0)) ∧ w'.ownsRow 0 9 1 (.slice (some ⟨q, 0, none⟩) n cs) n ((pathsL L).map encS)) := fun w' k1 k2' k3 => by
            have e1 : cutsAll { D with dir := L } tails (L.take (j + 1)) 0 = cutsV (cutsAll { D with dir := L } tails (L.take j) 0) i tl := by
              rw [List.take_succ_eq_append_getElem hjl, cutsAll_snoc, ← HSI.out, HTL.out, List.length_take, Nat.min_eq_left (Nat.le_of_lt hjl), Nat.zero_add]
            have hxs : ¬ S x := fun hx => by
              have h1 := H.out.lt x hx
              have h2 := HXS.out
              omega
            refine ⟨by rw [e1]; exact k1, HFq.out.trans k2', k3.trans HZq.out, foot_blk k2' HXq.out hxs, own_move HRq.out (fun b hb => k2'.block b (own_lt HRq.out b hb) (HRS.out b hb))⟩
          by_cases t0 : nt = 0
          · have b0 : decide (0 < nt) = false := decide_eq_false (by omega)
            have b0' : decide ((0 : Int) < (nt : Int)) = false := decide_eq_false (by omega)
            have htz : tl = 0 := by rw [htl2]; unfold tailOf; rw [if_pos (by rw [← HNT.out]; exact t0)]
            subst htz
            have HLK2 := HLK.out
            have G52 := G5.out
            clear t0 htl2
            go_wp2_with fail
            refine HCU0.out.mono ?_
            rintro e w6 ⟨rfl, m6, f6, z6⟩
            have HE := Lib.hid (HEND.out w6 m6 f6 z6)
            clear m6 f6 z6 HLK2 G52 hname x1
            go_wp2
            go_roundw
            case rel => exact ⟨j + 1, by omega, by go_num, HE.out.1, HE.out.2.1, HE.out.2.2.1, HE.out.2.2.2.1, HE.out.2.2.2.2⟩
            case measure => simp [intOf]; omega
          · have b0 : decide (0 < nt) = true := decide_eq_true (by omega)
            have b0' : decide ((0 : Int) < (nt : Int)) = true := decide_eq_true (by omega)
            have hlt : j % nt < nt := Nat.mod_lt _ (by omega)
            obtain ⟨A', c', e', hri⟩ := HT.out wr HFq.out
            injection e' with e1 e2 e3
            subst e1
            rw [← HNT.out] at hri
            clear e2 e3
            obtain ⟨ad, rfl, hcell⟩ := at_nat hri (j % nt) hlt
            have htv : rd tails ((j % nt : Nat) : Int) = tl := by rw [htl2]; unfold tailOf; rw [if_neg (by rw [← HNT.out]; exact t0), ← HNT.out]; rfl
            rw [htv] at hcell
            have hnz : (nt : Int) ≠ 0 := by omega
            have hmod : (j : Int).tmod (nt : Int) = ((j % nt : Nat) : Int) := by rw [Int.tmod_eq_emod_of_nonneg (by omega)]; omega
            have HHL := Lib.hid hlt
            have hm1 : 0 ≤ (j : Int) % (nt : Int) := by omega
            have hm2 : (j : Int) % (nt : Int) < (nt : Int) := Int.emod_lt_of_pos _ (by omega)
            have hm3 : ((j : Int) % (nt : Int)).toNat = j % nt := by omega
            clear htv htl2 hri
            have hnz2 : ((nt : Int) == 0) = false := beq_eq_false_iff_ne.2 hnz
            have T0 := Lib.hid x1
            have T1 := Lib.hid (hcell)
            go_upto_region 13 with (fail)
            --S8
            refine start_ (n := 10) (S := fun w' => w'.cell? ⟨x, 1, none⟩ = some (.slice (some ad) nt ct) ∧ w'.cell? (ad.add (j % nt)) = some (.int .i64 tl)) (ds := []) #[false, false, false, false, false, false, false, false, false, false] (by kernel_rfl) rfl rfl ⟨T0.out, T1.out⟩ (fun hHeld => ?_)
            refine pure_ (i := 0) (N := some 60) (v := ?_) (a' := ?_) #[true, false, false, false, false, false, false, false, false, false] rfl rfl (by kernel_rfl) (fun _ _ _ h => h) (Or.inl ⟨by rfl, ?_⟩) ?_ ?_
            rotate_left
            · intro w'
              go_simp
              with_reducible rfl
            rotate_left
            · simp only [Act.put, List.setIfInBounds_toArray, List.set_cons_zero, List.set_cons_succ, i64_w, i32_w]
              rfl
            refine pure_ (i := 2) (N := some 62) (v := ?_) (a' := ?_) #[true, false, true, false, false, false, false, false, false, false] rfl rfl (by kernel_rfl) (fun _ _ _ h => h) (Or.inl ⟨by rfl, ?_⟩) ?_ ?_
            rotate_left
            · intro w'
              go_simp
              with_reducible rfl
            rotate_left
            · simp only [Act.put, List.setIfInBounds_toArray, List.set_cons_zero, List.set_cons_succ, i64_w, i32_w]
              rfl
            refine pure_ (i := 3) (N := some 63) (v := ?_) (a' := ?_) #[true, false, true, true, false, false, false, false, false, false] rfl rfl (by kernel_rfl) (fun _ _ _ h => h) (Or.inl ⟨by rfl, ?_⟩) ?_ ?_
            rotate_left
            · intro w'
              go_simp
              with_reducible rfl
            rotate_left
            · simp only [Act.put, List.setIfInBounds_toArray, List.set_cons_zero, List.set_cons_succ, i64_w, i32_w]
              rfl
            refine take_ (i := 1) (N := some 61) (v := ?_) (a' := ?_) #[true, true, true, true, false, false, false, false, false, false] rfl rfl (by kernel_rfl) (fun _ _ _ h => h) (Or.inl ⟨by rfl, ?_⟩) hHeld ?_ ?_
            rotate_left
            · rintro w' ⟨s0, s1⟩
              go_simp
              with_reducible rfl
            rotate_left
            · simp only [Act.put, List.setIfInBounds_toArray, List.set_cons_zero, List.set_cons_succ, i64_w, i32_w]
              rfl
            refine take_ (i := 4) (N := some 64) (v := ?_) (a' := ?_) #[true, true, true, true, true, false, false, false, false, false] rfl rfl (by kernel_rfl) (fun _ _ _ h => h) (Or.inl ⟨by rfl, ?_⟩) hHeld ?_ ?_
            rotate_left
            · rintro w' ⟨s0, s1⟩
              go_simp
              with_reducible rfl
            rotate_left
            · simp only [Act.put, List.setIfInBounds_toArray, List.set_cons_zero, List.set_cons_succ, i64_w, i32_w]
              rfl
            refine pure_ (i := 5) (N := some 65) (v := ?_) (a' := ?_) #[true, true, true, true, true, true, false, false, false, false] rfl rfl (by kernel_rfl) (fun _ _ _ h => h) (Or.inl ⟨by rfl, ?_⟩) ?_ ?_
            rotate_left
            · intro w'
              go_simp
              with_reducible rfl
            rotate_left
            · simp only [Act.put, List.setIfInBounds_toArray, List.set_cons_zero, List.set_cons_succ, i64_w, i32_w]
              rfl
            refine pure_ (i := 6) (N := some 66) (v := ?_) (a' := ?_) #[true, true, true, true, true, true, true, false, false, false] rfl rfl (by kernel_rfl) (fun _ _ _ h => h) (Or.inl ⟨by rfl, ?_⟩) ?_ ?_
            rotate_left
            · intro w'
              go_simp
              with_reducible rfl
            rotate_left
            · simp only [Act.put, List.setIfInBounds_toArray, List.set_cons_zero, List.set_cons_succ, i64_w, i32_w]
              rfl
            refine pure_ (i := 7) (N := some 67) (v := ?_) (a' := ?_) #[true, true, true, true, true, true, true, true, false, false] rfl rfl (by kernel_rfl) (fun _ _ _ h => h) (Or.inl ⟨by rfl, ?_⟩) ?_ ?_
            rotate_left
            · intro w'
              go_simp
              with_reducible rfl
            rotate_left
            · simp only [Act.put, List.setIfInBounds_toArray, List.set_cons_zero, List.set_cons_succ, i64_w, i32_w]
              rfl
            refine take_ (i := 8) (N := some 68) (v := ?_) (a' := ?_) #[true, true, true, true, true, true, true, true, true, false] rfl rfl (by kernel_rfl) (fun _ _ _ h => h) (Or.inl ⟨by rfl, ?_⟩) hHeld ?_ ?_
            rotate_left
            · rintro w' ⟨s0, s1⟩
              go_simp
              with_reducible rfl
            rotate_left
            · simp only [Act.put, List.setIfInBounds_toArray, List.set_cons_zero, List.set_cons_succ, i64_w, i32_w]
              rfl
            refine pure_ (i := 9) (N := some 8) (v := ?_) (a' := ?_) #[true, true, true, true, true, true, true, true, true, true] rfl rfl (by kernel_rfl) (fun _ _ _ h => h) (Or.inl ⟨by rfl, ?_⟩) ?_ ?_
            rotate_left
            · intro w'
              go_simp
              with_reducible rfl
            rotate_left
            · simp only [Act.put, List.setIfInBounds_toArray, List.set_cons_zero, List.set_cons_succ, i64_w, i32_w]
              rfl
            refine done_ (by kernel_rfl) ?_
            --S9
            clear hHeld hcell hm1 hm2 hm3 hmod
            have HLK2 := HLKd.out
            have G52 := G5.out
            go_wp2_with fail
            refine HCU1.out.mono ?_
            rintro e w6 ⟨rfl, m6, f6, z6⟩
            have HE := Lib.hid (HEND.out w6 m6 ⟨f6.os, f6.tape, f6.output, f6.size, f6.block⟩ z6)
            clear m6 f6 z6 HLK2 G52 hname x1
            go_wp2
            go_roundw
            case rel => exact ⟨j + 1, by omega, by go_num, HE.out.1, HE.out.2.1, HE.out.2.2.1, HE.out.2.2.2.1, HE.out.2.2.2.2⟩
            case measure => simp [intOf]; omega
        · --S7
          obtain rfl : j = n := by omega
          have htk : L.take j = L := List.take_of_length_le (by rw [← HN.out]; exact Nat.le_refl _)
          rw [htk] at HMq
          have hLd := cutsAll_dir tails L { D with dir := L } 0
          have hdir : DirAt wr ms L := by have h := HMq.out.dir; rw [hLd.1] at h; exact h
          have HDIR := Lib.hid hdir
          have HLd := Lib.hid hLd
          have g5 := (show wr.cell? ⟨g, 5, none⟩ = some (.map (some ms)) from blk_cell HMq.out.blk 5)
          clear htk hLd hdir
          go_wp2_with fail
          refine (clone_any ms L wr HDIR.out).mono ?_
          rintro e w6 ⟨rfl, d6, b6⟩
          obtain ⟨m3, hm3⟩ : ∃ m3, m3 = wr.heap.size := ⟨_, rfl⟩
          rw [← hm3] at d6 ⊢
          have e0 := (b6.block g (blk_lt HMq.out.blk)).trans HMq.out.blk
          have HD6 := Lib.hid d6
          have HB6 := Lib.hid b6
          have HM3 := Lib.hid hm3
          have E0 := Lib.hid e0
          have x6 := blk_cell e0 6
          have y6 := blk_frozen e0 6
          have e1 := blk_set e0 6 (.map (some m3))
          have x7 := blk_cell e1 7
          have y7 := blk_frozen e1 7
          have e2 := blk_set e1 7 (.slice none 0 0)
          have x3 := blk_cell e2 3
          have y3 := blk_frozen e2 3
          have e3 := blk_set e2 3 (.int .i64 (-1))
          have x4 := blk_cell e3 4
          have y4 := blk_frozen e3 4
          have e4 := blk_set e3 4 (.bool false)
          have E4 := Lib.hid e4
          clear d6 b6 hm3 e0 e1 e2 e3 e4 g5
          go_wp2
          go_end0
          obtain ⟨w9, hw9⟩ : ∃ w9, w9 = (((w6.setCell ⟨g, 6, none⟩ (.map (some m3))).setCell ⟨g, 7, none⟩ (.slice none 0 0)).setCell ⟨g, 3, none⟩ (.int .i64 (-1))).setCell ⟨g, 4, none⟩ (.bool false) := ⟨_, rfl⟩
          rw [← hw9]
          have hz9 : w9.heap.size = w6.heap.size := by rw [hw9]; simp
          have hk9 : ∀ q, q ≠ g → w9.heap[q]? = w6.heap[q]? := fun q hq => by
            rw [hw9]
            exact (Below.heap_setCell _ _ _ _ hq).trans ((Below.heap_setCell _ _ _ _ hq).trans ((Below.heap_setCell _ _ _ _ hq).trans (Below.heap_setCell _ _ _ _ hq)))
          have hgl : g < wr.heap.size := blk_lt HMq.out.blk
          have hm3g : m3 ≠ g := by rw [HM3.out]; omega
          have hg9 : w9.heap[g]? = some (.cells (dcells { cutsAll { D with dir := L } tails L 0 with sure := (cutsAll { D with dir := L } tails L 0).dir, pend := [], armed := -1, down := false } ms m3 (.slice none 0 0)) 80 (0, 0)) := by
            rw [hw9]
            exact E4.out.trans rfl
          have hfin := mid_end (w' := w9) HMq.out (fun q hq hqg => (hk9 q hqg).trans (HB6.out.block q hq)) (by rw [hz9]; exact HB6.out.size) (Nat.le_of_eq HM3.out.symm) (by rw [hz9]; exact VMap.lt HD6.out) (by rw [HLd.out.1]; exact HD6.out.block (hk9 m3 hm3g)) hg9
          have hre : restartV D dirN tails = { cutsAll { D with dir := L } tails L 0 with sure := (cutsAll { D with dir := L } tails L 0).dir, pend := [], armed := -1, down := false } := by
            unfold restartV
            rw [hkept.out]
          have hf9 : Foot S w w9 := by
            refine (HFq.out.trans (Foot.of_below HB6.out)).trans ?_
            rw [hw9]
            exact ((((Foot.refl S w6).setCell H.out.sg 6 _).setCell H.out.sg 7 _).setCell H.out.sg 3 _).setCell H.out.sg 4 _
          rw [hre]
          exact ⟨rfl, (hfin.mono (fun q hq => hq.elim .inl (fun h => .inr ⟨Nat.le_trans HFq.out.size h.1, h.2⟩)) (fun q hq => hq.elim (fun h => Nat.lt_of_lt_of_le (H.out.lt q h) hf9.size) (·.2))).more (by omega), hf9⟩
--END WALK
end Go.Proofs.YtononoakdebjeaaGreatDoor.Dk
