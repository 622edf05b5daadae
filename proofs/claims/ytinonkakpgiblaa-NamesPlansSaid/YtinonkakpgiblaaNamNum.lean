/- Numbering names under way: the function value of names.(*Book).Plan. -/
import Derived.Test.YtinonkakpgiblaaNamTake
import Derived.Test.YtinonkakpgiblaaArgRows
namespace Go.Proofs.Ytinonkakpgiblaa.Nam
open Go.RowKit Go.Proofs.YtinonkakpgiblaaW.PrintWords Go.Proofs.YtinonkakpgiblaaW.PrintLast Go.Proofs.Ytinonkakpgiblaa.Base Go.Proofs.Ytinonkakpgiblaa.Pack Go.Maps
set_option linter.unusedVariables false
set_option linter.unusedSimpArgs false

/-- Plan under way: the book; the box of it (block x), the fresh names' map (its variable y, its block mf), the records (their variable z). -/
structure Pn (S : Nat → Prop) (c g x y z mf : Nat) (b : BookV) (w0 w : World) (fr : List ByteArray) (vo : Value) : Prop where
  bk : Bk S c w g b
  bx : w.heap[x]? = some (.cells #[.pointer (some ⟨g, 0, none⟩)] 27 (0, 0))
  cy : w.heap[y]? = some (.cells #[.map (some mf)] 66 (0, 0))
  cz : w.heap[z]? = some (.cells #[vo] 31 (0, 0))
  fm : VMap 9 skey w mf fr.length (fun s => (idx fr s).map fun n : Nat => .int .i64 ((b.ns.length + n : Nat) : Int))
  row : Recs w0 w vo (fr.map nameRec)
/-- What does not turn. -/
structure Py (S : Nat → Prop) (x y z mf : Nat) (w0 : World) : Prop where
  sb : ∀ k, S k → k < w0.heap.size
  x1 : w0.heap.size ≤ x
  y1 : w0.heap.size ≤ y
  z1 : w0.heap.size ≤ z
  m1 : w0.heap.size ≤ mf
def numS' (ns fr : List ByteArray) (s : ByteArray) : List ByteArray := if s ∈ ns ++ fr then fr else fr ++ [s]
theorem numS'_eq (ns fr : List ByteArray) (s : ByteArray) : ns ++ numS' ns fr s = withN (ns ++ fr) s := by
  unfold numS' withN
  split
  · rfl
  · rw [List.append_assoc]
/-- Blocks of other kinds stand. -/
def Others (w w' : World) : Prop := ∀ (k : Nat) (t : TypeId) (cells : Array Value), w.heap[k]? = some (.cells cells t (0, 0)) → t ≠ 46 → t ≠ 31 → w'.heap[k]? = w.heap[k]?
theorem Others.trans {a b c : World} (h : Others a b) (k : Others b c) : Others a c := fun i t cells hi h1 h2 => by
  have e := h i t cells hi h1 h2
  rw [k i t cells (e.trans hi) h1 h2, e]
theorem Others.of_below {w w' : World} (h : Below w.heap.size w w') : Others w w' := fun k t cells hk _ _ => h.block k (blk_lt hk)
theorem Others.bytes {w0 w w' : World} {v : Value} {xs : List Int} (h : Others w w') (hb : Below w0.heap.size w0 w') (ho : Ow w0 w v xs) : Ow w0 w' v xs :=
  ⟨own_move ho.own fun k hk => by
    obtain ⟨cells, hc⟩ := own_typed ho.own k hk
    exact h k _ cells hc (by decide) (by decide), hb⟩
section
variable {S : Nat → Prop} {c g x y z mf : Nat} {b : BookV} {w0 w w1 : World} {fr : List ByteArray} {vo v1 : Value}
theorem Pn.below (k : Pn S c g x y z mf b w0 w fr vo) (hb : Below w.heap.size w w1) : Pn S c g x y z mf b w0 w1 fr vo :=
  ⟨k.bk.below hb, (hb.block x (blk_lt k.bx)).trans k.bx, (hb.block y (blk_lt k.cy)).trans k.cy, (hb.block z (blk_lt k.cz)).trans k.cz, k.fm.below hb, k.row.step hb⟩
end
theorem fresh_map {fr : List ByteArray} {s : ByteArray} (m : Nat) (hi : idx fr s = none) (s' : ByteArray) :
    ((idx (fr ++ [s]) s').map fun n : Nat => Value.int .i64 ((m + n : Nat) : Int)) = if s' = s then some (.int .i64 ((m + fr.length : Nat) : Int)) else (idx fr s').map fun n : Nat => .int .i64 ((m + n : Nat) : Int) := by
  by_cases h : s' = s
  · rw [if_pos h, h, idx_new hi]; rfl
  · rw [if_neg h]
    cases e : idx fr s' with
    | some k => rw [idx_app e]
    | none =>
      rw [idx_app_none e]
      simp [idx, Ne.symm h]
theorem numOf_some {l : List ByteArray} {s : ByteArray} {n : Nat} (h : idx l s = some n) : numOf l s = n := by
  unfold numOf
  rw [h]
  rfl
--BEGIN WALK
set_option maxRecDepth 100000 in
set_option maxHeartbeats 4000000 in
theorem number_c (S : Nat → Prop) (c g x y z mf : Nat) (b : BookV) (w0 : World) (fr : List ByteArray) (vo : Value) (s : ByteArray) (w : World) (hP : Pn S c g x y z mf b w0 w fr vo) (hY : Py S x y z mf w0) (hs : s.size ≤ 4000) (hc : c ≤ 1000000) (hf : fr.length ≤ 10000) :
    Calls Try.prog 31 #[.string s, .pointer (some ⟨x, 0, none⟩), .pointer (some ⟨y, 0, none⟩), .pointer (some ⟨z, 0, none⟩)] w fun e w' => ∃ vo', e = .returned (.int .i64 ((numOf (withN (b.ns ++ fr) s) s : Nat) : Int)) ∧ Pn S c g x y z mf b w0 w' (numS' b.ns fr s) vo' ∧ Others w w' := by
  have HP := Lib.hid hP
  have HY := Lib.hid hY
  obtain ⟨_, _, _, hfew, _, vn, m1, m2, n2, f2, h1, s1, s2, h12, hn2, hRn, hM1, hM2, hO⟩ := hP.bk
  have c0 := blk_cell h1 0
  have c1 := blk_cell h1 1
  have qx := blk_cell hP.bx 0
  have qy := blk_cell hP.cy 0
  have qz := blk_cell hP.cz 0
  obtain ⟨A0, cap0, e0⟩ := Kd.R_slice hRn
  subst e0
  have hl : b.ns.length ≤ 1000000 := by omega
  have HGB := Lib.hid h1
  have hlk1 := (hM1.look keyed_s Try.underlying66 (map_zero_int _) (s := s) (keyOf_s (by simp only [maxLen]; omega))).1
  have hlk2 := (hP.fm.look keyed_s Try.underlying66 (map_zero_int _) (s := s) (keyOf_s (by simp only [maxLen]; omega))).1
  have hlen := fun (ty : TypeId) (W : World) (h : W.heap[mf]? = w.heap[mf]?) => (hP.fm.block (w1 := W) h).len Try.underlying66 ty
  have HLEN := Lib.hid hlen
  obtain ⟨Ao, no, co, eo, hno⟩ := hP.row.slice
  subst eo
  have HNO := Lib.hid hno
  clear hP hY h1 s1 s2 h12 hn2 hRn hM1 hM2 hO hlen hno
  cases hi : idx b.ns s with
  | some n =>
    rw [hi] at hlk1
    simp only [Option.map_some, Option.getD_some, Option.isSome_some] at hlk1
    have hm : s ∈ b.ns ++ fr := List.mem_append_left _ (idx_isSome.1 (by rw [hi]; rfl))
    have HE : Hid (numOf (withN (b.ns ++ fr) s) s = n) := by
      show _ = _
      have e : withN (b.ns ++ fr) s = b.ns ++ fr := if_pos hm
      rw [e]
      exact numOf_some (idx_app hi _)
    have HF : Hid (numS' b.ns fr s = fr) := if_pos hm
    clear hi hm hlk2
    go_enter Try.func31, Try.ntmps31
    go_wp2
    go_ret
    rw [HE.out, HF.out]
    exact ⟨_, rfl, HP.out, fun _ _ _ _ _ _ => rfl⟩
  | none =>
    rw [hi] at hlk1
    simp only [Option.map_none, Option.getD_none, Option.isSome_none] at hlk1
    have HI := Lib.hid hi
    clear hi
    cases hj : idx fr s with
    | some n =>
      rw [hj] at hlk2
      simp only [Option.map_some, Option.getD_some, Option.isSome_some] at hlk2
      have hm : s ∈ b.ns ++ fr := List.mem_append_right _ (idx_isSome.1 (by rw [hj]; rfl))
      have HE : Hid (numOf (withN (b.ns ++ fr) s) s = b.ns.length + n) := by
        show _ = _
        have e : withN (b.ns ++ fr) s = b.ns ++ fr := if_pos hm
        rw [e]
        refine numOf_some ?_
        rw [idx_app_none HI.out, hj, Nat.add_comm]
        rfl
      have HF : Hid (numS' b.ns fr s = fr) := if_pos hm
      have hnf : n < fr.length := (idx_some hj).1
      clear hj hm
      go_enter Try.func31, Try.ntmps31
      go_wp2
      go_ret
      rw [HE.out, HF.out]
      exact ⟨_, rfl, HP.out, fun _ _ _ _ _ _ => rfl⟩
    | none =>
      rw [hj] at hlk2
      simp only [Option.map_none, Option.getD_none, Option.isSome_none] at hlk2
      have hm : s ∉ b.ns ++ fr := by
        rw [List.mem_append, not_or]
        exact ⟨idx_none.1 HI.out, idx_none.1 hj⟩
      have HE : Hid (numOf (withN (b.ns ++ fr) s) s = b.ns.length + fr.length) := by
        show _ = _
        have e : withN (b.ns ++ fr) s = (b.ns ++ fr) ++ [s] := if_neg hm
        rw [e]
        refine numOf_some ?_
        rw [idx_new (idx_none.2 hm), List.length_append]
      have HF : Hid (numS' b.ns fr s = fr ++ [s]) := if_neg hm
      have HJ := Lib.hid hj
      clear hj hm
      have hlen2 := fun (ty : TypeId) (k : Nat) => HLEN.out ty (w.drewN k) rfl
      have hlen3 := fun (ty : TypeId) => HLEN.out ty w rfl
      go_enter Try.func31, Try.ntmps31
      go_wp2
      --S1
      go_quiet (fail)
      obtain ⟨wd, hwd⟩ : ∃ wd, wd = w.drewN nq := ⟨_, rfl⟩
      rw [← hwd]
      have hbd : Below w.heap.size w wd := by rw [hwd]; exact pw_below_drewN (Below.refl _ _) _
      have HPd := Lib.hid (HP.out.below hbd)
      have HBD := Lib.hid hbd
      obtain ⟨w2, hrun, hM2, hg2, hz2⟩ := HPd.out.fm.store keyed_s Try.underlying66 (by simp only [maxLen]; omega) (s := s) (keyOf_s (by simp only [maxLen]; omega)) (skey_lit s) (fun s' h => skey_inj h) (.int .i64 ((b.ns.length + fr.length : Nat) : Int))
      have HRUN := Lib.hid hrun
      have hsum : ((b.ns.length : Int) + (fr.length : Int)) = ((b.ns.length + fr.length : Nat) : Int) := by omega
      have HSUM := Lib.hid hsum
      have qy2 := blk_cell HPd.out.cy 0
      clear hwd hbd c0 c1 qx qy qz hlk1 hlk2 hlen2 hlen3 hrun hsum
      have HMF : Hid (∀ t cells, wd.heap[mf]? ≠ some (.cells cells t (0, 0))) := fun t cells => HPd.out.fm.no_cells
      have hb2 : ∀ k, k < wd.heap.size → k ≠ mf → w2.heap[k]? = wd.heap[k]? := fun k hk hne => hg2.block k hk (fun e => hne (by injection e))
      have hbl0 : Below w0.heap.size w0 wd := HPd.out.row.below
      have hbl : Below w0.heap.size w0 w2 := hbl0.grown hg2 hbl0.size (fun k hk => by injection hk with hk; rw [← hk]; exact HY.out.m1)
      have X2 : Hid (w2.heap[x]? = some (.cells #[.pointer (some ⟨g, 0, none⟩)] 27 (0, 0))) := (hb2 x (blk_lt HPd.out.bx) (HPd.out.fm.ne HPd.out.bx).symm).trans HPd.out.bx
      have Y2 : Hid (w2.heap[y]? = some (.cells #[.map (some mf)] 66 (0, 0))) := (hb2 y (blk_lt HPd.out.cy) (HPd.out.fm.ne HPd.out.cy).symm).trans HPd.out.cy
      have Z2 : Hid (w2.heap[z]? = some (.cells #[.slice Ao no co] 31 (0, 0))) := (hb2 z (blk_lt HPd.out.cz) (HPd.out.fm.ne HPd.out.cz).symm).trans HPd.out.cz
      have K2 : Hid (Bk S c w2 g b) := HPd.out.bk.foot (T := fun k => k = mf) (Foot.of_grown hg2 (fun k hk => by injection hk with hk; exact hk.symm)) (fun k hk e => by have h1 := HY.out.sb k hk; have h2 := HY.out.m1; omega)
      have R2 : Hid (Recs w0 w2 (.slice Ao no co) (fr.map nameRec)) := ⟨R_q HPd.out.row.row (fun t _ => HMF.out t) hb2, hbl⟩
      have hie := fresh_map b.ns.length HJ.out
      have M2 : Hid (VMap 9 skey w2 mf (fr ++ [s]).length (fun s' => (idx (fr ++ [s]) s').map fun n : Nat => .int .i64 ((b.ns.length + n : Nat) : Int))) := by
        have e : (if ((idx fr s).map fun n : Nat => Value.int .i64 ((b.ns.length + n : Nat) : Int)).isSome = true then fr.length else fr.length + 1) = (fr ++ [s]).length := by rw [HJ.out]; simp
        rw [e] at hM2
        exact hM2.congr fun s' => hie s'
      have O2 : Hid (Others wd w2) := fun k t cells hk _ _ => hb2 k (blk_lt hk) (fun e => HMF.out t cells (e ▸ hk))
      have ZS : Hid (w2.heap.size = wd.heap.size) := hz2
      have HBL := Lib.hid hbl
      clear hM2 hg2 hz2 hb2 hbl0 hbl hie
      go_wp2_with (at_mapUpdate; refine Held.of ?_)
      --S2
      refine upd_at rfl (.tmp 39) (.tmp 40) (.tmp 41) 66 rfl mf _ _ rfl rfl rfl (by rw [HSUM.out]; exact HRUN.out) ?_
      go_wp2_with fail
      --S3
      have hlit := Ow.lit (w0 := w0) HBL.out [1] (by decide)
      have HLI : Hid (Bs (w2.alloc (.cells #[.int .u8 1] 5)) (.slice (some ⟨w2.heap.size, 0, none⟩) 1 1) [1]) := hlit.bs
      have HB3 := Lib.hid (below_alloc (Below.refl w2.heap.size w2) (.cells #[.int .u8 1] 5))
      clear hlit
      refine (text_any _ [1] s _ HLI.out (by decide) (by omega)).mono ?_
      rintro e w3 ⟨v3, rfl, o3⟩
      obtain ⟨A3, n3, c3, rfl, hn3⟩ := o3.slice
      have HB4 := Lib.hid (HB3.out.trans (o3.below.mono HB3.out.size))
      have O3 : Hid (Ow w0 w3 (.slice A3 n3 c3) (nameRec s)) := o3.lower (HBL.out.trans (HB3.out.mono HBL.out.size))
      have Z3 : Hid (w3.heap[z]? = some (.cells #[.slice Ao no co] 31 (0, 0))) := (HB4.out.block z (blk_lt Z2.out)).trans Z2.out
      have R3 := Lib.hid (R2.out.step HB4.out)
      have qz := blk_cell Z3.out 0
      have hfz := blk_frozen Z3.out 0
      clear o3 hn3 qy2
      go_wp2_with (at_builtin; refine Held.of ?_)
      --S4
      refine app_rec rfl (.tmp 48) (.tmp 50) 31 rfl Try.underlying31 _ _ (fr.map nameRec) (nameRec s) rfl rfl R3.out O3.out (by rw [List.length_map]; omega) ?_
      intro v5 w5 r5 g5
      obtain ⟨A5, n5, c5, rfl, hn5⟩ := r5.slice
      have hne5 : ∀ k t cells, w3.heap[k]? = some (.cells cells t (0, 0)) → t ≠ 46 → some k ≠ (Value.slice Ao no co).ownBlock := fun k t cells hk ht e => by
        obtain ⟨cells', hc'⟩ := R_rowed R3.out.row k e.symm
        exact not_cells hk ht cells' hc'
      have Z5 : Hid (w5.heap[z]? = some (.cells #[.slice Ao no co] 31 (0, 0))) := (g5.block z (blk_lt Z3.out) (hne5 _ _ _ Z3.out (by decide))).trans Z3.out
      have qz5 := blk_cell Z5.out 0
      have hfz5 := blk_frozen Z5.out 0
      have R5 := Lib.hid r5
      have G5 := Lib.hid g5
      have HNE := Lib.hid hne5
      clear r5 g5 hne5 hn5 qz hfz
      go_wp2
      go_ret
      --S5
      rw [HE.out, HF.out]
      have hown : ∀ k, (Value.slice Ao no co).ownBlock = some k → w0.heap.size ≤ k := fun k hk => by
        obtain ⟨inner, ho⟩ := Kd.R_own R3.out.row
        exact own_base ho k hk
      have hst : ∀ k, k ≠ z → (w5.setCell ⟨z, 0, none⟩ (.slice A5 n5 c5)).heap[k]? = w5.heap[k]? := fun k hk => Below.heap_setCell _ _ _ _ hk
      have hz5 : w0.heap.size ≤ z := HY.out.z1
      have key : ∀ k t cells, w2.heap[k]? = some (.cells cells t (0, 0)) → t ≠ 46 → k ≠ z → (w5.setCell ⟨z, 0, none⟩ (.slice A5 n5 c5)).heap[k]? = w2.heap[k]? := fun k t cells hk ht hkz => by
        have e3 := HB4.out.block k (blk_lt hk)
        rw [hst k hkz, G5.out.block k (blk_lt (e3.trans hk)) (HNE.out k t cells (e3.trans hk) ht), e3]
      have hxz : x ≠ z := by
        rintro rfl
        exact not_cells X2.out (by decide) _ Z2.out
      have hyz : y ≠ z := by
        rintro rfl
        exact not_cells Y2.out (by decide) _ Z2.out
      refine ⟨.slice A5 n5 c5, rfl, ⟨?_, (key x _ _ X2.out (by decide) hxz).trans X2.out, (key y _ _ Y2.out (by decide) hyz).trans Y2.out, blk_set Z5.out 0 _, ?_, ?_⟩, ?_⟩
      · refine K2.out.move fun k hk => ?_
        have h1 := HY.out.sb k hk
        have h2 := HBL.out.size
        rw [hst k (by omega), G5.out.block k (by have := HB4.out.size; omega) (fun e => by have := hown k e.symm; omega)]
        exact HB4.out.block k (by omega)
      · have h3 := M2.out.below HB4.out
        have h5 := h3.grown G5.out (fun q hq => let ⟨cells, h⟩ := R_rowed R3.out.row q hq; ⟨cells, _, h⟩)
        exact h5.set Z5.out 0 _
      · refine ⟨?_, R5.out.below.setCell hz5 _⟩
        have h := Kd.R_set R5.out.row Z5.out (by decide) 0 (.slice A5 n5 c5)
        rw [List.map_append]
        exact h
      · refine (Others.of_below HBD.out).trans (O2.out.trans fun k t cells hk h1 h2 => key k t cells hk h1 ?_)
        rintro rfl
        exact not_cells Z2.out (Ne.symm h2) cells hk
--END WALK
end Go.Proofs.Ytinonkakpgiblaa.Nam
