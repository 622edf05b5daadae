/- An output's record is taken: names.(*Book).out. -/
import Derived.Test.YtinonkakpgiblaaNamName
namespace Go.Proofs.Ytinonkakpgiblaa.Nam
open Go.RowKit Go.Proofs.YtinonkakpgiblaaW.PrintWords Go.Proofs.YtinonkakpgiblaaW.PrintLast Go.Proofs.Ytinonkakpgiblaa.Base Go.Proofs.Ytinonkakpgiblaa.Pack
set_option linter.unusedVariables false
set_option linter.unusedSimpArgs false

/-- A reader stands where rows and blocks of its own kinds stand. -/
theorem Rd.types {B : Nat} {w w1 : World} {g : Nat} {rest : List Int} {bad : Bool} (h : Rd B w g rest bad) (hm : ∀ k t cells, B ≤ k → w.heap[k]? = some (.cells cells t (0, 0)) → (t = 5 ∨ t = 112) → w1.heap[k]? = w.heap[k]?) : Rd B w1 g rest bad := by
  obtain ⟨v, hc, hq⟩ := h.cell
  exact ⟨⟨v, (hm g _ _ h.base hc (.inr rfl)).trans hc, q_move hq fun i hi => by
    obtain ⟨hB, cells, hk2⟩ := q_typed hq i hi
    exact hm i _ cells hB hk2 (.inl rfl)⟩, h.base, h.none_⟩
/-- out under way. -/
structure Ox (S : Nat → Prop) (c B g gp x h : Nat) (b : BookV) (w0 w : World) (s : RS) (tm : Int) (v : Value) (l : List Int) : Prop where
  bk : Bk S c w g b
  rd : Rd B w gp s.1 s.2
  by_ : Bytes s.1
  bx : w.heap[x]? = some (.cells #[.pointer (some ⟨g, 0, none⟩)] 27 (0, 0))
  fd : w.heap[h]? = some (.cells #[.int .i64 tm, v] 82 (0, 0))
  row : (Kd.int .i64).R 3 w 0 (fun k => w0.heap.size ≤ k) v l
  ft : Foot (fun k => k = gp) w0 w
structure Oy (S : Nat → Prop) (B gp x h : Nat) (w0 : World) : Prop where
  sb : ∀ k, S k → k < B
  g1 : B ≤ gp
  g2 : gp < w0.heap.size
  x1 : w0.heap.size ≤ x
  h1 : w0.heap.size ≤ h
section
variable {S : Nat → Prop} {c B g gp x h : Nat} {b : BookV} {w0 w w1 : World} {s s' : RS} {tm : Int} {v v1 : Value} {l l1 : List Int}
theorem Ox.op (k : Ox S c B g gp x h b w0 w s tm v l) (y : Oy S B gp x h w0) (hr : Rd B w1 gp s'.1 s'.2) (ho : Only gp w w1) (hb : Bytes s'.1) : Ox S c B g gp x h b w0 w1 s' tm v l := by
  have hf : Foot (fun k => k = gp) w w1 := ⟨ho.os, ho.tape, ho.output, ho.size, fun k hk hn => ho.block k hk hn⟩
  have := y.g1
  have := y.g2
  have := y.x1
  have := y.h1
  refine ⟨k.bk.foot hf (fun i hi e => by have := y.sb i hi; omega), hr, hb, (ho.block x (blk_lt k.bx) (by omega)).trans k.bx, (ho.block h (blk_lt k.fd) (by omega)).trans k.fd, ?_, k.ft.trans hf⟩
  exact Kd.R_step k.row (fun i hi hl => ho.block i hl (by omega))
theorem Ox.app (k : Ox S c B g gp x h b w0 w s tm v l) (y : Oy S B gp x h w0) (r1 : (Kd.int .i64).R 3 w1 0 (fun k => w0.heap.size ≤ k) v1 l1) (g1 : w.grownBy w1 v.ownBlock) :
    w1.heap[h]? = some (.cells #[.int .i64 tm, v] 82 (0, 0)) ∧ Ox S c B g gp x h b w0 (w1.setCell ⟨h, 1, none⟩ v1) s tm v1 l1 := by
  have hrow := R_rowed k.row
  have hge : ∀ q, v.ownBlock = some q → w0.heap.size ≤ q := fun q hq => k.row.1 q hq
  have hne : ∀ (q t : Nat) (cells : Array Value), w.heap[q]? = some (.cells cells t (0, 0)) → t ≠ 3 → some q ≠ v.ownBlock := fun q t cells hq ht e => by
    obtain ⟨cells', hc⟩ := hrow q e.symm
    exact not_cells hq ht cells' hc
  have e1 := (g1.block h (blk_lt k.fd) (hne _ _ _ k.fd (by decide))).trans k.fd
  have := y.g1
  have := y.g2
  have := y.x1
  have := y.h1
  have hset : ∀ i, i ≠ h → (w1.setCell ⟨h, 1, none⟩ v1).heap[i]? = w1.heap[i]? := fun i hi => Below.heap_setCell _ _ _ _ hi
  have hS : ∀ i, S i → (w1.setCell ⟨h, 1, none⟩ v1).heap[i]? = w.heap[i]? := fun i hi => by
    have h1 := y.sb i hi
    rw [hset i (by omega)]
    exact g1.block i (k.bk.lt i hi) (fun e => by have := hge i e.symm; omega)
  refine ⟨e1, k.bk.move hS, ?_, k.by_, ?_, blk_set e1 1 v1, ?_, ?_⟩
  · refine Rd.types k.rd fun i t cells hB hc ht => ?_
    have hi : i ≠ h := by
      rintro rfl
      exact not_cells k.fd (by rcases ht with rfl | rfl <;> decide) cells hc
    rw [hset i hi]
    exact g1.block i (blk_lt hc) (hne _ _ _ hc (by rcases ht with rfl | rfl <;> decide))
  · have hx : x ≠ h := by
      rintro rfl
      exact not_cells k.fd (by decide) _ k.bx
    rw [hset x hx]
    exact (g1.block x (blk_lt k.bx) (hne _ _ _ k.bx (by decide))).trans k.bx
  · exact Kd.R_set r1 e1 (by decide) 1 v1
  · have h2 : Foot (fun k => k = gp) w0 w1 := ⟨g1.os.trans k.ft.os, g1.tape.trans k.ft.tape, g1.output.trans k.ft.output, Nat.le_trans k.ft.size g1.size, fun i hi hn => by
      rw [g1.block i (Nat.lt_of_lt_of_le hi k.ft.size) (fun e => by have := hge i e.symm; omega)]
      exact k.ft.block i hi hn⟩
    exact ⟨h2.os, h2.tape, h2.output, by simpa [World.setCell] using h2.size, fun i hi hn => by rw [hset i (by omega)]; exact h2.block i hi hn⟩
end
/-- out, ahead of its own block. -/
structure Oz (S : Nat → Prop) (c B g gp x : Nat) (b : BookV) (w0 w : World) (s : RS) : Prop where
  bk : Bk S c w g b
  rd : Rd B w gp s.1 s.2
  by_ : Bytes s.1
  bx : w.heap[x]? = some (.cells #[.pointer (some ⟨g, 0, none⟩)] 27 (0, 0))
  ft : Foot (fun k => k = gp) w0 w
theorem Oz.op {S : Nat → Prop} {c B g gp x : Nat} {b : BookV} {w0 w w1 : World} {s s' : RS} (k : Oz S c B g gp x b w0 w s) (hS : ∀ k, S k → k < B) (hx : x ≠ gp) (hr : Rd B w1 gp s'.1 s'.2) (ho : Only gp w w1) (hb : Bytes s'.1) : Oz S c B g gp x b w0 w1 s' := by
  have hf : Foot (fun k => k = gp) w w1 := ⟨ho.os, ho.tape, ho.output, ho.size, fun k hk hn => ho.block k hk hn⟩
  have := hr.base
  exact ⟨k.bk.foot hf (fun i hi e => by have := hS i hi; omega), hr, hb, (ho.block x (blk_lt k.bx) hx).trans k.bx, k.ft.trans hf⟩
theorem Oz.ox {S : Nat → Prop} {c B g gp x : Nat} {b : BookV} {w0 w : World} {s : RS} (k : Oz S c B g gp x b w0 w s) (tm : Int) :
    Ox S c B g gp x w.heap.size b w0 (w.alloc (.cells #[.int .i64 tm, .slice none 0 0] 82)) s tm (.slice none 0 0) [] := by
  have hb := below_alloc (Below.refl w.heap.size w) (.cells #[.int .i64 tm, .slice none 0 0] 82)
  exact ⟨k.bk.below hb, k.rd.below hb, k.by_, (hb.block x (blk_lt k.bx)).trans k.bx, blk_new w _, Kd.R_nil _ _ _ _ _, k.ft.alloc _⟩
/-- Nothing has come. -/
theorem Oz.no {S : Nat → Prop} {c B g gp x : Nat} {b : BookV} {w0 w : World} {s : RS} (k : Oz S c B g gp x b w0 w s) {m : Nat} : Bk (Sn S m w) (c + 1) w g b ∧ Foot (fun k => S k ∨ k = gp) w0 w :=
  ⟨k.bk.widen.more (Nat.le_succ _), k.ft.mono fun _ _ h => .inr h⟩
theorem Ox.no {S : Nat → Prop} {c B g gp x h : Nat} {b : BookV} {w0 w : World} {s : RS} {tm : Int} {v : Value} {l : List Int} (k : Ox S c B g gp x h b w0 w s tm v l) {m : Nat} : Bk (Sn S m w) (c + 1) w g b ∧ Foot (fun k => S k ∨ k = gp) w0 w :=
  ⟨k.bk.widen.more (Nat.le_succ _), k.ft.mono fun _ _ h => .inr h⟩
/-- Is it a number of a name? -/
theorem right_c (S : Nat → Prop) (c g x : Nat) (b : BookV) (n : Int) (w : World) (h : Bk S c w g b) (hx : w.heap[x]? = some (.cells #[.pointer (some ⟨g, 0, none⟩)] 27 (0, 0))) (n0 : 0 ≤ n) (n1 : n < 4294967296) (hc : c ≤ 1000000) :
    Calls Try.prog 59 #[.int .u32 n, .pointer (some ⟨x, 0, none⟩)] w fun e w' => e = .returned (.bool (decide (n < (b.ns.length : Int)))) ∧ w = w' := by
  obtain ⟨_, _, _, hfew, _, vn, m1, m2, n2, f2, h1, _, _, _, _, hRn, _⟩ := h
  have c0 := blk_cell h1 0
  have q0 := blk_cell hx 0
  obtain ⟨A0, cap0, e0⟩ := Kd.R_slice hRn
  subst e0
  have hl : b.ns.length ≤ 1000000 := by omega
  clear h1 hx hRn
  go_enter Try.func59, Try.ntmps59
  go_wp2
  go_ret
  exact ⟨rfl, rfl⟩
/-- An output has come. -/
theorem Bk.outed {S : Nat → Prop} {c g n : Nat} {w w4 : World} {b : BookV} {vn : Value} {m1 m2 n2 own : Nat} {f2 : Nat → Option Value} {fd : FndV} {cs : List Value} (h : Bk S c w g b) (hs : w.heap.size ≤ w4.heap.size)
    (hg : Good ⟨b.ns, putO b.os own fd⟩) (e1 : w4.heap[g]? = some (.cells #[vn, .map (some m1), .map (some m2)] 69 (0, 0))) (s1 : S m1) (s2 : S m2) (hm : m1 ≠ m2) (hn2 : n2 ≤ c)
    (R4 : Kd.string.R 9 w4 0 S vn b.ns) (M1 : VMap 9 skey w4 m1 b.ns.length (fun s => (idx b.ns s).map fun n : Nat => .int .i64 (n : Int)))
    (M2 : VMap 3 ikey w4 m2 (if (f2 own).isSome = true then n2 else n2 + 1) (fun k => if k = own then some (.agg cs.toArray) else f2 k)) (O : OutsAt S w4 f2 b.os)
    (hM : kfnd.M w4 0 (fun k => n ≤ k ∧ k < w4.heap.size) fd.x cs) : Bk (Sn S n w4) (c + 1) w4 g ⟨b.ns, putO b.os own fd⟩ := by
  refine ⟨fun k hk => hk.elim (fun hk => Nat.lt_of_lt_of_le (h.lt k hk) hs) (·.2), .inl h.sg, hg, by have := h.few; simp only; omega, h.short, vn, m1, m2, _, _, e1, .inl s1, .inl s2, hm, ?_, Kd.R_mono R4 fun _ hk => .inl hk, M1, M2, fun k => ?_⟩
  · split <;> omega
  · simp only [putO]
    by_cases hk : k = own
    · rw [if_pos hk, if_pos hk]
      exact .inr ⟨fd, cs, rfl, rfl, kfnd.M_mono (fun _ h => .inr h) hM⟩
    · rw [if_neg hk, if_neg hk]
      exact (O.mono fun _ hk => .inl hk) k
--BEGIN WALK
set_option maxRecDepth 100000 in
set_option maxHeartbeats 4000000 in
theorem out_any (S : Nat → Prop) (c B g gp : Nat) (b : BookV) (s : RS) (w : World) (hB : Bk S c w g b) (hR : Rd B w gp s.1 s.2) (hS : ∀ k, S k → k < B) (hb : Bytes s.1) (hc : c ≤ 1000000) (hl : s.1.length ≤ 100000) :
    Calls Try.prog 39 #[.pointer (some ⟨g, 0, none⟩), .pointer (some ⟨gp, 0, none⟩)] w fun e w' => e = .returned (.bool (takeOut b s).isSome) ∧ Bk (Sn S w.heap.size w') (c + 1) w' g ((takeOut b s).getD b) ∧ Foot (fun k => S k ∨ k = gp) w w' := by
  have hgp := hR.base
  have hgl := hR.lt
  have HS := Lib.hid hS
  obtain ⟨wb, hwb⟩ : ∃ wb, wb = w.alloc (.cells #[.pointer (some ⟨g, 0, none⟩)] 27) := ⟨_, rfl⟩
  obtain ⟨x, hx⟩ : ∃ x, w.heap.size = x := ⟨_, rfl⟩
  have hb0 : Below w.heap.size w wb := by rw [hwb]; exact below_alloc (Below.refl _ _) _
  have HZ : Hid (Oz S c B g gp x b w wb s) := ⟨hB.below hb0, hR.below hb0, hb, by rw [hwb, ← hx]; exact blk_new w _, Foot.of_below hb0⟩
  have HY : Hid (∀ h, x ≤ h → Oy S B gp x h w) := fun h hh => ⟨hS, hgp, hgl, by rw [hx]; exact Nat.le_refl _, by rw [hx]; exact hh⟩
  have hxg : x ≠ gp := by omega
  have HX := Lib.hid hxg
  have HXE := Lib.hid hx
  have HWB := Lib.hid hwb
  have HXS : Hid (x ≤ wb.heap.size) := by show x ≤ wb.heap.size; rw [← hx]; exact hb0.size
  have hns : b.ns.length ≤ 1000000 := by have := hB.few; omega
  have HBY := Lib.hid hb
  clear hB hR hS hb hwb hb0 hxg
  go_enter Try.func39, Try.ntmps39
  go_wp2_with fail
  rw [← HWB.out]
  try rw [hx]
  clear hx
  --S1
  refine (r32_g B gp s _ HZ.out.rd HZ.out.by_).mono ?_
  rintro e w1 ⟨rfl, hr, ho⟩
  have b1 : Bytes (numS 4 s).1 := numS_bytes HBY.out
  have Z1 := Lib.hid (HZ.out.op HS.out HX.out hr ho b1)
  have HW1 := Lib.hid (Nat.le_trans HXS.out ho.size)
  have r1 := num4_range HBY.out
  have B1 := Lib.hid b1
  clear hr ho b1
  go_wp2_with fail
  refine (r64_g B gp (numS 4 s) _ Z1.out.rd Z1.out.by_).mono ?_
  rintro e w2 ⟨rfl, hr, ho⟩
  have b2 : Bytes (numS 8 (numS 4 s)).1 := numS_bytes B1.out
  have Z2 := Lib.hid (Z1.out.op HS.out HX.out hr ho b2)
  have HW2 := Lib.hid (Nat.le_trans HW1.out ho.size)
  have r2 := num_range B1.out (show 8 ≤ 8 by omega)
  have B2 := Lib.hid b2
  clear hr ho b2
  go_wp2_with fail
  refine (r32_g B gp (numS 8 (numS 4 s)) _ Z2.out.rd Z2.out.by_).mono ?_
  rintro e w3 ⟨rfl, hr, ho⟩
  have b3 : Bytes (oRest s).1 := numS_bytes B2.out
  have Z3 : Hid (Oz S c B g gp x b w w3 (oRest s)) := Z2.out.op HS.out HX.out hr ho b3
  have HW3 := Lib.hid (Nat.le_trans HW2.out ho.size)
  have r3 := num4_range B2.out
  have B3 := Lib.hid b3
  have HL3 : Hid ((oRest s).2 = false → (oRest s).1.length ≤ 100000) := fun h => by
    have h1 := numS_len (m := 4) (s := numS 8 (numS 4 s)) h
    have h2 := numS_len (m := 8) (s := numS 4 s) h1.2
    have h3 := numS_len (m := 4) (s := s) h2.2
    show (numS 4 (numS 8 (numS 4 s))).1.length ≤ 100000
    omega
  have HT : Hid (takeOut b s = if oBad b s then none else if ∀ n ∈ oDeps s, n.toNat < b.ns.length then some ⟨b.ns, putO b.os (oOwn s) ⟨oTime s, (oDeps s).map Int.toNat⟩⟩ else none) := rfl
  have HBAD : Hid (oBad b s ↔ ((oRest s).2 = true ∨ b.ns.length ≤ (num 4 s).toNat ∨ 4611686018427387904 ≤ num 8 (numS 4 s) ∨ (oRest s).1.length ≠ 4 * (num 4 (numS 8 (numS 4 s))).toNat)) := Iff.rfl
  have HO1 : Hid (oOwn s = (num 4 s).toNat) := rfl
  have HO2 : Hid (oTime s = num 8 (numS 4 s)) := rfl
  have HO3 : Hid (oMany s = (num 4 (numS 8 (numS 4 s))).toNat) := rfl
  have HO4 : Hid (oDeps s = depL (oMany s) (oRest s)) := rfl
  clear hr ho b3 Z1 Z2 HZ
  generalize num 4 s = own at r1 HBAD HO1 ⊢
  generalize num 8 (numS 4 s) = tm at r2 HBAD HO2 ⊢
  generalize num 4 (numS 8 (numS 4 s)) = many at r3 HBAD HO3 ⊢
  generalize oRest s = rs at Z3 B3 HL3 HBAD HO4 ⊢
  clear B1 B2
  obtain ⟨own, rfl⟩ := Int.eq_ofNat_of_zero_le r1.1
  obtain ⟨tm, rfl⟩ := Int.eq_ofNat_of_zero_le r2.1
  obtain ⟨many, rfl⟩ := Int.eq_ofNat_of_zero_le r3.1
  have r1 := r1.2
  have r2 := r2.2
  have r3 := r3.2
  rw [Int.toNat_natCast, Int.toNat_natCast] at HBAD
  rw [Int.toNat_natCast] at HO1 HO3
  go_wp2_with fail
  refine (right_any _ _ _ _ _ Z3.out.rd).mono ?_
  rintro e w4 ⟨rfl, rfl⟩
  have HNO : Hid (oBad b s → takeOut b s = none) := fun h => by rw [HT.out, if_pos h]
  by_cases k1 : rs.2 = true
  · have HE := Lib.hid (HNO.out (HBAD.out.2 (.inl k1)))
    rw [k1]
    clear k1
    go_wp2
    go_ret
    rw [HE.out]
    exact ⟨rfl, HXE.out ▸ Z3.out.no⟩
  simp only [Bool.not_eq_true] at k1
  have hl3 := HL3.out k1
  have K1 := Lib.hid k1
  rw [k1]
  clear k1
  go_wp2_with fail
  --S2
  refine (right_c S c g x b (own : Int) _ Z3.out.bk Z3.out.bx (by omega) (by omega) hc).mono ?_
  rintro e w4 ⟨rfl, rfl⟩
  by_cases k2 : own < b.ns.length
  case neg =>
    have HE := Lib.hid (HNO.out (HBAD.out.2 (.inr (.inl (by omega)))))
    have hd : decide ((own : Int) < (b.ns.length : Int)) = false := decide_eq_false (by omega)
    rw [hd]
    clear hd
    go_wp2
    go_ret
    rw [HE.out]
    exact ⟨rfl, HXE.out ▸ Z3.out.no⟩
  have hd : decide ((own : Int) < (b.ns.length : Int)) = true := decide_eq_true (by omega)
  rw [hd]
  clear hd
  by_cases k3 : 4611686018427387904 ≤ tm
  · have HE := Lib.hid (HNO.out (HBAD.out.2 (.inr (.inr (.inl (by omega))))))
    have hd : decide ((4611686018427387904 : Int) ≤ (tm : Int)) = true := decide_eq_true (by omega)
    go_wp2
    go_ret
    rw [HE.out]
    exact ⟨rfl, HXE.out ▸ Z3.out.no⟩
  have hd : decide ((4611686018427387904 : Int) ≤ (tm : Int)) = false := decide_eq_false (by omega)
  have k3 : tm < 4611686018427387904 := by omega
  go_wp2_with fail
  --S3
  refine (left_any _ _ _ _ _ Z3.out.rd).mono ?_
  rintro e w4 ⟨rfl, rfl⟩
  by_cases k4 : rs.1.length = 4 * many
  case neg =>
    have HE := Lib.hid (HNO.out (HBAD.out.2 (.inr (.inr (.inr k4)))))
    have hne : ((rs.1.length : Int) != 4 * (many : Int)) = true := by rw [bne_iff_ne]; omega
    clear k4
    go_wp2
    go_ret
    rw [HE.out]
    exact ⟨rfl, HXE.out ▸ Z3.out.no⟩
  have hne : ((rs.1.length : Int) != 4 * (many : Int)) = false := by rw [bne_eq_false_iff_eq]; omega
  have hmany : many ≤ 25000 := by omega
  have HOK : Hid (¬ oBad b s) := fun h => by
    rcases HBAD.out.1 h with h | h | h | h
    · rw [K1.out] at h; cases h
    · omega
    · omega
    · exact h k4
  have K4 := Lib.hid k4
  clear k4
  obtain ⟨hf, hhf⟩ : ∃ hf, w3.heap.size = hf := ⟨_, rfl⟩
  obtain ⟨wf, hwf⟩ : ∃ wf, wf = w3.alloc (.cells #[.int .i64 (tm : Int), .slice none 0 0] 82) := ⟨_, rfl⟩
  have X0 : Hid (Ox S c B g gp x hf b w wf rs (tm : Int) (.slice none 0 0) []) := by
    have h := Z3.out.ox (tm : Int)
    rw [hhf, ← hwf] at h
    exact h
  have HYF := Lib.hid (HY.out hf (by rw [← hhf]; exact HW3.out))
  have HWF := Lib.hid hwf
  clear hwf
  go_wp2
  rw [← HWF.out]
  try rw [hhf]
  clear hhf
  clear hd hne
  --S4
  go_loopw [43] (fun i wr => ∃ (k : Nat) (v : Value), k ≤ many ∧ i = .int .u32 k ∧ Hid (Ox S c B g gp x hf b w wr (depS k rs) (tm : Int) v (depL k rs)) ∧ Hid (∀ n ∈ depL k rs, n.toNat < b.ns.length)) (fun i _ => many - (intOf i).toNat)
  case atStart => exact ⟨0, _, by omega, rfl, X0.out, fun n hn => by cases hn⟩
  case round =>
    obtain ⟨k, v, hk, rfl, XK, HD⟩ := hrel
    by_cases l1 : k < many
    · go_wp2_with fail
      refine (r32_g B gp (depS k rs) _ XK.out.rd XK.out.by_).mono ?_
      rintro e w5 ⟨rfl, hr, ho⟩
      have XA := Lib.hid (XK.out.op HYF.out hr ho (numS_bytes XK.out.by_))
      have rn := num4_range XK.out.by_
      have hsn := depL_snoc k rs
      have HSN : Hid (depL (k + 1) rs = depL k rs ++ [num 4 (depS k rs)] ∧ depS (k + 1) rs = numS 4 (depS k rs)) := hsn
      obtain ⟨n, hn⟩ : ∃ n, n = num 4 (depS k rs) := ⟨_, rfl⟩
      rw [← hn] at rn HSN ⊢
      rw [← HSN.out.2] at XA
      clear hr ho hsn hn XK
      go_wp2_with fail
      --S5
      refine (right_c S c g x b n _ XA.out.bk XA.out.bx rn.1 rn.2 hc).mono ?_
      rintro e w6 ⟨rfl, rfl⟩
      by_cases k5 : n.toNat < b.ns.length
      case neg =>
        have hd : decide (n < (b.ns.length : Int)) = false := decide_eq_false (by omega)
        have HE : Hid (takeOut b s = none) := by
          show _ = _
          rw [HT.out, if_neg HOK.out, if_neg]
          intro hall
          refine k5 (hall n ?_)
          rw [HO4.out, HO3.out]
          have h1 : depL (k + 1) rs = (depL many rs).take (k + 1) := (depL_take many (k + 1) rs (by omega)).symm
          have h2 : n ∈ depL (k + 1) rs := by rw [HSN.out.1]; simp
          rw [h1] at h2
          exact List.mem_of_mem_take h2
        rw [hd]
        clear hd k5
        go_wp2
        go_ret
        rw [HE.out]
        exact ⟨rfl, HXE.out ▸ XA.out.no⟩
      have hd : decide (n < (b.ns.length : Int)) = true := decide_eq_true (by omega)
      rw [hd]
      clear hd
      obtain ⟨Av, cv, ev⟩ := Kd.R_slice XA.out.row
      obtain ⟨nv, hnv⟩ : ∃ nv, nv = (depL k rs).length := ⟨_, rfl⟩
      have hnk : nv = k := by rw [hnv, depL_length]
      rw [← hnv] at ev
      subst ev
      have q0 := blk_cell XA.out.fd 0
      have q1 := blk_cell XA.out.fd 1
      have HNK := Lib.hid hnk
      clear hnv hnk
      go_wp2_with (at_builtin; refine Held.of ?_)
      --S6
      refine Held.out (Kd.R_append (Kd.int .i64) (w0 := w5) 0 rfl (.tmp 52) (.tmp 55) 80 3 (.int .i64 0) 8 rfl Try.underlying80 (by kernel_rfl) rfl (by decide) (by decide) _ (depL k rs) n [.int .i64 n] (fun k => w.heap.size ≤ k) (fun _ => False) rfl rfl rfl (fun _ h => h.elim) (fun k hk => Nat.le_trans XA.out.ft.size hk) XA.out.row (Below.refl _ _) (Nat.zero_le _) (by rw [depL_length]; omega) ?_)
      intro v7 w7 r7 _ g7 _
      rw [← HSN.out.1] at r7
      obtain ⟨e7, x7⟩ := XA.out.app HYF.out r7 g7
      obtain ⟨A7, c7, ev⟩ := Kd.R_slice r7
      obtain ⟨n7, hn7⟩ : ∃ n7, n7 = (depL (k + 1) rs).length := ⟨_, rfl⟩
      rw [← hn7] at ev
      subst ev
      have X7 := Lib.hid x7
      have f1 := blk_frozen e7 1
      have q2 := blk_cell e7 1
      have HD7 : Hid (∀ n ∈ depL (k + 1) rs, n.toNat < b.ns.length) := fun y hy => by
        rw [HSN.out.1] at hy
        rcases List.mem_append.1 hy with h | h
        · exact HD.out y h
        · rw [List.mem_singleton.1 h]; exact k5
      clear r7 g7 e7 x7 hn7 q0 q1
      go_wp2
      --S7
      go_roundw
      case rel => exact ⟨k + 1, _, by omega, by go_num, X7.out, HD7.out⟩
      case measure => simp [intOf]; omega
    · have hk2 : k = many := by omega
      have XK2 : Hid (Ox S c B g gp x hf b w wr (depS many rs) (tm : Int) v (depL many rs)) := by have h := XK.out; rw [hk2] at h; exact h
      have HDM : Hid (∀ n ∈ depL many rs, n.toNat < b.ns.length) := by have h := HD.out; rw [hk2] at h; exact h
      have HE : Hid (takeOut b s = some ⟨b.ns, putO b.os own ⟨(tm : Int), (depL many rs).map Int.toNat⟩⟩) := by
        show _ = _
        rw [HT.out, if_neg HOK.out, if_pos, HO1.out, HO2.out, HO4.out, HO3.out]
        rw [HO4.out, HO3.out]
        exact HDM.out
      clear hk2 XK HD
      obtain ⟨Av, cv, ev⟩ := Kd.R_slice XK2.out.row
      obtain ⟨nv, hnv⟩ : ∃ nv, nv = (depL many rs).length := ⟨_, rfl⟩
      rw [← hnv] at ev
      subst ev
      obtain ⟨_, _, _, _, _, vn, m1, m2, n2, f2, h1, s1, s2, h12, hn2, hRn, hM1, hM2, hO⟩ := XK2.out.bk
      have X1 := Lib.hid h1
      have HRn := Lib.hid hRn
      have HM1 := Lib.hid hM1
      have HM2 := Lib.hid hM2
      have HO := Lib.hid hO
      have HS12 : Hid (S m1 ∧ S m2 ∧ m1 ≠ m2 ∧ n2 ≤ c) := ⟨s1, s2, h12, hn2⟩
      have q0 := blk_cell XK2.out.fd 0
      have q1 := blk_cell XK2.out.fd 1
      have qx := blk_cell XK2.out.bx 0
      have c2 := blk_cell h1 2
      obtain ⟨w8, hrun, hM8, hg8, hz8⟩ := (hM2.block (w1 := wr.drew) rfl).store keyed_i Try.underlying67 (by simp only [maxLen]; omega) (s := own) (keyOf_i (by omega)) (ikey_lit own) (fun s' h => ikey_inj h) (.agg #[.int .i64 (tm : Int), .slice Av nv cv])
      have HRUN := Lib.hid hrun
      have HM8 := Lib.hid hM8
      have HG8 := Lib.hid hg8
      have HZ8 : Hid (w8.heap.size = wr.heap.size) := hz8
      have HWO : Hid (wrap64 (own : Int) = (own : Int)) := IntWalk.wrap64_in _ (by omega)
      clear hnv
      clear h1 hRn hM1 hM2 hO s1 s2 h12 hn2 hrun hM8 hg8 hz8
      go_wp2
      --S8
      refine start_ (n := 8) (S := fun w' => w'.cell? ⟨x, 0, none⟩ = some (.pointer (some ⟨g, 0, none⟩)) ∧ w'.cell? ⟨g, 2, none⟩ = some (.map (some m2)) ∧ w'.cell? ⟨hf, 0, none⟩ = some (.int .i64 (tm : Int)) ∧ w'.cell? ⟨hf, 1, none⟩ = some (.slice Av nv cv)) (ds := [7]) #[false, false, false, false, false, false, false, false] (by kernel_rfl) rfl rfl ⟨qx, c2, q0, q1⟩ (fun hHeld => ?_)
      refine pure_ (i := 4) (N := some 63) (v := ?_) (a' := ?_) #[false, false, false, false, true, false, false, false] rfl rfl (by kernel_rfl) (fun _ _ _ h => h) (Or.inl ⟨by rfl, ?_⟩) ?_ ?_
      rotate_left
      · intro w'
        go_simp
        with_reducible rfl
      rotate_left
      · simp only [Act.put, List.setIfInBounds_toArray, List.set_cons_zero, List.set_cons_succ, i64_w, i32_w]
        rfl
      refine pure_ (i := 5) (N := some 64) (v := ?_) (a' := ?_) #[false, false, false, false, true, true, false, false] rfl rfl (by kernel_rfl) (fun _ _ _ h => h) (Or.inl ⟨by rfl, ?_⟩) ?_ ?_
      rotate_left
      · intro w'
        go_simp
        with_reducible rfl
      rotate_left
      · simp only [Act.put, List.setIfInBounds_toArray, List.set_cons_zero, List.set_cons_succ, i64_w, i32_w]
        rfl
      refine take_ (i := 0) (N := some 59) (v := ?_) (a' := ?_) #[true, false, false, false, true, true, false, false] rfl rfl (by kernel_rfl) (fun _ _ _ h => h) (Or.inl ⟨by rfl, ?_⟩) hHeld ?_ ?_
      rotate_left
      · rintro w' ⟨s0, s1, s2, s3⟩
        go_simp
        with_reducible rfl
      rotate_left
      · simp only [Act.put, List.setIfInBounds_toArray, List.set_cons_zero, List.set_cons_succ, i64_w, i32_w]
        rfl
      refine pure_ (i := 1) (N := some 60) (v := ?_) (a' := ?_) #[true, true, false, false, true, true, false, false] rfl rfl (by kernel_rfl) (fun _ _ _ h => h) (Or.inl ⟨by rfl, ?_⟩) ?_ ?_
      rotate_left
      · intro w'
        go_simp
        with_reducible rfl
      rotate_left
      · simp only [Act.put, List.setIfInBounds_toArray, List.set_cons_zero, List.set_cons_succ, i64_w, i32_w]
        rfl
      refine pure_ (i := 2) (N := some 61) (v := ?_) (a' := ?_) #[true, true, true, false, true, true, false, false] rfl rfl (by kernel_rfl) (fun _ _ _ h => h) (Or.inl ⟨by rfl, ?_⟩) ?_ ?_
      rotate_left
      · intro w'
        go_simp
        with_reducible rfl
      rotate_left
      · simp only [Act.put, List.setIfInBounds_toArray, List.set_cons_zero, List.set_cons_succ, i64_w, i32_w]
        rfl
      refine take_ (i := 3) (N := some 62) (v := ?_) (a' := ?_) #[true, true, true, true, true, true, false, false] rfl rfl (by kernel_rfl) (fun _ _ _ h => h) (Or.inl ⟨by rfl, ?_⟩) hHeld ?_ ?_
      rotate_left
      · rintro w' ⟨s0, s1, s2, s3⟩
        go_simp
        with_reducible rfl
      rotate_left
      · simp only [Act.put, List.setIfInBounds_toArray, List.set_cons_zero, List.set_cons_succ, i64_w, i32_w]
        rfl
      refine take_ (i := 6) (N := some 65) (v := ?_) (a' := ?_) #[true, true, true, true, true, true, true, false] rfl rfl (by kernel_rfl) (fun _ _ _ h => h) (Or.inl ⟨by rfl, ?_⟩) hHeld ?_ ?_
      rotate_left
      · rintro w' ⟨s0, s1, s2, s3⟩
        go_simp
        with_reducible rfl
      rotate_left
      · simp only [Act.put, List.setIfInBounds_toArray, List.set_cons_zero, List.set_cons_succ, i64_w, i32_w]
        rfl
      refine last_ (i := 7) (N := none) #[true, true, true, true, true, true, true, true] rfl rfl (by kernel_rfl) (by decide) (fun K hK => ?_)
      refine upd_step rfl (.tmp 62) (.tmp 64) (.tmp 65) 67 rfl m2 (.int .i64 (wrap64 (own : Int))) (.agg #[.int .i64 (tm : Int), .slice Av nv cv]) rfl rfl rfl (by rw [HWO.out]; exact HRUN.out) ?_
      refine hK.out _ _ ?_
      clear hK K
      refine done_ (by kernel_rfl) ?_
      --S9
      clear hHeld
      have hb8 : ∀ k, k < wr.heap.size → k ≠ m2 → w8.heap[k]? = wr.heap[k]? := fun k hk hne => HG8.out.block k hk (fun e => hne (by injection e))
      have HB8 := Lib.hid hb8
      have HMC : Hid (∀ t cells, wr.heap[m2]? ≠ some (.cells cells t (0, 0))) := fun t cells => HM2.out.no_cells
      have HG : Hid (Good ⟨b.ns, putO b.os own ⟨(tm : Int), (depL many rs).map Int.toNat⟩⟩) := by
        exact takeOut_good XK2.out.bk.good HBY.out HE.out
      have HMV : Hid (kfnd.M w8 0 (fun k => x ≤ k ∧ k < w8.heap.size) (FndV.x ⟨(tm : Int), (depL many rs).map Int.toNat⟩) [.int .i64 (tm : Int), .slice Av nv cv]) := by
        have e : (((depL many rs).map Int.toNat).map fun n : Nat => (n : Int)) = depL many rs := by
          rw [List.map_map]
          conv => rhs; rw [← List.map_id (depL many rs)]
          apply List.map_congr_left
          intro y hy
          have := (depL_range many B3.out y hy).1
          simp only [Function.comp, id]
          omega
        refine ⟨[.int .i64 (tm : Int)], [.slice Av nv cv], rfl, rfl, _, rfl, ?_⟩
        show (Kd.int .i64).R 3 w8 0 _ _ (((depL many rs).map Int.toNat).map fun n : Nat => (n : Int))
        rw [e]
        refine Kd.R_mono (R_q (Kd.R_bound XK2.out.row) (fun t _ cells => HMC.out t cells) hb8) (fun k hk => ⟨by have := hk.1; rw [HXE.out] at this; exact this, by rw [HZ8.out]; exact hk.2.2.1⟩)
      clear hb8 q0 q1 qx c2
      go_wp2
      go_ret
      --S10
      rw [HE.out]
      have hb8 := HB8.out
      have hs8 : wr.heap.size ≤ w8.heap.size := by rw [HZ8.out]; exact Nat.le_refl _
      refine ⟨rfl, HXE.out ▸ Bk.outed (m1 := m1) (m2 := m2) (n2 := n2) (f2 := f2) (vn := vn) XK2.out.bk hs8 HG.out ((hb8 g (blk_lt X1.out) (HM2.out.ne X1.out).symm).trans X1.out) HS12.out.1 HS12.out.2.1 HS12.out.2.2.1 HS12.out.2.2.2 (R_q HRn.out (fun t _ cells => HMC.out t cells) hb8) (HM1.out.block (hb8 m1 HM1.out.lt HS12.out.2.2.1)) (HM8.out.congr fun _ => rfl) (fun n => (HO.out n).imp id fun ⟨fd, cs, q1, q2, q3⟩ => ⟨fd, cs, q1, q2, M_q q3 (fun t _ cells => HMC.out t cells) hb8⟩) HMV.out, ?_⟩
      have h1a : Foot (fun k => S k ∨ k = gp) wr.drew w8 := Foot.of_grown HG8.out (fun k hk => by injection hk with hk; rw [← hk]; exact .inl HS12.out.2.1)
      exact ((XK2.out.ft.mono fun _ _ h => .inr h).drew).trans h1a
--END WALK
end Go.Proofs.Ytinonkakpgiblaa.Nam
