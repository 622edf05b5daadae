/- disk.deed, over whatever it does (walk). -/
import Derived.Test.YtononoakdebjeaaGreatDoorPathAll
import Derived.Test.YtononoakdebjeaaGreatDoorDkFresh
namespace Go.Proofs.YtononoakdebjeaaGreatDoor.Dk
open Go.RowKit Go.Proofs.YtononoakdebjeaaGreatDoorW.PrintWords Go.Proofs.YtononoakdebjeaaGreatDoorW.PrintLast Go.Proofs.YtononoakdebjeaaGreatDoor.Base Go.Proofs.YtononoakdebjeaaGreatDoor.Path Go.Maps
set_option linter.unusedVariables false
set_option linter.unusedSimpArgs false
/-- What a deed does in a world. -/
def BodyC (S : Nat → Prop) (c g : Nat) (D : DiskV) (f : Nat) (lb : Array Value) (body : DiskV → DiskV → Nat → Prop) (W : World) : Prop :=
  Calls Tryz.prog f lb W fun e w' => ∃ D' k, e = .returned (.int .i64 ((k : Nat) : Int)) ∧ Dk (Sx S W w') (c + 3) w' g D' ∧ body D D' k ∧ Foot S W w'
/-- What it ends in. -/
def DeedP (S : Nat → Prop) (c g : Nat) (D : DiskV) (ok : Bool) (body : DiskV → DiskV → Nat → Prop) (w : World) (e : Ending) (w' : World) : Prop :=
  ∃ D' k, e = .returned (.int .i64 ((k : Nat) : Int)) ∧ Dk (Sx S w w') (c + 3) w' g D' ∧ DeedR D ok body D' k ∧ Foot S w w'
theorem dk_sx {S : Nat → Prop} {c c' g : Nat} {D : DiskV} {w w' : World} (h : Dk S c w' g D) (hc : c ≤ c') (hl : ∀ k, S k → k < w'.heap.size) : Dk (Sx S w w') c' w' g D :=
  (h.mono (fun k hk => .inl hk) (fun k hk => hk.elim (hl k) (·.2))).more hc
theorem count_ok {c : Nat} {D : DiskV} (h : OkD c D) : OkD (c + 1) (countV D) :=
  ⟨h.quota, h.clock1, Nat.le_succ_of_le h.clock, Nat.succ_le_succ h.deeds, by
    have := h.armed
    show -1 ≤ (if 0 < D.armed then D.armed - 1 else D.armed) ∧ (if 0 < D.armed then D.armed - 1 else D.armed) ≤ _
    split <;> omega, h.up, h.dirE, Nat.le_succ_of_le h.few, h.names, h.chs, h.file⟩
theorem down_ok {c : Nat} {D : DiskV} (h : OkD c D) : OkD c { D with down := true } := ⟨h.quota, h.clock1, h.clock, h.deeds, h.armed, h.up, h.dirE, h.few, h.names, h.chs, h.file⟩
set_option maxHeartbeats 4000000 in
theorem deed_any (S : Nat → Prop) (c g : Nat) (D : DiskV) (f : Nat) (lb : Array Value) (v : Value) (l : List ByteArray) (body : DiskV → DiskV → Nat → Prop) (w : World) (h : Dk S c w g D) (hv : ∀ W, Foot (fun k => k = g) w W → Ss W v l) (hl : l.length ≤ 10) (hn : ∀ s ∈ l, s.size ≤ maxLen) (hc : c ≤ 1000000000)
    (eg : ∀ args w, (callFunc f args).run Tryz.prog w = .ok (.enter f args) w)
    (hb : ∀ W, Foot (fun k => k = g) w W → Dk S (c + 1) W g (countV D) → BodyC S c g (countV D) f lb body W) :
    Calls Tryz.prog 33 #[.pointer (some ⟨g, 0, none⟩), .func (.func f) #[] lb, v] w (DeedP S c g D (l.all rightB) body w) := by
  obtain ⟨mf, ms, vp, h1, _⟩ := h.ex
  have H := Lib.hid h
  have H1 := Lib.hid h1
  have HV := Lib.hid hv
  have HL := Lib.hid hl
  have HN := Lib.hid hn
  have HB := Lib.hid hb
  have q4 := (show w.cell? ⟨g, 4, none⟩ = some (.bool D.down) from blk_cell h1 4)
  have q3 := (show w.cell? ⟨g, 3, none⟩ = some (.int .i64 D.armed) from blk_cell h1 3)
  have q2 := (show w.cell? ⟨g, 2, none⟩ = some (.int .i64 (D.deeds : Int)) from blk_cell h1 2)
  have f4 := blk_frozen h1 4
  have f3 := blk_frozen h1 3
  have f2 := blk_frozen h1 2
  have har := h.ok.armed
  have hde := h.ok.deeds
  obtain ⟨A, cp, ev, _⟩ := hv w (Foot.refl _ _)
  obtain ⟨nv, hnv⟩ : ∃ nv, nv = l.length := ⟨_, rfl⟩
  rw [← hnv] at ev
  subst ev
  obtain ⟨dn, hdn⟩ : ∃ dn, dn = D.down := ⟨_, rfl⟩
  obtain ⟨ar, har2⟩ : ∃ ar, ar = D.armed := ⟨_, rfl⟩
  rw [← hdn] at q4
  rw [← har2] at q3 har
  have HDN := Lib.hid hdn
  have HAR := Lib.hid har2
  clear h h1 hv hl hn hb hnv hdn har2
  cases dn with
  | true =>
    clear q3 q2 f4 f3 f2
    go_enter Tryz.func33, Tryz.ntmps33
    go_wp2
    go_ret
    exact ⟨D, 8, rfl, dk_sx H.out (by omega) H.out.lt, .inl ⟨HDN.out.symm, rfl, rfl⟩, Foot.refl _ _⟩
  | false =>
    by_cases a0 : ar = 0
    · have b0 : (ar == 0) = true := beq_iff_eq.2 a0
      have HA0 : Hid (D.armed = 0) := HAR.out.symm.trans a0
      clear a0 q2 f2 f3
      go_enter Tryz.func33, Tryz.ntmps33
      go_wp2
      go_ret
      have hd2 : Dk S c (w.setCell ⟨g, 4, none⟩ (.bool true)) g { D with down := true } := H.out.turn (fun k _ hk => Below.heap_setCell _ _ _ _ hk) (by simp) (fun mf ms vp h => (blk_set h 4 _).trans rfl) rfl rfl rfl rfl (down_ok H.out.ok)
      exact ⟨{ D with down := true }, 8, rfl, dk_sx hd2 (by omega) (fun k hk => hd2.lt k hk), .inr (.inl ⟨HDN.out.symm, HA0.out, rfl, rfl⟩), (Foot.refl S w).setCell H.out.sg _ _⟩
    · have b0 : (ar == 0) = false := beq_eq_false_iff_ne.2 a0
      have HA0 : Hid (D.armed ≠ 0) := fun e => a0 (HAR.out.trans e)
      -- behind the counting
      have tail : ∀ W : World, W = (if 0 < ar then (w.setCell ⟨g, 3, none⟩ (.int .i64 (ar - 1))) else w).setCell ⟨g, 2, none⟩ (.int .i64 ((D.deeds : Int) + 1)) →
          Foot (fun k => k = g) w W ∧ Dk S (c + 1) W g (countV D) ∧ Foot S w W ∧ W.heap.size = w.heap.size := by
        intro W hW
        have hw1 : ∀ W1 : World, W1 = (if 0 < ar then (w.setCell ⟨g, 3, none⟩ (.int .i64 (ar - 1))) else w) → (∀ k, k ≠ g → W1.heap[k]? = w.heap[k]?) ∧ W1.heap.size = w.heap.size ∧ Foot (fun k => k = g) w W1 ∧ ∀ mf ms vp, w.heap[g]? = some (.cells (dcells D mf ms vp) 80 (0, 0)) → W1.heap[g]? = some (.cells (dcells { D with armed := if 0 < ar then ar - 1 else ar } mf ms vp) 80 (0, 0)) := by
          intro W1 e
          subst e
          by_cases hp : 0 < ar
          · rw [if_pos hp, if_pos hp]
            exact ⟨fun k hk => Below.heap_setCell _ _ _ _ hk, by simp, (Foot.refl (fun k => k = g) w).setCell (S := fun k => k = g) rfl _ _, fun mf ms vp h => (blk_set h 3 _).trans rfl⟩
          · rw [if_neg hp, if_neg hp]
            exact ⟨fun k hk => rfl, rfl, Foot.refl _ _, fun mf ms vp h => by rw [h, HAR.out]⟩
        obtain ⟨W1, e1⟩ : ∃ W1, W1 = (if 0 < ar then (w.setCell ⟨g, 3, none⟩ (.int .i64 (ar - 1))) else w) := ⟨_, rfl⟩
        obtain ⟨k1, k2, k3, k4⟩ := hw1 W1 e1
        rw [← e1] at hW
        have hz : W.heap.size = w.heap.size := by rw [hW, ← k2]; simp
        have hk : ∀ k, k ≠ g → W.heap[k]? = w.heap[k]? := fun k hk => by rw [hW, ← k1 k hk]; exact Below.heap_setCell _ _ _ _ hk
        have hf : Foot (fun k => k = g) w W := by rw [hW]; exact k3.setCell rfl _ _
        refine ⟨hf, H.out.turn (fun k _ hkg => hk k hkg) (Nat.le_of_eq hz.symm) (fun mf ms vp h => ?_) rfl rfl rfl rfl (count_ok H.out.ok), hf.mono (fun k _ e => by rw [e]; exact H.out.sg), hz⟩
        rw [hW]
        refine (blk_set (k4 mf ms vp h) 2 _).trans ?_
        unfold countV
        rw [← HAR.out]
        rfl
      have HT := Lib.hid tail
      clear a0 tail
      have fin : ∀ W : World, Foot (fun k => k = g) w W → Dk S (c + 1) W g (countV D) → Foot S w W → W.heap.size = w.heap.size → ∀ W2, Below W.heap.size W W2 → Dk S (c + 1) W2 g (countV D) ∧ Foot (fun k => k = g) w W2 ∧ Foot S w W2 ∧ w.heap.size ≤ W2.heap.size :=
        fun W k1 k2 k3 k4 W2 hb2 => ⟨k2.below hb2, k1.trans (Foot.of_below hb2), k3.trans (Foot.of_below hb2), by have := hb2.size; omega⟩
      have HFIN := Lib.hid fin
      clear fin
      by_cases a1 : 0 < ar
      · have b1 : decide (0 < ar) = true := decide_eq_true a1
        have q2' := (show (w.setCell ⟨g, 3, none⟩ (.int .i64 (ar - 1))).cell? ⟨g, 2, none⟩ = some (.int .i64 (D.deeds : Int)) from blk_cell (blk_set H1.out 3 _) 2)
        have f2' := blk_frozen (blk_set H1.out 3 (.int .i64 (ar - 1))) 2
        have HT1 : Hid (∀ W : World, W = (w.setCell ⟨g, 3, none⟩ (.int .i64 (ar - 1))).setCell ⟨g, 2, none⟩ (.int .i64 ((D.deeds : Int) + 1)) → Foot (fun k => k = g) w W ∧ Dk S (c + 1) W g (countV D) ∧ Foot S w W ∧ W.heap.size = w.heap.size) := fun W hW => HT.out W (by rw [if_pos a1]; exact hW)
        clear HT q2
        --DEED
        go_enter Tryz.func33, Tryz.ntmps33
        go_wp2_with fail
        obtain ⟨W, hW⟩ : ∃ W, W = (w.setCell ⟨g, 3, none⟩ (.int .i64 (ar - 1))).setCell ⟨g, 2, none⟩ (.int .i64 ((D.deeds : Int) + 1)) := ⟨_, rfl⟩
        have ht := HT1.out W hW
        rw [← hW]
        have HTW := Lib.hid ht
        clear hW ht
        refine (all_any _ l W (HV.out W HTW.out.1) (by have := HL.out; omega) HN.out).mono ?_
        rintro e W2 ⟨rfl, b2⟩
        have HF := Lib.hid (HFIN.out W HTW.out.1 HTW.out.2.1 HTW.out.2.2.1 HTW.out.2.2.2 W2 b2)
        obtain ⟨b, hbe⟩ : ∃ b, b = l.all rightB := ⟨_, rfl⟩
        rw [← hbe]
        clear b2
        cases b with
        | false =>
          have HBE := Lib.hid hbe
          clear hbe
          go_wp2
          go_ret
          exact ⟨countV D, 5, rfl, dk_sx HF.out.1 (by omega) HF.out.1.lt, .inr (.inr ⟨HDN.out.symm, HA0.out, .inl ⟨HBE.out.symm, rfl, rfl⟩⟩), HF.out.2.2.1⟩
        | true =>
          have HBE := Lib.hid hbe
          clear hbe
          go_wp2_with fail
          refine (HB.out W2 HF.out.2.1 HF.out.1).mono ?_
          rintro e w9 ⟨D', k, rfl, d9, r9, f9⟩
          have HD9 := Lib.hid d9
          have HR9 := Lib.hid r9
          have HF9 := Lib.hid f9
          clear d9 r9 f9
          go_wp2
          go_ret
          refine ⟨D', k, rfl, ?_, .inr (.inr ⟨HDN.out.symm, HA0.out, .inr ⟨HBE.out.symm, HR9.out⟩⟩), HF.out.2.2.1.trans HF9.out⟩
          refine HD9.out.mono (fun q hq => ?_) (fun q hq => ?_)
          · rcases hq with hq | hq
            · exact .inl hq
            · exact .inr ⟨Nat.le_trans HF.out.2.2.2 hq.1, hq.2⟩
          · rcases hq with hq | hq
            · exact Nat.lt_of_lt_of_le (H.out.lt q hq) (Nat.le_trans HF.out.2.2.2 HF9.out.size)
            · exact hq.2
      · have b1 : decide (0 < ar) = false := decide_eq_false a1
        have HT1 : Hid (∀ W : World, W = w.setCell ⟨g, 2, none⟩ (.int .i64 ((D.deeds : Int) + 1)) → Foot (fun k => k = g) w W ∧ Dk S (c + 1) W g (countV D) ∧ Foot S w W ∧ W.heap.size = w.heap.size) := fun W hW => HT.out W (by rw [if_neg a1]; exact hW)
        clear HT
        go_enter Tryz.func33, Tryz.ntmps33
        go_wp2_with fail
        obtain ⟨W, hW⟩ : ∃ W, W = w.setCell ⟨g, 2, none⟩ (.int .i64 ((D.deeds : Int) + 1)) := ⟨_, rfl⟩
        have ht := HT1.out W hW
        rw [← hW]
        have HTW := Lib.hid ht
        clear hW ht
        refine (all_any _ l W (HV.out W HTW.out.1) (by have := HL.out; omega) HN.out).mono ?_
        rintro e W2 ⟨rfl, b2⟩
        have HF := Lib.hid (HFIN.out W HTW.out.1 HTW.out.2.1 HTW.out.2.2.1 HTW.out.2.2.2 W2 b2)
        obtain ⟨b, hbe⟩ : ∃ b, b = l.all rightB := ⟨_, rfl⟩
        rw [← hbe]
        clear b2
        cases b with
        | false =>
          have HBE := Lib.hid hbe
          clear hbe
          go_wp2
          go_ret
          exact ⟨countV D, 5, rfl, dk_sx HF.out.1 (by omega) HF.out.1.lt, .inr (.inr ⟨HDN.out.symm, HA0.out, .inl ⟨HBE.out.symm, rfl, rfl⟩⟩), HF.out.2.2.1⟩
        | true =>
          have HBE := Lib.hid hbe
          clear hbe
          go_wp2_with fail
          refine (HB.out W2 HF.out.2.1 HF.out.1).mono ?_
          rintro e w9 ⟨D', k, rfl, d9, r9, f9⟩
          have HD9 := Lib.hid d9
          have HR9 := Lib.hid r9
          have HF9 := Lib.hid f9
          clear d9 r9 f9
          go_wp2
          go_ret
          refine ⟨D', k, rfl, ?_, .inr (.inr ⟨HDN.out.symm, HA0.out, .inr ⟨HBE.out.symm, HR9.out⟩⟩), HF.out.2.2.1.trans HF9.out⟩
          refine HD9.out.mono (fun q hq => ?_) (fun q hq => ?_)
          · rcases hq with hq | hq
            · exact .inl hq
            · exact .inr ⟨Nat.le_trans HF.out.2.2.2 hq.1, hq.2⟩
          · rcases hq with hq | hq
            · exact Nat.lt_of_lt_of_le (H.out.lt q hq) (Nat.le_trans HF.out.2.2.2 HF9.out.size)
            · exact hq.2
end Go.Proofs.YtononoakdebjeaaGreatDoor.Dk
