/- A record is taken: names.(*Book).Take. -/
import Derived.Test.YtinonkakpgiblaaNamOut
import Derived.Test.YtinonkakpgiblaaCutB
namespace Go.Proofs.Ytinonkakpgiblaa.Nam
open Go.RowKit Go.Proofs.YtinonkakpgiblaaW.PrintWords Go.Proofs.YtinonkakpgiblaaW.PrintLast Go.Proofs.Ytinonkakpgiblaa.Base Go.Proofs.Ytinonkakpgiblaa.Pack Go.Maps
set_option linter.unusedVariables false
set_option linter.unusedSimpArgs false

def bkey (n : Nat) : Lit := .int .u8 n
theorem bkey_inj {a b : Nat} (h : a ≠ b) : bkey a ≠ bkey b := by
  intro e
  unfold bkey at e
  injection e with _ e
  omega
theorem bkey_lit (n : Nat) : WideAt.IsKeyLit (bkey n) := by simp [WideAt.IsKeyLit, bkey]
theorem keyOf_b {n : Nat} (h : n < 256) : keyOf Try.prog 5 (.int .u8 n) = some (bkey n) :=
  keyOf_int_mk Try.underlying5 (by simp [Lit.wf, IntKind.min, IntKind.max, IntKind.bits, IntKind.signed]; omega)
theorem keyed_b : Keyed Try.prog 5 := int_keyed Try.underlying5
theorem zero_func (w : World) : (zeroValue 87).run Try.prog w = .ok .nilFunc w := by kernel_rfl
def takeE (o : Option BookV) : Int := if o.isSome = true then 0 else 4
theorem Foot.inner {S : Nat → Prop} {w w1 w2 : World} {g : Nat} (hb : Below w.heap.size w w1) (hf : Foot (fun k => S k ∨ k = g) w1 w2) (hg : w.heap.size ≤ g) : Foot S w w2 :=
  ⟨hf.os.trans hb.os, hf.tape.trans hb.tape, hf.output.trans hb.output, Nat.le_trans hb.size hf.size, fun k hk hn => (hf.block k (Nat.lt_of_lt_of_le hk hb.size) (fun h => h.elim hn (fun e => by omega))).trans (hb.block k hk)⟩
theorem Bk.sn {S : Nat → Prop} {c g n m : Nat} {w : World} {b : BookV} (h : Bk (Sn S n w) c w g b) (hS : ∀ k, S k → k < w.heap.size) (hm : m ≤ n) : Bk (Sn S m w) c w g b :=
  h.mono (fun k hk => hk.imp id fun h => ⟨by omega, h.2⟩) (fun k hk => hk.elim (hS k) (·.2))

set_option maxHeartbeats 2000000 in
theorem take_empty (S : Nat → Prop) (c g : Nat) (b : BookV) (v : Value) (w : World) (hB : Bk S c w g b) (hv : Bs w v []) :
    Calls Try.prog 21 #[.pointer (some ⟨g, 0, none⟩), v] w fun e w' => e = .returned (.int .i64 4) ∧ w = w' := by
  obtain ⟨A, cp, rfl, _, _⟩ := hv.len
  go_enter Try.func21, Try.ntmps21
  go_wp2
  go_ret
  exact ⟨rfl, rfl⟩
theorem take_none (v : Value) (w : World) :
    Calls Try.prog 21 #[.pointer none, v] w fun e w' => e = .returned (.int .i64 15) ∧ w = w' := by
  go_enter Try.func21, Try.ntmps21
  go_wp2
  go_ret
  exact ⟨rfl, rfl⟩
--BEGIN WALK
set_option maxRecDepth 100000 in
set_option maxHeartbeats 4000000 in
theorem take_cons (S : Nat → Prop) (c g : Nat) (b : BookV) (v : Value) (q : Nat) (rest : List Int) (w : World) (hB : Bk S c w g b) (hv : Bs w v ((q : Int) :: rest)) (hb : Bytes rest) (hq : q < 256) (hc : c ≤ 1000000) (hl : rest.length ≤ 90000) :
    Calls Try.prog 21 #[.pointer (some ⟨g, 0, none⟩), v] w fun e w' => e = .returned (.int .i64 (takeE (takeV b ((q : Int) :: rest)))) ∧ Bk (Sn S w.heap.size w') (c + 1) w' g ((takeV b ((q : Int) :: rest)).getD b) ∧ Foot S w w' := by
  have hmm := @run_makeMap Try.prog
  have hf1 := fun (w : World) => run_eql_func_nil (P := Try.prog) w 87 (Fn.func 38) #[.pointer (some ⟨g, 0, none⟩)] #[] Try.underlying87
  have hf2 := fun (w : World) => run_eql_func_nil (P := Try.prog) w 87 (Fn.func 39) #[.pointer (some ⟨g, 0, none⟩)] #[] Try.underlying87
  have hf3 := fun (w : World) => run_eql_nil_func (P := Try.prog) w 87 Try.underlying87
  have HB := Lib.hid hB
  have HY := Lib.hid hb
  obtain ⟨u, ku, hu⟩ := cut_from hv 1 (by simp)
  have hu : Bs w u rest := hu
  obtain ⟨A, cp, rfl, hcp, hr⟩ := id hv
  have HV := Lib.hid hv
  have HU := Lib.hid hu
  obtain ⟨Au, cu, rfl, _, _⟩ := hu.len
  obtain ⟨a0, rfl, h0⟩ := at_nat hr 0 (by simp)
  have hl2 : ((q : Int) :: rest).length ≤ 90001 := by simp only [List.length_cons]; omega
  have hl3 : 0 < ((q : Int) :: rest).length := by simp
  obtain ⟨n, hn⟩ : ∃ n, n = ((q : Int) :: rest).length := ⟨_, rfl⟩
  obtain ⟨m, hm⟩ : ∃ m, m = rest.length := ⟨_, rfl⟩
  rw [← hn] at hl2 hl3 ku hcp ⊢
  rw [← hm] at ku hl
  have h0 : w.cell? (a0.add 0) = some (.int .u8 (q : Int)) := h0
  have H0 := Lib.hid h0
  have HM : Hid (m = rest.length) := hm
  rw [← hm] at HU
  have k1 : ∀ W, (Instr.slice 46 (.slice (some a0) n cp) (some (.int .i64 1)) none none).run Try.prog W = .ok (.slice Au m cu) W := ku
  clear hB hv hb hu hr h0 hn hm ku
  go_enter Try.func21, Try.ntmps21
  go_wp2_with fail
  --S1
  refine (new_any _ rest _ HU.out (by rw [← HM.out]; omega)).mono ?_
  rintro e w1 ⟨gp, rfl, hr, hb1⟩
  have HR := Lib.hid hr
  have HB1 := Lib.hid hb1
  have q0 : w1.cell? (a0.add 0) = some (.int .u8 (q : Int)) := pw_cell_below hb1 H0.out
  obtain ⟨mb, hmb⟩ : ∃ mb, w1.heap.size = mb := ⟨_, rfl⟩
  obtain ⟨W1, hW1⟩ : ∃ W1, W1 = w1.alloc (.map #[] 0) := ⟨_, rfl⟩
  have hbw : Below w1.heap.size w1 W1 := by rw [hW1]; exact below_alloc (Below.refl _ _) _
  have hM1 : VMap 5 bkey W1 mb 0 (fun _ => none) := by rw [hW1, ← hmb]; exact VMap.made w1 _ _
  obtain ⟨W2, hrun2, hM2, hg2, hz2⟩ := hM1.store keyed_b Try.underlying88 (by simp only [maxLen]; omega) (s := 1) (keyOf_b (by omega)) (bkey_lit 1) (fun s' h => bkey_inj h) (.func (Fn.func 38) #[.pointer (some ⟨g, 0, none⟩)] #[])
  obtain ⟨W3, hrun3, hM3, hg3, hz3⟩ := hM2.store keyed_b Try.underlying88 (by simp only [maxLen]; split <;> omega) (s := 2) (keyOf_b (by omega)) (bkey_lit 2) (fun s' h => bkey_inj h) (.func (Fn.func 39) #[.pointer (some ⟨g, 0, none⟩)] #[])
  have hlk := (hM3.look keyed_b Try.underlying88 (zero_func _) (s := q) (keyOf_b hq)).2
  have hb3 : Below w1.heap.size w1 W3 := by
    have h2 := hbw.grown hg2 hbw.size (fun k hk => by injection hk with hk; rw [← hk, ← hmb]; exact Nat.le_refl _)
    exact h2.grown hg3 h2.size (fun k hk => by injection hk with hk; rw [← hk, ← hmb]; exact Nat.le_refl _)
  have HB3 := Lib.hid hb3
  have HR3 := Lib.hid (HR.out.below hb3)
  have HB4 := Lib.hid (hb1.trans (hb3.mono hb1.size))
  have HK := Lib.hid (HB.out.below HB4.out)
  have HS4 : Hid (w.heap.size ≤ W3.heap.size) := HB4.out.size
  have q3 : W3.cell? a0 = some (.int .u8 (q : Int)) := pw_cell_below hb3 q0
  have HRUN2 := Lib.hid hrun2
  have HRUN3 := Lib.hid hrun3
  have HW1 := Lib.hid hW1
  have hgw : Hid (w.heap.size ≤ gp) := HR.out.base
  clear hr hb1 hb3 hbw hM1 hM2 hM3 hg2 hg3 hz2 hz3 hrun2 hrun3 q0
  go_wp2_with (with_reducible refine gate_ (.insert 88 (.tmp 15) (.const (.int .u8 1)) (.tmp 17)) rfl ?_; refine Held.of ?_)
  rw [← HW1.out]
  try rw [hmb]
  --S2
  refine ins_at rfl (.tmp 15) (.const (.int .u8 1)) (.tmp 17) 88 rfl mb _ _ rfl rfl rfl HRUN2.out ?_
  go_wp2_with (with_reducible refine gate_ (.insert 88 (.tmp 15) (.const (.int .u8 2)) (.tmp 19)) rfl ?_; refine Held.of ?_)
  refine ins_at rfl (.tmp 15) (.const (.int .u8 2)) (.tmp 19) 88 rfl mb _ _ rfl rfl rfl HRUN3.out ?_
  --S3
  have HT : Hid (takeV b ((q : Int) :: rest) = if (q : Int) = 1 then takeName b (rest, false) else if (q : Int) = 2 then takeOut b (rest, false) else none) := takeV_cons b q rest
  have hmn : m ≤ 90000 := hl
  by_cases e1 : q = 1
  · have HE : Hid (takeV b ((q : Int) :: rest) = takeName b (rest, false)) := by show _ = _; rw [HT.out, if_pos (by omega)]
    rw [if_neg (by omega), if_pos e1] at hlk
    have hlk2 : (Instr.lookup 88 (.map (some mb)) (.int .u8 (q : Int)) false).run Try.prog W3 = .ok (.func (Fn.func 38) #[.pointer (some ⟨g, 0, none⟩)] #[]) W3 := hlk
    clear hlk e1
    go_wp2_with fail
    --S4
    refine (name_any S c _ g gp b (rest, false) _ HK.out HR3.out (fun k hk => HB.out.lt k hk) HY.out hc (by simp only; rw [← HM.out]; omega)).mono ?_
    rintro e w5 ⟨rfl, hk, hf⟩
    have HK5 := Lib.hid (hk.sn (m := w.heap.size) (fun k hk => Nat.lt_of_lt_of_le (HK.out.lt k hk) hf.size) HS4.out)
    have HF5 := Lib.hid (Foot.inner HB4.out hf hgw.out)
    clear hk hf
    cases hz : takeName b (rest, false) with
    | none =>
      rw [hz] at HE HK5
      have HE2 : Hid (takeE (takeV b ((q : Int) :: rest)) = 4) := by show _ = _; rw [HE.out]; rfl
      have HE3 : Hid ((takeV b ((q : Int) :: rest)).getD b = b) := by show _ = _; rw [HE.out]; rfl
      clear hz
      simp only [Option.isSome_none]
      go_wp2
      go_ret
      rw [HE2.out, HE3.out]
      exact ⟨rfl, HK5.out, HF5.out⟩
    | some b2 =>
      rw [hz] at HE HK5
      have HE2 : Hid (takeE (takeV b ((q : Int) :: rest)) = 0) := by show _ = _; rw [HE.out]; rfl
      have HE3 : Hid ((takeV b ((q : Int) :: rest)).getD b = b2) := by show _ = _; rw [HE.out]; rfl
      clear hz
      simp only [Option.isSome_some]
      go_wp2
      go_ret
      rw [HE2.out, HE3.out]
      exact ⟨rfl, HK5.out, HF5.out⟩
  by_cases e2 : q = 2
  · have HE : Hid (takeV b ((q : Int) :: rest) = takeOut b (rest, false)) := by show _ = _; rw [HT.out, if_neg (by omega), if_pos (by omega)]
    rw [if_pos e2] at hlk
    have hlk2 : (Instr.lookup 88 (.map (some mb)) (.int .u8 (q : Int)) false).run Try.prog W3 = .ok (.func (Fn.func 39) #[.pointer (some ⟨g, 0, none⟩)] #[]) W3 := hlk
    clear hlk e1 e2
    go_wp2_with fail
    --S5
    refine (out_any S c _ g gp b (rest, false) _ HK.out HR3.out (fun k hk => HB.out.lt k hk) HY.out hc (by simp only; rw [← HM.out]; omega)).mono ?_
    rintro e w5 ⟨rfl, hk, hf⟩
    have HK5 := Lib.hid (hk.sn (m := w.heap.size) (fun k hk => Nat.lt_of_lt_of_le (HK.out.lt k hk) hf.size) HS4.out)
    have HF5 := Lib.hid (Foot.inner HB4.out hf hgw.out)
    clear hk hf
    cases hz : takeOut b (rest, false) with
    | none =>
      rw [hz] at HE HK5
      have HE2 : Hid (takeE (takeV b ((q : Int) :: rest)) = 4) := by show _ = _; rw [HE.out]; rfl
      have HE3 : Hid ((takeV b ((q : Int) :: rest)).getD b = b) := by show _ = _; rw [HE.out]; rfl
      clear hz
      simp only [Option.isSome_none]
      go_wp2
      go_ret
      rw [HE2.out, HE3.out]
      exact ⟨rfl, HK5.out, HF5.out⟩
    | some b2 =>
      rw [hz] at HE HK5
      have HE2 : Hid (takeE (takeV b ((q : Int) :: rest)) = 0) := by show _ = _; rw [HE.out]; rfl
      have HE3 : Hid ((takeV b ((q : Int) :: rest)).getD b = b2) := by show _ = _; rw [HE.out]; rfl
      clear hz
      simp only [Option.isSome_some]
      go_wp2
      go_ret
      rw [HE2.out, HE3.out]
      exact ⟨rfl, HK5.out, HF5.out⟩
  · have HE : Hid (takeV b ((q : Int) :: rest) = none) := by show _ = _; rw [HT.out, if_neg (by omega), if_neg (by omega)]
    rw [if_neg e2, if_neg e1] at hlk
    have hlk2 : (Instr.lookup 88 (.map (some mb)) (.int .u8 (q : Int)) false).run Try.prog W3 = .ok .nilFunc W3 := hlk
    have HE2 : Hid (takeE (takeV b ((q : Int) :: rest)) = 4) := by show _ = _; rw [HE.out]; rfl
    have HE3 : Hid ((takeV b ((q : Int) :: rest)).getD b = b) := by show _ = _; rw [HE.out]; rfl
    clear hlk e1 e2
    go_wp2
    go_ret
    --S6
    rw [HE2.out, HE3.out]
    exact ⟨rfl, HK.out.widen.more (Nat.le_succ _), Foot.of_below HB4.out⟩
theorem take_any (S : Nat → Prop) (c g : Nat) (b : BookV) (v : Value) (xs : List Int) (w : World) (hB : Bk S c w g b) (hv : Bs w v xs) (hb : Bytes xs) (hc : c ≤ 1000000) (hl : xs.length ≤ 90000) :
    Calls Try.prog 21 #[.pointer (some ⟨g, 0, none⟩), v] w fun e w' => e = .returned (.int .i64 (takeE (takeV b xs))) ∧ Bk (Sn S w.heap.size w') (c + 1) w' g ((takeV b xs).getD b) ∧ Foot S w w' := by
  cases xs with
  | nil =>
    refine (take_empty S c g b v w hB hv).mono ?_
    rintro e w' ⟨rfl, rfl⟩
    exact ⟨rfl, hB.widen.more (Nat.le_succ _), Foot.refl _ _⟩
  | cons k rest =>
    have hk := hb k (by simp)
    obtain ⟨q, rfl⟩ := Int.eq_ofNat_of_zero_le hk.1
    exact take_cons S c g b v q rest w hB hv (fun x hx => hb x (List.mem_cons_of_mem _ hx)) (by omega) hc (by simp only [List.length_cons] at hl; omega)
--END WALK
end Go.Proofs.Ytinonkakpgiblaa.Nam
