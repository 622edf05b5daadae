/- What Read answers; the state of runs.Read under way, and the contract of its time. -/
import Derived.Test.YtehndlafbbpofaaRunRow
import Derived.Test.YtehndlafbbpofaaRunWrite
namespace Go.Proofs.Ytehndlafbbpofaa.Run
open Go.RowKit Go.Proofs.YtehndlafbbpofaaW.PrintWords Go.Proofs.YtehndlafbbpofaaW.PrintLast Go.Proofs.Ytehndlafbbpofaa.Base Go.Proofs.Ytehndlafbbpofaa.Pack
set_option linter.unusedVariables false
set_option linter.unusedSimpArgs false

/-- So many inputs, out of a reader (times as they lie there). -/
def insL : Nat → RS → List (ByteArray × Int) × RS
  | 0, s => ([], s)
  | n + 1, s => if s.2 = true then ([], s) else ((txt s, num 8 (txtS s)) :: (insL n (numS 8 (txtS s))).1, (insL n (numS 8 (txtS s))).2)
def fndL : Nat → RS → List Int × RS
  | 0, s => ([], s)
  | n + 1, s => if s.2 = true then ([], s) else (num 8 s :: (fndL n (numS 8 s)).1, (fndL n (numS 8 s)).2)
theorem insL_stop (n : Nat) (s : RS) (h : n = 0 ∨ s.2 = true) : insL n s = ([], s) := by
  cases n with
  | zero => rfl
  | succ n =>
    unfold insL
    rw [if_pos (h.resolve_left (by omega))]
theorem fndL_stop (n : Nat) (s : RS) (h : n = 0 ∨ s.2 = true) : fndL n s = ([], s) := by
  cases n with
  | zero => rfl
  | succ n =>
    unfold fndL
    rw [if_pos (h.resolve_left (by omega))]
theorem insL_go (n : Nat) (s : RS) (h : s.2 = false) : insL (n + 1) s = ((txt s, num 8 (txtS s)) :: (insL n (numS 8 (txtS s))).1, (insL n (numS 8 (txtS s))).2) := by
  rw [insL, if_neg (by simp [h])]
theorem fndL_go (n : Nat) (s : RS) (h : s.2 = false) : fndL (n + 1) s = (num 8 s :: (fndL n (numS 8 s)).1, (fndL n (numS 8 s)).2) := by
  rw [fndL, if_neg (by simp [h])]
def late (n : Int) : Bool := decide (4611686018427387904 ≤ n)
def lateR (r : RunV) : Bool := late r.time || late r.mark || r.ins.any (fun p => late p.2) || r.found.any late
structure Raw where
  hash : Int
  run : RunV
  st : RS
def rs1 (xs : List Int) : RS := numS 8 (xs, false)
def rs2 (xs : List Int) : RS := txtS (rs1 xs)
def rs3 (xs : List Int) : RS := txtS (rs2 xs)
def rs4 (xs : List Int) : RS := numS 8 (rs3 xs)
def rs5 (xs : List Int) : RS := numS 8 (rs4 xs)
def rI (xs : List Int) : List (ByteArray × Int) × RS := insL (num 4 (rs5 xs)).toNat (numS 4 (rs5 xs))
def rF (xs : List Int) : List Int × RS := fndL (num 4 (rI xs).2).toNat (numS 4 (rI xs).2)
/-- What any bytes are read as, whether they are a run or not. -/
def raw (xs : List Int) : Raw := ⟨num 8 (xs, false), ⟨txt (rs1 xs), txt (rs2 xs), num 8 (rs3 xs), num 8 (rs4 xs), (rI xs).1, (rF xs).1⟩, (rF xs).2⟩
def okB (x : Raw) : Bool := !(lateR x.run) && !x.st.2 && decide (x.st.1.length = 0) && decide (x.hash = Crc.hashOf (bytesOf x.run.cmd))
def zrunV : RunV := ⟨⟨#[]⟩, ⟨#[]⟩, 0, 0, [], []⟩
/-- The run that Read answers. -/
def readRun (xs : List Int) : RunV := if okB (raw xs) = true then (raw xs).run else zrunV
def clip (f : Int → Int) (r : RunV) : RunV := ⟨r.out, r.cmd, f r.time, f r.mark, r.ins.map fun p => (p.1, f p.2), r.found.map f⟩
def c1 (n : Int) : Int := if late n = true then 0 else n
def c2 (n : Int) : Int := n % 4611686018427387904
theorem clip_id (f : Int → Int) (r : RunV) (h : ∀ t ∈ timesOf r, f t = t) : clip f r = r := by
  obtain ⟨out, cmd, time, mark, ins, found⟩ := r
  unfold clip
  unfold timesOf at h
  simp only [List.mem_append, List.mem_cons, List.not_mem_nil, or_false, List.mem_map] at h ⊢
  congr 1
  · exact h time (.inl (.inl (.inl rfl)))
  · exact h mark (.inl (.inl (.inr rfl)))
  · have := List.map_congr_left (l := ins) (f := fun p => (p.1, f p.2)) (g := id) (fun p hp => by rw [h p.2 (.inr ⟨p, hp, rfl⟩)]; rfl)
    rw [this, List.map_id]
  · have := List.map_congr_left (l := found) (f := f) (g := id) (fun t ht => by rw [h t (.inl (.inr ht))]; rfl)
    rw [this, List.map_id]
theorem lateR_false {r : RunV} (h : lateR r = false) : ∀ t ∈ timesOf r, t < 4611686018427387904 := by
  unfold lateR late at h
  simp only [Bool.or_eq_false_iff, decide_eq_false_iff_not, List.any_eq_false, decide_eq_true_eq] at h
  intro t ht
  unfold timesOf at ht
  simp only [List.mem_append, List.mem_cons, List.not_mem_nil, or_false, List.mem_map] at ht
  rcases ht with ((rfl | rfl) | ht) | ⟨p, hp, rfl⟩
  · omega
  · omega
  · have := h.2 t ht; omega
  · have := h.1.2 p hp; omega
theorem insL_range : ∀ (n : Nat) (s : RS), Bytes s.1 → (∀ p ∈ (insL n s).1, 0 ≤ p.2 ∧ p.2 < 18446744073709551616) ∧ Bytes (insL n s).2.1 := by
  intro n
  induction n with
  | zero => intro s hb; exact ⟨(fun p hp => by cases hp), hb⟩
  | succ n ih =>
    intro s hb
    cases hs : s.2 with
    | true => rw [insL_stop _ _ (.inr hs)]; exact ⟨(fun p hp => by cases hp), hb⟩
    | false =>
      rw [insL_go n s hs]
      have ih := ih (numS 8 (txtS s)) (numS_bytes (txtS_bytes hb))
      refine ⟨fun p hp => ?_, ih.2⟩
      rcases List.mem_cons.1 hp with rfl | hp
      · exact num_range (txtS_bytes hb) (by omega)
      · exact ih.1 p hp
theorem fndL_range : ∀ (n : Nat) (s : RS), Bytes s.1 → (∀ p ∈ (fndL n s).1, 0 ≤ p ∧ p < 18446744073709551616) ∧ Bytes (fndL n s).2.1 := by
  intro n
  induction n with
  | zero => intro s hb; exact ⟨(fun p hp => by cases hp), hb⟩
  | succ n ih =>
    intro s hb
    cases hs : s.2 with
    | true => rw [fndL_stop _ _ (.inr hs)]; exact ⟨(fun p hp => by cases hp), hb⟩
    | false =>
      rw [fndL_go n s hs]
      have ih := ih (numS 8 s) (numS_bytes hb)
      refine ⟨fun p hp => ?_, ih.2⟩
      rcases List.mem_cons.1 hp with rfl | hp
      · exact num_range hb (by omega)
      · exact ih.1 p hp
theorem raw_range (xs : List Int) (hb : Bytes xs) : ∀ t ∈ timesOf (raw xs).run, 0 ≤ t := by
  have b1 : Bytes (rs1 xs).1 := numS_bytes hb
  have b2 : Bytes (rs2 xs).1 := txtS_bytes b1
  have b3 : Bytes (rs3 xs).1 := txtS_bytes b2
  have b4 : Bytes (rs4 xs).1 := numS_bytes b3
  have b5 : Bytes (rs5 xs).1 := numS_bytes b4
  have i := insL_range (num 4 (rs5 xs)).toNat (numS 4 (rs5 xs)) (numS_bytes b5)
  have f := fndL_range (num 4 (rI xs).2).toNat (numS 4 (rI xs).2) (numS_bytes i.2)
  intro t ht
  simp only [timesOf, raw, List.mem_append, List.mem_cons, List.not_mem_nil, or_false, List.mem_map] at ht
  rcases ht with ((rfl | rfl) | ht) | ⟨p, hp, rfl⟩
  · exact (num_range b3 (by omega)).1
  · exact (num_range b4 (by omega)).1
  · exact (f.1 t ht).1
  · exact (i.1 p hp).1
theorem clip1_id (xs : List Int) (h : lateR (raw xs).run = false) : clip c1 (raw xs).run = (raw xs).run :=
  clip_id c1 _ fun t ht => by
    have := lateR_false h t ht
    unfold c1 late
    rw [if_neg (by simp only [decide_eq_true_eq]; omega)]
theorem clip2_id (xs : List Int) (hb : Bytes xs) (h : lateR (raw xs).run = false) : clip c2 (raw xs).run = (raw xs).run :=
  clip_id c2 _ fun t ht => by
    have := lateR_false h t ht
    have := raw_range xs hb t ht
    unfold c2
    omega

/-- runs.Read under way: its reader (block g), whether a time was too late (block b), its run. -/
structure Rx (w0 w : World) (B g b h q : Nat) (s : RS) (lt : Bool) (r : RunV) (vi vf : Value) : Prop where
  rn : Rn 50 33 w0 w h q r vi vf
  rd : Rd B w g s.1 s.2
  bd : w.heap[b]? = some (.cells #[.bool lt] 4 (0, 0))
  b1 : w0.heap.size ≤ b
  B1 : w0.heap.size ≤ B
  by_ : Bytes s.1
theorem cells_ne {w : World} {i j : Nat} {cs cs' : Array Value} {t t' : TypeId} (h1 : w.heap[i]? = some (.cells cs t (0, 0))) (h2 : w.heap[j]? = some (.cells cs' t' (0, 0))) (ht : t ≠ t') : i ≠ j := by
  rintro rfl
  rw [h1] at h2
  injection h2 with h2
  injection h2 with _ e
  exact ht e
section
variable {w0 w w1 : World} {B g b h q : Nat} {s s' : RS} {lt : Bool} {r : RunV} {vi vf : Value}
theorem Rx.op (x : Rx w0 w B g b h q s lt r vi vf) (hr : Rd B w1 g s'.1 s'.2) (ho : Only g w w1) (hb : Bytes s'.1) : Rx w0 w1 B g b h q s' lt r vi vf := by
  obtain ⟨v, hc, _⟩ := x.rd.cell
  exact ⟨x.rn.only ho hc (by decide) (Nat.le_trans x.B1 x.rd.base), hr, (ho.block b (blk_lt x.bd) (cells_ne x.bd hc (by decide))).trans x.bd, x.b1, x.B1, hb⟩
theorem Rx.below (x : Rx w0 w B g b h q s lt r vi vf) (hb : Below w.heap.size w w1) : Rx w0 w1 B g b h q s lt r vi vf :=
  ⟨x.rn.below hb, x.rd.below hb, (hb.block b (blk_lt x.bd)).trans x.bd, x.b1, x.B1, x.by_⟩
theorem Rx.drew (x : Rx w0 w B g b h q s lt r vi vf) : Rx w0 w.drew B g b h q s lt r vi vf := x.below (below_drew (Below.refl _ _))
theorem Rx.put (x : Rx w0 w B g b h q s lt r vi vf) (i : Nat) (u : Value) (r2 : RunV) (he : (rcells r vi vf).setIfInBounds i u = rcells r2 vi vf) (hi : r2.ins = r.ins) (hf : r2.found = r.found) : Rx w0 (w.setCell ⟨h, i, none⟩ u) B g b h q s lt r2 vi vf := by
  obtain ⟨v, hc, _⟩ := x.rd.cell
  have ho := (Only.refl h w).setCell i u
  exact ⟨x.rn.put i u r2 he hi hf (by decide), x.rd.only ho (cells_ne hc x.rn.run (by decide)) x.rn.run (by decide), (ho.block b (blk_lt x.bd) (cells_ne x.bd x.rn.run (by decide))).trans x.bd, x.b1, x.B1, x.by_⟩
theorem Rx.app {p : ByteArray × Int} {v1 : Value} (x : Rx w0 w B g b h q s lt r vi vf) (r1 : Ri 50 w1 w0.heap.size v1 (r.ins ++ [p])) (b1 : Below w0.heap.size w0 w1) (g1 : w.grownBy w1 vi.ownBlock) :
    w1.heap[h]? = some (.cells (rcells r vi vf) 33 (0, 0)) ∧ Rx w0 (w1.setCell ⟨h, 4, none⟩ v1) B g b h q s lt { r with ins := r.ins ++ [p] } v1 vf := by
  obtain ⟨e1, hn⟩ := x.rn.app r1 b1 g1 (by decide)
  have hd : Rd B w1 g s.1 s.2 := x.rd.grown g1 (fun i hi => Kd.R_typed x.rn.ins i hi) (by decide) (by decide)
  have eb := (g1.block b (blk_lt x.bd) (ri_ne x.rn.ins x.bd (by decide))).trans x.bd
  obtain ⟨v, hc, _⟩ := hd.cell
  have ho := (Only.refl h w1).setCell 4 v1
  exact ⟨e1, hn, hd.only ho (cells_ne hc e1 (by decide)) e1 (by decide), (ho.block b (blk_lt eb) (cells_ne eb e1 (by decide))).trans eb, x.b1, x.B1, x.by_⟩
theorem Rx.appF {p : Int} {v1 : Value} (x : Rx w0 w B g b h q s lt r vi vf) (o1 : Oi w0 w1 v1 (r.found ++ [p])) (g1 : w.grownBy w1 vf.ownBlock) :
    w1.heap[h]? = some (.cells (rcells r vi vf) 33 (0, 0)) ∧ Rx w0 (w1.setCell ⟨h, 5, none⟩ v1) B g b h q s lt { r with found := r.found ++ [p] } vi v1 := by
  obtain ⟨e1, hn⟩ := x.rn.appF o1 g1 (by decide)
  have hd : Rd B w1 g s.1 s.2 := x.rd.grown g1 (fun i hi => own_typed x.rn.fnd.own i hi) (by decide) (by decide)
  have eb := (g1.block b (blk_lt x.bd) (by
    intro e
    obtain ⟨cells', hc'⟩ := own_typed x.rn.fnd.own b e.symm
    exact cells_ne x.bd hc' (by decide) rfl)).trans x.bd
  obtain ⟨v, hc, _⟩ := hd.cell
  have ho := (Only.refl h w1).setCell 5 v1
  exact ⟨e1, hn, hd.only ho (cells_ne hc e1 (by decide)) e1 (by decide), (ho.block b (blk_lt eb) (cells_ne eb e1 (by decide))).trans eb, x.b1, x.B1, x.by_⟩
/-- The flag is set. -/
theorem Rx.flag (x : Rx w0 w B g b h q s lt r vi vf) : Rx w0 (w.setCell ⟨b, 0, none⟩ (.bool true)) B g b h q s true r vi vf := by
  obtain ⟨v, hc, _⟩ := x.rd.cell
  have ho := (Only.refl b w).setCell 0 (.bool true)
  exact ⟨x.rn.only ho x.bd (by decide) x.b1, x.rd.only ho (cells_ne hc x.bd (by decide)) x.bd (by decide), blk_set x.bd 0 _, x.b1, x.B1, x.by_⟩
end
set_option maxHeartbeats 800000 in
theorem time_x (w0 w : World) (B g b h q : Nat) (s : RS) (lt : Bool) (r : RunV) (vi vf : Value) (x : Rx w0 w B g b h q s lt r vi vf) :
    Calls Try.prog 51 #[.pointer (some ⟨g, 0, none⟩), .pointer (some ⟨b, 0, none⟩)] w fun e w' => e = .returned (.int .i64 (c1 (num 8 s))) ∧ Rx w0 w' B g b h q (numS 8 s) (lt || late (num 8 s)) r vi vf := by
  have X := Lib.hid x
  clear x
  go_enter Try.func51, Try.ntmps51
  go_wp2_with fail
  refine (r64_g B g s _ X.out.rd X.out.by_).mono ?_
  rintro e w1 ⟨rfl, hr, ho⟩
  have X1 := Lib.hid (X.out.op hr ho (numS_bytes X.out.by_))
  have hn := num_range X.out.by_ (show 8 ≤ 8 by omega)
  clear hr ho X
  obtain ⟨n, hnn⟩ : ∃ n, n = num 8 s := ⟨_, rfl⟩
  have HN := Lib.hid hnn
  rw [← hnn] at hn ⊢
  clear hnn
  obtain ⟨n0, n1⟩ := hn
  by_cases l1 : 4611686018427387904 ≤ n
  · have hl : late n = true := decide_eq_true l1
    have HL := Lib.hid hl
    have f0 := blk_frozen X1.out.bd 0
    have q0 := blk_cell X1.out.bd 0
    have HF := Lib.hid X1.out.flag
    clear hl
    go_wp2
    go_ret
    refine ⟨?_, ?_⟩
    · rw [← HN.out]; unfold c1; rw [if_pos HL.out]; rfl
    · rw [← HN.out, HL.out, Bool.or_true]; exact HF.out
  · have hl : late n = false := decide_eq_false l1
    have HL := Lib.hid hl
    clear hl
    go_wp2
    go_ret
    refine ⟨?_, ?_⟩
    · rw [← HN.out]; unfold c1; rw [if_neg (by rw [HL.out]; decide)]; rfl
    · rw [← HN.out, HL.out, Bool.or_false]; exact X1.out
end Go.Proofs.Ytehndlafbbpofaa.Run
