/- disk.New, .Down, .Deeds, .Arm, .tick, .look (walks); disk.Used: the sum of all lengths, in whatever order they come (walk); disk.fits (walk); A change to a directory in memory: disk.change.does (walk); disk.turns (walk). -/
import Derived.Test.YtononoakdebjeaaGreatDoorDkBook
import Derived.Maps.RangeWalk
import Derived.Sort.MapsRangeIn
import Derived.Sort.KeysCollected
import Derived.Test.YtononoakdebjeaaGreatDoorHeapAll
namespace Go.Proofs.YtononoakdebjeaaGreatDoor.Dk
open Go.RowKit Go.Proofs.YtononoakdebjeaaGreatDoorW.PrintWords Go.Proofs.YtononoakdebjeaaGreatDoorW.PrintLast Go.Proofs.YtononoakdebjeaaGreatDoor.Base Go.Maps
set_option linter.unusedVariables false
set_option linter.unusedSimpArgs false
section
variable {S T : Nat → Prop} {c c' : Nat} {w w' : World} {g : Nat} {D D' : DiskV}
/-- Only the disk's own cells turn. -/
theorem Dk.turn (h : Dk S c w g D) (hk : ∀ k, k < w.heap.size → k ≠ g → w'.heap[k]? = w.heap[k]?) (hsz : w.heap.size ≤ w'.heap.size)
    (hc : ∀ mf ms vp, w.heap[g]? = some (.cells (dcells D mf ms vp) 80 (0, 0)) → w'.heap[g]? = some (.cells (dcells D' mf ms vp) 80 (0, 0)))
    (e1 : D'.dir = D.dir) (e2 : D'.sure = D.sure) (e3 : D'.pend = D.pend) (e4 : D'.fs = D.fs) (hok : OkD c' D') : Dk S c' w' g D' := by
  obtain ⟨lt, sg, ok, ⟨mf, ms, vp, h1, h2, h3, h4, h5, h6, h7⟩, ⟨dv, h8, h9⟩⟩ := h
  have hne : ∀ {t : TypeId} {cs : Array Value} {k : Nat}, w.heap[k]? = some (.cells cs t (0, 0)) → 80 ≠ t → k ≠ g := fun hb ht e => by
    subst e
    exact not_cells h1 ht _ hb
  have hH : ∀ i, Has D' i → Has D i := fun i hi => by
    unfold Has at hi ⊢
    rwa [e1, e2, e3] at hi
  refine ⟨fun k hk2 => Nat.lt_of_lt_of_le (lt k hk2) hsz, sg, hok, ⟨mf, ms, vp, hc mf ms vp h1, h2, h3, h4, ?_, ?_, ?_⟩, ⟨dv, ?_, ?_⟩⟩
  · rw [e1]; exact h5.block (hk mf (lt mf h2) (VMap.ne h5 h1))
  · rw [e2]; exact h6.block (hk ms (lt ms h3) (VMap.ne h6 h1))
  · rw [e3]; exact R_q h7 (fun t ht => not_cells h1 (by
      revert ht t
      decide)) hk
  · intro i hi
    obtain ⟨a, b, d⟩ := h8 i (hH i hi)
    rw [e4]
    refine ⟨a, (hk i (lt i a) (hne b (by decide))).trans b, ?_⟩
    rcases d with d | ⟨k, cs, d1, d2, d3, d4⟩
    · exact .inl (R_q d (fun t ht => not_cells h1 (by
        revert ht t
        decide)) hk)
    · exact .inr ⟨k, cs, d1, d2, (hk k (lt k d2) (hne d3 (by decide))).trans d3, d4⟩
  · exact fun i j k hi hj => h9 i j k (hH i hi) (hH j hj)
end
set_option maxHeartbeats 800000 in
theorem new_any (q : Nat) (hq : q ≤ 16777216) (w : World) :
    Calls Tryz.prog 25 #[.int .i64 q] w fun e w' => ∃ g, e = .returned (.tuple #[.pointer (some ⟨g, 0, none⟩), .int .i64 0]) ∧ Dk (fun k => w.heap.size ≤ k ∧ k < w'.heap.size) 1 w' g (newV q fun _ => ⟨[], 0, 0⟩) ∧ Below w.heap.size w w' := by
  have hmm := @run_makeMap Tryz.prog
  have d1 : decide ((q : Int) < 0) = false := decide_eq_false (by omega)
  have d2 : decide ((16777216 : Int) < (q : Int)) = false := decide_eq_false (by omega)
  have d3 : decide (16777216 < q) = false := decide_eq_false (by omega)
  go_enter Tryz.func25, Tryz.ntmps25
  go_wp2
  go_ret2
  have e0 : (w.alloc (.map #[] 0)).heap.size = w.heap.size + 1 := by simp
  have e1 : ((w.alloc (.map #[] 0)).alloc (.map #[] 0)).heap.size = w.heap.size + 2 := by simp
  have h1 := VMap.made w 9 skey
  have h2 := VMap.made (w.alloc (.map #[] 0)) 9 skey
  rw [e0] at h2
  obtain ⟨o, ho⟩ : ∃ o : Obj, o = .cells (dcells (newV q fun _ => ⟨[], 0, 0⟩) w.heap.size (w.heap.size + 1) (.slice none 0 0)) 80 (0, 0) := ⟨_, rfl⟩
  have hg := blk_new ((w.alloc (.map #[] 0)).alloc (.map #[] 0)) o
  rw [e1] at hg
  have hz : (((w.alloc (.map #[] 0)).alloc (.map #[] 0)).alloc o).heap.size = w.heap.size + 3 := by simp
  have hno : ∀ i, ¬ Has (newV q fun _ => ⟨[], 0, 0⟩) i := fun i hi => by
    rcases hi with ⟨s, hs⟩ | ⟨s, hs⟩ | ⟨d, hd, _⟩
    · cases hs
    · cases hs
    · cases hd
  refine ⟨_, rfl, ?_⟩
  show Dk (fun k => w.heap.size ≤ k ∧ k < (((w.alloc (.map #[] 0)).alloc (.map #[] 0)).alloc (.cells (dcells (newV q fun _ => ⟨[], 0, 0⟩) w.heap.size (w.heap.size + 1) (.slice none 0 0)) 80 (0, 0))).heap.size) 1 (((w.alloc (.map #[] 0)).alloc (.map #[] 0)).alloc (.cells (dcells (newV q fun _ => ⟨[], 0, 0⟩) w.heap.size (w.heap.size + 1) (.slice none 0 0)) 80 (0, 0))) (w.heap.size + 1 + 1) _ ∧ Below _ w (((w.alloc (.map #[] 0)).alloc (.map #[] 0)).alloc (.cells (dcells (newV q fun _ => ⟨[], 0, 0⟩) w.heap.size (w.heap.size + 1) (.slice none 0 0)) 80 (0, 0)))
  rw [← ho]
  refine ⟨⟨fun k hk => hk.2, ⟨by omega, by rw [hz]; omega⟩, ?_, ⟨w.heap.size, w.heap.size + 1, .slice none 0 0, ?_, ⟨by omega, by rw [hz]; omega⟩, ⟨by omega, by rw [hz]; omega⟩, by omega, ?_, ?_, Kd.R_nil _ _ _ _ _⟩, ⟨fun _ => undef, fun i hi => absurd hi (hno i), fun i j k hi => absurd hi (hno i)⟩⟩, ?_⟩
  · exact ⟨hq, Nat.le_refl 1, Nat.le_refl 1, by show 0 ≤ 1; omega, by show -1 ≤ (-1 : Int) ∧ (-1 : Int) ≤ _; omega, List.Pairwise.nil, rfl, by show 0 + 0 ≤ 1; omega, (fun p hp => by cases hp), (fun p hp => by cases hp), fun i hi => absurd hi (hno i)⟩
  · show (((w.alloc (.map #[] 0)).alloc (.map #[] 0)).alloc o).heap[w.heap.size + 2]? = _
    rw [hg, ho]
  · exact ((h1.below (below_alloc (Below.refl _ _) _)).below (below_alloc (Below.refl _ _) _)).congr fun _ => rfl
  · exact (h2.below (below_alloc (Below.refl _ _) _)).congr fun _ => rfl
  · exact below_alloc (below_alloc (below_alloc (Below.refl _ _) _) _) _
theorem down_any (S : Nat → Prop) (c g : Nat) (D : DiskV) (w : World) (h : Dk S c w g D) :
    Calls Tryz.prog 23 #[.pointer (some ⟨g, 0, none⟩)] w fun e w' => e = .returned (.bool D.down) ∧ w' = w := by
  obtain ⟨mf, ms, vp, h1, _⟩ := h.ex
  have q4 := (show w.cell? ⟨g, 4, none⟩ = some (.bool D.down) from blk_cell h1 4)
  clear h h1
  go_enter Tryz.func23, Tryz.ntmps23
  go_wp2
  go_ret
  exact ⟨rfl, rfl⟩
theorem deeds_any (S : Nat → Prop) (c g : Nat) (D : DiskV) (w : World) (h : Dk S c w g D) :
    Calls Tryz.prog 22 #[.pointer (some ⟨g, 0, none⟩)] w fun e w' => e = .returned (.int .i64 (D.deeds : Int)) ∧ w' = w := by
  obtain ⟨mf, ms, vp, h1, _⟩ := h.ex
  have q2 := (show w.cell? ⟨g, 2, none⟩ = some (.int .i64 (D.deeds : Int)) from blk_cell h1 2)
  clear h h1
  go_enter Tryz.func22, Tryz.ntmps22
  go_wp2
  go_ret
  exact ⟨rfl, rfl⟩
theorem arm_any (S : Nat → Prop) (c g : Nat) (D : DiskV) (n : Int) (w : World) (h : Dk S c w g D) (hn : n ≤ 9223372036854775807) :
    Calls Tryz.prog 15 #[.pointer (some ⟨g, 0, none⟩), .int .i64 n] w fun e w' => e = .returned (.tuple #[]) ∧ Dk S c w' g (armV D n) ∧ Foot S w w' := by
  obtain ⟨mf, ms, vp, h1, _⟩ := h.ex
  have H := Lib.hid h
  have q3 := (show w.cell? ⟨g, 3, none⟩ = some (.int .i64 D.armed) from blk_cell h1 3)
  have f3 := blk_frozen h1 3
  clear h h1
  go_enter Tryz.func15, Tryz.ntmps15
  go_wp2
  go_end0
  refine ⟨rfl, H.out.turn (fun k _ hk => Below.heap_setCell _ _ _ _ hk) (by simp) (fun mf ms vp h => (blk_set h 3 _).trans rfl) rfl rfl rfl rfl ?_, (Foot.refl S w).setCell H.out.sg _ _⟩
  have o := H.out.ok
  exact ⟨o.quota, o.clock1, o.clock, o.deeds, by show -1 ≤ max n (-1) ∧ max n (-1) ≤ 9223372036854775807; omega, o.up, o.dirE, o.few, o.names, o.chs, o.file⟩
theorem tick_any (S : Nat → Prop) (c g : Nat) (D : DiskV) (w : World) (h : Dk S c w g D) (hc : c ≤ 1000000000) :
    Calls Tryz.prog 64 #[.pointer (some ⟨g, 0, none⟩)] w fun e w' => e = .returned (.int .i64 (D.clock : Int)) ∧ Dk S (c + 1) w' g (tickV D) ∧ Foot S w w' ∧ w'.heap.size = w.heap.size ∧ ∀ k, k ≠ g → w'.heap[k]? = w.heap[k]? := by
  obtain ⟨mf, ms, vp, h1, _⟩ := h.ex
  have H := Lib.hid h
  have H1 := Lib.hid h1
  have q1 := (show w.cell? ⟨g, 1, none⟩ = some (.int .i64 (D.clock : Int)) from blk_cell h1 1)
  have q1' := (show (w.setCell ⟨g, 1, none⟩ (.int .i64 ((D.clock : Int) + 1))).cell? ⟨g, 1, none⟩ = some (.int .i64 ((D.clock : Int) + 1)) from blk_cell (blk_set h1 1 _) 1)
  have f1 := blk_frozen h1 1
  have hcl : D.clock ≤ 1000000000 := Nat.le_trans h.ok.clock hc
  clear h h1 H1
  go_enter Tryz.func64, Tryz.ntmps64
  go_wp2
  go_ret
  refine ⟨rfl, H.out.turn (D' := tickV D) (fun k _ hk => Below.heap_setCell _ _ _ _ hk) (by simp) (fun mf ms vp h => (blk_set h 1 _).trans rfl) rfl rfl rfl rfl ?_, (Foot.refl S w).setCell H.out.sg _ _, by simp, fun k hk => Below.heap_setCell _ _ _ _ hk⟩
  have o := H.out.ok
  exact ⟨o.quota, by show 1 ≤ D.clock + 1; omega, by show D.clock + 1 ≤ c + 1; have := o.clock; omega, Nat.le_succ_of_le o.deeds, o.armed, o.up, o.dirE, Nat.le_succ_of_le o.few, o.names, o.chs, fun i hi => by
    obtain ⟨a, b, d, e⟩ := o.file i hi
    exact ⟨a, b, d, Nat.lt_succ_of_lt e⟩⟩
/-- What a look at a name finds. -/
def LookP (D : DiskV) (s : ByteArray) (e : Ending) : Prop := (D.down = true ∧ e = .returned (.tuple #[.pointer none, .int .i64 8])) ∨ (D.down = false ∧ look D.dir s = none ∧ e = .returned (.tuple #[.pointer none, .int .i64 6])) ∨ (D.down = false ∧ ∃ i, look D.dir s = some i ∧ e = .returned (.tuple #[fptr i, .int .i64 0]))
theorem look_any (S : Nat → Prop) (c g : Nat) (D : DiskV) (s : ByteArray) (w : World) (h : Dk S c w g D) (hs : s.size ≤ maxLen) :
    Calls Tryz.prog 40 #[.pointer (some ⟨g, 0, none⟩), .string s] w fun e w' => LookP D s e ∧ w' = w := by
  obtain ⟨mf, ms, vp, h1, _, _, _, h5, _⟩ := h.ex
  have q4 := (show w.cell? ⟨g, 4, none⟩ = some (.bool D.down) from blk_cell h1 4)
  have q5 := (show w.cell? ⟨g, 5, none⟩ = some (.map (some mf)) from blk_cell h1 5)
  have hz : (zeroValue 72).run Tryz.prog w = .ok (.pointer none) w := by kernel_rfl
  have hlk := (VMap.look h5 keyed_s Tryz.underlying76 hz (s := s) (keyOf_s hs)).2
  obtain ⟨o, ho⟩ : ∃ o, o = look D.dir s := ⟨_, rfl⟩
  obtain ⟨b, hb⟩ : ∃ b, b = D.down := ⟨_, rfl⟩
  rw [← ho] at hlk
  rw [← hb] at q4
  have HO := Lib.hid ho
  have HB := Lib.hid hb
  clear h h1 h5 ho hb hz
  cases b with
  | true =>
    go_enter Tryz.func40, Tryz.ntmps40
    go_wp2
    go_ret2
    exact ⟨.inl ⟨HB.out.symm, rfl⟩, rfl⟩
  | false =>
    cases o with
    | none =>
      simp only [Option.map_none, Option.getD_none] at hlk
      go_enter Tryz.func40, Tryz.ntmps40
      go_wp2
      go_ret2
      exact ⟨.inr (.inl ⟨HB.out.symm, HO.out.symm, rfl⟩), rfl⟩
    | some i =>
      simp only [Option.map_some, Option.getD_some] at hlk
      go_enter Tryz.func40, Tryz.ntmps40
      go_wp2
      go_ret2
      exact ⟨.inr (.inr ⟨HB.out.symm, i, HO.out.symm, rfl⟩), rfl⟩
end Go.Proofs.YtononoakdebjeaaGreatDoor.Dk
namespace Go.Proofs.YtononoakdebjeaaGreatDoor.Dk
open Go.RowKit Go.Proofs.YtononoakdebjeaaGreatDoorW.PrintWords Go.Proofs.YtononoakdebjeaaGreatDoorW.PrintLast Go.Proofs.YtononoakdebjeaaGreatDoor.Base Go.Maps
set_option linter.unusedVariables false
set_option linter.unusedSimpArgs false
/-- How many bytes the files have that are still to come. -/
def sumL (fs : Nat → FileV) (left : Lit → Bool) (L : Dir) : Nat := ((L.filter fun p => left (skey p.1)).map fun p => (fs p.2).b.length).sum
theorem sameKey_s (a b : ByteArray) : (skey a).sameKey (skey b) = decide (a = b) := by
  by_cases h : a = b
  · subst h
    simp [Lit.sameKey, skey]
  · rw [sameKey_ne (skey_inj h), decide_eq_false h]
theorem sumL_all {fs : Nat → FileV} {left : Lit → Bool} {L : Dir} (h : ∀ p ∈ L, left (skey p.1) = true) : sumL fs left L = (L.map fun p => (fs p.2).b.length).sum := by
  unfold sumL
  rw [List.filter_eq_self.2 h]
theorem sumL_none {fs : Nat → FileV} {left : Lit → Bool} {L : Dir} (h : ∀ z, left z = false) : sumL fs left L = 0 := by
  unfold sumL
  rw [List.filter_eq_nil_iff.2 (fun p _ => by rw [h]; simp)]
  rfl
theorem sumL_le {fs : Nat → FileV} {left : Lit → Bool} {L : Dir} (h : ∀ p ∈ L, (fs p.2).b.length ≤ 65536) : sumL fs left L ≤ 65536 * L.length := by
  induction L with
  | nil => exact Nat.le_refl 0
  | cons p L ih =>
    have ih := ih fun q hq => h q (.tail _ hq)
    have h1 := h p (.head _)
    unfold sumL at ih ⊢
    rw [List.filter_cons, List.length_cons]
    split
    · rw [List.map_cons, List.sum_cons]; omega
    · omega
theorem sumL_cons (fs : Nat → FileV) (left : Lit → Bool) (p : ByteArray × Nat) (L : Dir) : sumL fs left (p :: L) = (if left (skey p.1) = true then (fs p.2).b.length else 0) + sumL fs left L := by
  unfold sumL
  rw [List.filter_cons]
  split
  · rw [List.map_cons, List.sum_cons]
  · omega
theorem sumL_congr {fs : Nat → FileV} {left left' : Lit → Bool} {L : Dir} (h : ∀ p ∈ L, left' (skey p.1) = left (skey p.1)) : sumL fs left' L = sumL fs left L := by
  unfold sumL
  rw [List.filter_congr h]
theorem sumL_strike {fs : Nat → FileV} {left : Lit → Bool} {x : ByteArray} {i : Nat} : ∀ {L : Dir}, UpD L → look L x = some i → left (skey x) = true →
    sumL fs left L = (fs i).b.length + sumL fs (fun z => left z && !z.sameKey (skey x)) L
  | [], _, h, _ => by cases h
  | p :: L, hu, h, hl => by
    unfold UpD at hu
    rw [List.pairwise_cons] at hu
    unfold look at h
    rw [sumL_cons, sumL_cons]
    by_cases e : p.1 = x
    · rw [if_pos e] at h
      have h := Option.some.inj h
      have h2 : sumL fs (fun z => left z && !z.sameKey (skey x)) L = sumL fs left L := sumL_congr fun q hq => by
        have h3 := hu.1 q hq
        have h4 : q.1 ≠ x := fun h4 => by rw [e, h4, nlt_irrefl] at h3; cases h3
        simp only [sameKey_s, decide_eq_false h4, Bool.not_false, Bool.and_true]
      rw [h2, e, hl, ← h]
      simp [sameKey_s]
    · rw [if_neg e] at h
      rw [sumL_strike (fs := fs) hu.2 h hl]
      simp only [sameKey_s, decide_eq_false e, Bool.not_false, Bool.and_true]
      omega
theorem used_le {c : Nat} {D : DiskV} (h : OkD c D) : usedV D ≤ 65536 * c := by
  have h1 := sumL_le (fs := D.fs) (left := fun _ => true) (L := D.dir) fun p hp => (h.file p.2 (.inl ⟨p.1, hp⟩)).1
  rw [sumL_all fun _ _ => rfl] at h1
  have := h.dirLen
  have : 65536 * D.dir.length ≤ 65536 * c := Nat.mul_le_mul_left _ this
  unfold usedV
  omega
theorem keyOf_s_inv {v : Value} {kl : Lit} (h : keyOf Tryz.prog 9 v = some kl) : ∃ s, v = .string s ∧ kl = skey s := by
  obtain ⟨s, rfl⟩ := Maps.keyOf_string_inv Tryz.underlying9 h
  refine ⟨s, rfl, ?_⟩
  simp [keyOf, Tryz.underlying9, mapKey] at h
  first | exact h.2.symm | exact h.symm
set_option maxHeartbeats 1000000 in
theorem used_any (S : Nat → Prop) (c g : Nat) (D : DiskV) (w : World) (h : Dk S c w g D) (hc : c ≤ 1000000000) :
    Calls Tryz.prog 21 #[.pointer (some ⟨g, 0, none⟩)] w fun e w' => e = .returned (.int .i64 (usedV D : Int)) ∧ Below w.heap.size w w' := by
  obtain ⟨mf, ms, vp, h1, _, _, _, h5, _⟩ := h.ex
  obtain ⟨dv, hf, _⟩ := h.fl
  have q5 := (show w.cell? ⟨g, 5, none⟩ = some (.map (some mf)) from blk_cell h1 5)
  have hb := used_le h.ok
  obtain ⟨D0, hown, hsz, hhas, hat0, hkeys⟩ := h5
  have H := Lib.hid h
  have HF := Lib.hid hf
  have HH := Lib.hid hhas
  have HA := Lib.hid hat0
  have HB := Lib.hid hb
  clear h hf hhas hat0 hkeys hb h1
  go_enter Tryz.func21, Tryz.ntmps21
  go_wp2_with (first
    | (at_range; refine wpList_range_own _ rfl _ 76 rfl 9 72 keyed_s Tryz.underlying76 VH mf D.dir.length D0 rfl hown ?_; intro w0 hrg0 hg0 hs0)
    | go_in)
  try go_frame
  go_loopw [3, 5] (fun s _ wr => ∃ (left : Lit → Bool) (cnt n : Nat), wr.ranges Tryz.prog 9 VH mf w.heap.size D.dir.length D0 left cnt ∧ s = .int .i64 (n : Int) ∧ n + sumL D.fs left D.dir = usedV D ∧ Below w.heap.size w wr)
    (fun _ _ wr => wr.rangeLeft mf w.heap.size)
  case atStart =>
    refine ⟨_, _, 0, hrg0, rfl, ?_, ⟨hg0.os, hg0.tape, hg0.output, hg0.size, fun j hj => hg0.block j hj (by simp)⟩⟩
    rw [Nat.zero_add, sumL_all (fun p hp => ?_)]
    · rfl
    · rw [HH.out, look_of_mem H.out.ok.dirUp (i := p.2) hp]; rfl
  case round =>
    obtain ⟨left, cnt, n, hrg, hs, hn, hbw⟩ := hrel
    go_wp2_with (first
      | (at_next; refine wpList_next_ranges _ rfl _ rfl 9 keyed_s VH Value.string id (fun key kl hk => by obtain ⟨x, hx, _⟩ := keyOf_s_inv hk; exact ⟨x, hx⟩) (fun v _ _ => ⟨v, rfl⟩) mf w.heap.size D.dir.length _ _ _ rfl hrg ?_ ?_)
      | go_in)
    · intro hc0 hl0
      have hn0 : n = usedV D := by rw [sumL_none hl0] at hn; exact hn
      clear hn
      go_wp2
      go_ret
      exact ⟨by rw [hn0]; rfl, hbw⟩
    · intro x v kl y ps w1 cnt1 hkl hlx hv hat hrg1 hlt hg1 hs1 hen
      obtain ⟨x', ex, rfl⟩ := keyOf_s_inv hkl
      cases ex
      have h1 := has_true_of_atKey hat
      rw [HH.out] at h1
      obtain ⟨i, hi⟩ : ∃ i, look D.dir x = some i := by
        cases hx : look D.dir x with
        | none => rw [hx] at h1; cases h1
        | some i => exact ⟨i, rfl⟩
      have h2 := HA.out x (fptr i) (by rw [hi]; rfl) y
      rw [hat] at h2
      subst h2
      unfold VH at hv
      injection hv with hv
      injection hv with hv _
      injection hv with hv
      subst hv
      obtain ⟨a1, a2, a3⟩ := HF.out i (has_dir hi)
      have hil := H.out.lt i a1
      have hb1 : Below w.heap.size w w1 := hbw.trans ⟨hg1.os, hg1.tape, hg1.output, hg1.size, fun j hj => hg1.block j (Nat.lt_of_lt_of_le hj hbw.size) (by simp; omega)⟩
      have c0 : w1.cell? ⟨i, 0, none⟩ = some (dv i) := blk_cell ((hb1.block i hil).trans a2) 0
      obtain ⟨A, cp, hd, hlc, _⟩ := a3.bs
      rw [hd] at c0
      have hst := sumL_strike (fs := D.fs) H.out.ok.dirUp hi hlx
      have hbd := HB.out
      rw [hst] at hn
      have hwr : wrap64 ((n : Int) + ((D.fs i).b.length : Int)) = ((n + (D.fs i).b.length : Nat) : Int) := by rw [IntWalk.wrap64_in _ (by omega)]; omega
      have HN := Lib.hid hn
      clear hn hst hbd hd a1 a2 a3 hlc
      go_wp2
      go_roundw
      case rel => exact ⟨_, cnt1, n + (D.fs i).b.length, hrg1, by rw [hwr], by rw [Nat.add_assoc]; exact HN.out, hb1⟩
      case measure => rw [hrg1.left_eq, hrg.left_eq]; exact hlt
end Go.Proofs.YtononoakdebjeaaGreatDoor.Dk
namespace Go.Proofs.YtononoakdebjeaaGreatDoor.Dk
open Go.RowKit Go.Proofs.YtononoakdebjeaaGreatDoorW.PrintWords Go.Proofs.YtononoakdebjeaaGreatDoorW.PrintLast Go.Proofs.YtononoakdebjeaaGreatDoor.Base Go.Maps
set_option linter.unusedVariables false
set_option linter.unusedSimpArgs false
theorem old_le {c : Nat} {D : DiskV} (h : OkD c D) {s : ByteArray} {i : Nat} (hi : look D.dir s = some i) : (D.fs i).b.length ≤ usedV D := by
  have h1 := sumL_strike (fs := D.fs) (left := fun _ => true) h.dirUp hi rfl
  rw [sumL_all fun _ _ => rfl] at h1
  unfold usedV
  omega
def oldV (D : DiskV) (s : ByteArray) : Nat := match look D.dir s with | some i => (D.fs i).b.length | none => 0
theorem fitsV_eq (D : DiskV) (s : ByteArray) (n : Nat) : fitsV D s n = if 65536 < n ∨ (look D.dir s = none ∧ D.dir.length = 200) then 3 else if D.quota < usedV D - oldV D s + n then 7 else 0 := rfl
theorem oldV_some {D : DiskV} {s : ByteArray} {i : Nat} (h : look D.dir s = some i) : oldV D s = (D.fs i).b.length := by unfold oldV; rw [h]
theorem oldV_none {D : DiskV} {s : ByteArray} (h : look D.dir s = none) : oldV D s = 0 := by unfold oldV; rw [h]
theorem fits_seven {D : DiskV} {s : ByteArray} {n old c : Nat} (hn : n ≤ 1000000000) (ho : old ≤ usedV D) (he : oldV D s = old)
    (hu : usedV D ≤ 65536 * c) (hc : c ≤ 1000000000) (x : Int) (hxe : x = (usedV D : Int) - (old : Int)) (hr : true = decide ((D.quota : Int) < wrap64 (wrap64 x + (n : Int)))) (hx : ¬ (65536 < n ∨ (look D.dir s = none ∧ D.dir.length = 200))) : fitsV D s n = 7 := by
  have hr := of_decide_eq_true hr.symm
  subst hxe
  rw [IntWalk.wrap64_in ((usedV D : Int) - (old : Int)) (by omega), IntWalk.wrap64_in _ (by omega)] at hr
  rw [fitsV_eq, if_neg hx, he, if_pos (by omega)]
theorem fits_nought {D : DiskV} {s : ByteArray} {n old c : Nat} (hn : n ≤ 1000000000) (ho : old ≤ usedV D) (he : oldV D s = old)
    (hu : usedV D ≤ 65536 * c) (hc : c ≤ 1000000000) (x : Int) (hxe : x = (usedV D : Int) - (old : Int)) (hr : false = decide ((D.quota : Int) < wrap64 (wrap64 x + (n : Int)))) (hx : ¬ (65536 < n ∨ (look D.dir s = none ∧ D.dir.length = 200))) : fitsV D s n = 0 := by
  have hr := of_decide_eq_false hr.symm
  subst hxe
  rw [IntWalk.wrap64_in ((usedV D : Int) - (old : Int)) (by omega), IntWalk.wrap64_in _ (by omega)] at hr
  rw [fitsV_eq, if_neg hx, he, if_neg (by omega)]
set_option maxRecDepth 100000 in
set_option maxHeartbeats 4000000 in
theorem fits_any (S : Nat → Prop) (c g : Nat) (D : DiskV) (s : ByteArray) (n : Nat) (w : World) (h : Dk S c w g D) (hs : s.size ≤ maxLen) (hn : n ≤ 1000000000) (hc : c ≤ 1000000000) :
    Calls Tryz.prog 62 #[.pointer (some ⟨g, 0, none⟩), .string s, .int .i64 (n : Int)] w fun e w' => e = .returned (.int .i64 (fitsV D s n : Int)) ∧ Below w.heap.size w w' := by
  obtain ⟨mf, ms, vp, h1, _, _, _, h5, _⟩ := h.ex
  obtain ⟨dv, hf, _⟩ := h.fl
  have q0 := (show w.cell? ⟨g, 0, none⟩ = some (.int .i64 (D.quota : Int)) from blk_cell h1 0)
  have Q0 := Lib.hid q0
  have q5 := (show w.cell? ⟨g, 5, none⟩ = some (.map (some mf)) from blk_cell h1 5)
  have hz : (zeroValue 72).run Tryz.prog w = .ok (.pointer none) w := by kernel_rfl
  have hlk := (VMap.look h5 keyed_s Tryz.underlying76 hz (s := s) (keyOf_s hs)).1
  have hlen := fun ty => VMap.len h5 Tryz.underlying76 ty
  obtain ⟨o, ho⟩ : ∃ o, o = look D.dir s := ⟨_, rfl⟩
  rw [← ho] at hlk
  have H := Lib.hid h
  have HF := Lib.hid hf
  have HO := Lib.hid ho
  have HN := Lib.hid hn
  have HC := Lib.hid (used_le h.ok)
  have hcl : D.dir.length ≤ 1000000000 := Nat.le_trans h.ok.dirLen hc
  have HOL : Hid (∀ i, o = some i → (D.fs i).b.length ≤ usedV D) := fun i hi => old_le h.ok (ho.symm.trans hi)
  clear h h1 h5 hf ho hz q0
  by_cases d1 : (65536 : Int) < (n : Int)
  · have hd1 : decide ((65536 : Int) < (n : Int)) = true := decide_eq_true d1
    have HT : Hid (fitsV D s n = 3) := by show _ = _; unfold fitsV; rw [if_pos (.inl (by omega))]
    clear d1
    cases o with
    | none =>
      simp only [Option.map_none, Option.getD_none, Option.isSome_none] at hlk
      go_enter Tryz.func62, Tryz.ntmps62
      go_wp2
      go_ret
      exact ⟨by rw [HT.out]; rfl, Below.refl _ _⟩
    | some i =>
      obtain ⟨a1, a2, a3⟩ := HF.out i (has_dir HO.out.symm)
      have c0 : w.cell? ⟨i, 0, none⟩ = some (dv i) := blk_cell a2 0
      obtain ⟨A, cp, hd, hlc, _⟩ := a3.bs
      rw [hd] at c0
      obtain ⟨old, hold⟩ : ∃ old, old = (D.fs i).b.length := ⟨_, rfl⟩
      rw [← hold] at c0
      simp only [Option.map_some, Option.getD_some, Option.isSome_some, fptr] at hlk
      clear a1 a2 a3 hd hlc hold
      go_enter Tryz.func62, Tryz.ntmps62
      go_wp2
      go_ret
      exact ⟨by rw [HT.out]; rfl, Below.refl _ _⟩
  have hd1 : decide ((65536 : Int) < (n : Int)) = false := decide_eq_false d1
  have HD1 : Hid (¬ 65536 < n) := by show ¬ _; omega
  clear d1
  cases o with
  | none =>
    simp only [Option.map_none, Option.getD_none, Option.isSome_none] at hlk
    have HOLD : Hid ((0 : Nat) ≤ usedV D) := Nat.zero_le _
    obtain ⟨old, hold⟩ : ∃ old : Nat, old = 0 := ⟨_, rfl⟩
    by_cases d2 : D.dir.length = 200
    · have hd2 : ((D.dir.length : Int) == 200) = true := by rw [d2]; rfl
      have HT : Hid (fitsV D s n = 3) := by show _ = _; unfold fitsV; rw [if_pos (.inr ⟨HO.out.symm, d2⟩)]
      clear d2
      go_enter Tryz.func62, Tryz.ntmps62
      go_wp2
      go_ret
      exact ⟨by rw [HT.out]; rfl, Below.refl _ _⟩
    have hd2 : ((D.dir.length : Int) == 200) = false := by rw [beq_eq_false_iff_ne]; omega
    have HX : Hid (¬ (65536 < n ∨ (look D.dir s = none ∧ D.dir.length = 200))) := fun hx => hx.elim HD1.out (fun hx => d2 hx.2)
    clear d2
    go_enter Tryz.func62, Tryz.ntmps62
    --S1
    have HH0 := Lib.hid hold
    have HOE : Hid (oldV D s = old) := by show _ = _; rw [oldV_none HO.out.symm, hold]
    have HOLD : Hid (old ≤ usedV D) := by show _ ≤ _; rw [hold]; exact Nat.zero_le _
    have HO := HOE
    clear hold
    go_upto_region 8 with (fail)
    --Sn
    refine start_ (n := 12) (S := fun w' => Below w.heap.size w w' ∧ w'.cell? ⟨g, 0, none⟩ = some (.int .i64 (D.quota : Int))) (ds := []) #[false, false, false, false, false, false, false, false, false, false, false, false] (by kernel_rfl) rfl rfl ⟨Below.drew (Below.refl _ _), Q0.out⟩ (fun hHeld => ?_)
    refine pure_ (i := 0) (N := some 39) (v := ?_) (a' := ?_) #[true, false, false, false, false, false, false, false, false, false, false, false] rfl rfl (by kernel_rfl) (fun _ _ _ h => h) (Or.inl ⟨by rfl, ?_⟩) ?_ ?_
    rotate_left
    · intro w'
      go_simp
      with_reducible rfl
    rotate_left
    · simp only [Act.put, List.setIfInBounds_toArray, List.set_cons_zero, List.set_cons_succ, i64_w, i32_w]
      rfl
    refine pure_ (i := 2) (N := some 41) (v := ?_) (a' := ?_) #[true, false, true, false, false, false, false, false, false, false, false, false] rfl rfl (by kernel_rfl) (fun _ _ _ h => h) (Or.inl ⟨by rfl, ?_⟩) ?_ ?_
    rotate_left
    · intro w'
      go_simp
      with_reducible rfl
    rotate_left
    · simp only [Act.put, List.setIfInBounds_toArray, List.set_cons_zero, List.set_cons_succ, i64_w, i32_w]
      rfl
    refine pure_ (i := 4) (N := some 43) (v := ?_) (a' := ?_) #[true, false, true, false, true, false, false, false, false, false, false, false] rfl rfl (by kernel_rfl) (fun _ _ _ h => h) (Or.inl ⟨by rfl, ?_⟩) ?_ ?_
    rotate_left
    · intro w'
      go_simp
      with_reducible rfl
    rotate_left
    · simp only [Act.put, List.setIfInBounds_toArray, List.set_cons_zero, List.set_cons_succ, i64_w, i32_w]
      rfl
    refine pure_ (i := 6) (N := some 45) (v := ?_) (a' := ?_) #[true, false, true, false, true, false, true, false, false, false, false, false] rfl rfl (by kernel_rfl) (fun _ _ _ h => h) (Or.inl ⟨by rfl, ?_⟩) ?_ ?_
    rotate_left
    · intro w'
      go_simp
      with_reducible rfl
    rotate_left
    · simp only [Act.put, List.setIfInBounds_toArray, List.set_cons_zero, List.set_cons_succ, i64_w, i32_w]
      rfl
    refine pure_ (i := 7) (N := some 46) (v := ?_) (a' := ?_) #[true, false, true, false, true, false, true, true, false, false, false, false] rfl rfl (by kernel_rfl) (fun _ _ _ h => h) (Or.inl ⟨by rfl, ?_⟩) ?_ ?_
    rotate_left
    · intro w'
      go_simp
      with_reducible rfl
    rotate_left
    · simp only [Act.put, List.setIfInBounds_toArray, List.set_cons_zero, List.set_cons_succ, i64_w, i32_w]
      rfl
    refine pure_ (i := 8) (N := some 47) (v := ?_) (a' := ?_) #[true, false, true, false, true, false, true, true, true, false, false, false] rfl rfl (by kernel_rfl) (fun _ _ _ h => h) (Or.inl ⟨by rfl, ?_⟩) ?_ ?_
    rotate_left
    · intro w'
      go_simp
      with_reducible rfl
    rotate_left
    · simp only [Act.put, List.setIfInBounds_toArray, List.set_cons_zero, List.set_cons_succ, i64_w, i32_w]
      rfl
    refine take_ (i := 9) (N := some 48) (v := ?_) (a' := ?_) #[true, false, true, false, true, false, true, true, true, true, false, false] rfl rfl (by kernel_rfl) (fun _ _ _ h => h) (Or.inl ⟨by rfl, ?_⟩) hHeld ?_ ?_
    rotate_left
    · rintro w' ⟨s0, s1⟩
      go_simp
      with_reducible rfl
    rotate_left
    · simp only [Act.put, List.setIfInBounds_toArray, List.set_cons_zero, List.set_cons_succ, i64_w, i32_w]
      rfl
    refine one_ (i := 1) (N := some 40) #[true, true, true, false, true, false, true, true, true, true, false, false] rfl rfl (by kernel_rfl) (by decide) (fun K hK => ?_)
    refine goes_ Tryz.func21 (by kernel_rfl) rfl #[.pointer (some ⟨g, 0, none⟩)] (by rfl) rfl rfl (by first | (simp only [List.map_toArray, List.map_cons, List.map_nil]; done) | (simp only [List.map_toArray, List.map_cons, List.map_nil]; rfl) | rfl) ?_
    with_reducible refine (used_any S c g D _ (H.out.below hHeld.1) hc).mono ?_
    rintro e w5 ⟨rfl, b5⟩
    refine ⟨_, rfl, ?_⟩
    have h5 := hHeld.1.trans (b5.mono hHeld.1.size)
    have HB5 := Lib.hid h5
    clear b5
    refine hK.out _ _ ⟨h5, pw_cell_below h5 Q0.out⟩ (fun hHeld => ?_)
    clear hK K
    refine norm_ (a' := ?_) ?_ ?_
    rotate_left
    · show Act.put _ (some 40) _ = _
      simp only [Act.put, List.setIfInBounds_toArray, List.set_cons_zero, List.set_cons_succ, i64_w, i32_w]
      rfl
    refine pure_ (i := 3) (N := some 42) (v := ?_) (a' := ?_) #[true, true, true, true, true, false, true, true, true, true, false, false] rfl rfl (by kernel_rfl) (fun _ _ _ h => h) (Or.inl ⟨by rfl, ?_⟩) ?_ ?_
    rotate_left
    · intro w'
      go_simp
      with_reducible rfl
    rotate_left
    · simp only [Act.put, List.setIfInBounds_toArray, List.set_cons_zero, List.set_cons_succ, i64_w, i32_w]
      rfl
    refine pure_ (i := 5) (N := some 44) (v := ?_) (a' := ?_) #[true, true, true, true, true, true, true, true, true, true, false, false] rfl rfl (by kernel_rfl) (fun _ _ _ h => h) (Or.inl ⟨by rfl, ?_⟩) ?_ ?_
    rotate_left
    · intro w'
      go_simp
      with_reducible rfl
    rotate_left
    · simp only [Act.put, List.setIfInBounds_toArray, List.set_cons_zero, List.set_cons_succ, i64_w, i32_w]
      rfl
    refine pure_ (i := 10) (N := some 49) (v := ?_) (a' := ?_) #[true, true, true, true, true, true, true, true, true, true, true, false] rfl rfl (by kernel_rfl) (fun _ _ _ h => h) (Or.inl ⟨by rfl, ?_⟩) ?_ ?_
    rotate_left
    · intro w'
      go_simp
      with_reducible rfl
    rotate_left
    · simp only [Act.put, List.setIfInBounds_toArray, List.set_cons_zero, List.set_cons_succ, i64_w, i32_w]
      rfl
    refine pure_ (i := 11) (N := some 38) (v := ?_) (a' := ?_) #[true, true, true, true, true, true, true, true, true, true, true, true] rfl rfl (by kernel_rfl) (fun _ _ _ h => h) (Or.inl ⟨by rfl, ?_⟩) ?_ ?_
    rotate_left
    · intro w'
      go_simp
      with_reducible rfl
    rotate_left
    · simp only [Act.put, List.setIfInBounds_toArray, List.set_cons_zero, List.set_cons_succ, i64_w, i32_w]
      rfl
    refine done_ (by kernel_rfl) ?_
    --Snb
    clear hHeld h5
    obtain ⟨r, hr⟩ : ∃ r, r = decide ((D.quota : Int) < wrap64 (wrap64 ((usedV D : Int)) + (n : Int))) := ⟨_, rfl⟩
    have HR := Lib.hid hr
    rw [← hr]
    clear hr
    cases r with
    | true =>
      have HT := Lib.hid (fits_seven HN.out HOLD.out HO.out HC.out hc _ (by have := HH0.out; omega) HR.out HX.out)
      go_wp2
      go_ret
      exact ⟨by rw [HT.out]; rfl, HB5.out⟩
    | false =>
      have HT := Lib.hid (fits_nought HN.out HOLD.out HO.out HC.out hc _ (by have := HH0.out; omega) HR.out HX.out)
      go_wp2
      go_ret
      exact ⟨by rw [HT.out]; rfl, HB5.out⟩
  | some i =>
    obtain ⟨a1, a2, a3⟩ := HF.out i (has_dir HO.out.symm)
    have c0 : w.cell? ⟨i, 0, none⟩ = some (dv i) := blk_cell a2 0
    obtain ⟨A, cp, hd, hlc, _⟩ := a3.bs
    rw [hd] at c0
    obtain ⟨old, hold⟩ : ∃ old, old = (D.fs i).b.length := ⟨_, rfl⟩
    rw [← hold] at c0
    have HOE : Hid (oldV D s = old) := by show _ = _; rw [oldV_some HO.out.symm, hold]
    have HX : Hid (¬ (65536 < n ∨ (look D.dir s = none ∧ D.dir.length = 200))) := fun hx => hx.elim HD1.out (fun hx => by have h1 := hx.1; rw [← HO.out] at h1; cases h1)
    have HOLD : Hid (old ≤ usedV D) := by rw [hold]; exact HOL.out i rfl
    have HO := HOE
    simp only [Option.map_some, Option.getD_some, Option.isSome_some, fptr] at hlk
    clear a1 a2 a3 hd hlc hold
    go_enter Tryz.func62, Tryz.ntmps62
    go_upto_region 8 with (fail)
    --Ss
    refine start_ (n := 12) (S := fun w' => Below w.heap.size w w' ∧ w'.cell? ⟨g, 0, none⟩ = some (.int .i64 (D.quota : Int))) (ds := []) #[false, false, false, false, false, false, false, false, false, false, false, false] (by kernel_rfl) rfl rfl ⟨Below.drew (Below.refl _ _), Q0.out⟩ (fun hHeld => ?_)
    refine pure_ (i := 0) (N := some 39) (v := ?_) (a' := ?_) #[true, false, false, false, false, false, false, false, false, false, false, false] rfl rfl (by kernel_rfl) (fun _ _ _ h => h) (Or.inl ⟨by rfl, ?_⟩) ?_ ?_
    rotate_left
    · intro w'
      go_simp
      with_reducible rfl
    rotate_left
    · simp only [Act.put, List.setIfInBounds_toArray, List.set_cons_zero, List.set_cons_succ, i64_w, i32_w]
      rfl
    refine pure_ (i := 2) (N := some 41) (v := ?_) (a' := ?_) #[true, false, true, false, false, false, false, false, false, false, false, false] rfl rfl (by kernel_rfl) (fun _ _ _ h => h) (Or.inl ⟨by rfl, ?_⟩) ?_ ?_
    rotate_left
    · intro w'
      go_simp
      with_reducible rfl
    rotate_left
    · simp only [Act.put, List.setIfInBounds_toArray, List.set_cons_zero, List.set_cons_succ, i64_w, i32_w]
      rfl
    refine pure_ (i := 4) (N := some 43) (v := ?_) (a' := ?_) #[true, false, true, false, true, false, false, false, false, false, false, false] rfl rfl (by kernel_rfl) (fun _ _ _ h => h) (Or.inl ⟨by rfl, ?_⟩) ?_ ?_
    rotate_left
    · intro w'
      go_simp
      with_reducible rfl
    rotate_left
    · simp only [Act.put, List.setIfInBounds_toArray, List.set_cons_zero, List.set_cons_succ, i64_w, i32_w]
      rfl
    refine pure_ (i := 6) (N := some 45) (v := ?_) (a' := ?_) #[true, false, true, false, true, false, true, false, false, false, false, false] rfl rfl (by kernel_rfl) (fun _ _ _ h => h) (Or.inl ⟨by rfl, ?_⟩) ?_ ?_
    rotate_left
    · intro w'
      go_simp
      with_reducible rfl
    rotate_left
    · simp only [Act.put, List.setIfInBounds_toArray, List.set_cons_zero, List.set_cons_succ, i64_w, i32_w]
      rfl
    refine pure_ (i := 7) (N := some 46) (v := ?_) (a' := ?_) #[true, false, true, false, true, false, true, true, false, false, false, false] rfl rfl (by kernel_rfl) (fun _ _ _ h => h) (Or.inl ⟨by rfl, ?_⟩) ?_ ?_
    rotate_left
    · intro w'
      go_simp
      with_reducible rfl
    rotate_left
    · simp only [Act.put, List.setIfInBounds_toArray, List.set_cons_zero, List.set_cons_succ, i64_w, i32_w]
      rfl
    refine pure_ (i := 8) (N := some 47) (v := ?_) (a' := ?_) #[true, false, true, false, true, false, true, true, true, false, false, false] rfl rfl (by kernel_rfl) (fun _ _ _ h => h) (Or.inl ⟨by rfl, ?_⟩) ?_ ?_
    rotate_left
    · intro w'
      go_simp
      with_reducible rfl
    rotate_left
    · simp only [Act.put, List.setIfInBounds_toArray, List.set_cons_zero, List.set_cons_succ, i64_w, i32_w]
      rfl
    refine take_ (i := 9) (N := some 48) (v := ?_) (a' := ?_) #[true, false, true, false, true, false, true, true, true, true, false, false] rfl rfl (by kernel_rfl) (fun _ _ _ h => h) (Or.inl ⟨by rfl, ?_⟩) hHeld ?_ ?_
    rotate_left
    · rintro w' ⟨s0, s1⟩
      go_simp
      with_reducible rfl
    rotate_left
    · simp only [Act.put, List.setIfInBounds_toArray, List.set_cons_zero, List.set_cons_succ, i64_w, i32_w]
      rfl
    refine one_ (i := 1) (N := some 40) #[true, true, true, false, true, false, true, true, true, true, false, false] rfl rfl (by kernel_rfl) (by decide) (fun K hK => ?_)
    refine goes_ Tryz.func21 (by kernel_rfl) rfl #[.pointer (some ⟨g, 0, none⟩)] (by rfl) rfl rfl (by first | (simp only [List.map_toArray, List.map_cons, List.map_nil]; done) | (simp only [List.map_toArray, List.map_cons, List.map_nil]; rfl) | rfl) ?_
    with_reducible refine (used_any S c g D _ (H.out.below hHeld.1) hc).mono ?_
    rintro e w5 ⟨rfl, b5⟩
    refine ⟨_, rfl, ?_⟩
    have h5 := hHeld.1.trans (b5.mono hHeld.1.size)
    have HB5 := Lib.hid h5
    clear b5
    refine hK.out _ _ ⟨h5, pw_cell_below h5 Q0.out⟩ (fun hHeld => ?_)
    clear hK K
    refine norm_ (a' := ?_) ?_ ?_
    rotate_left
    · show Act.put _ (some 40) _ = _
      simp only [Act.put, List.setIfInBounds_toArray, List.set_cons_zero, List.set_cons_succ, i64_w, i32_w]
      rfl
    refine pure_ (i := 3) (N := some 42) (v := ?_) (a' := ?_) #[true, true, true, true, true, false, true, true, true, true, false, false] rfl rfl (by kernel_rfl) (fun _ _ _ h => h) (Or.inl ⟨by rfl, ?_⟩) ?_ ?_
    rotate_left
    · intro w'
      go_simp
      with_reducible rfl
    rotate_left
    · simp only [Act.put, List.setIfInBounds_toArray, List.set_cons_zero, List.set_cons_succ, i64_w, i32_w]
      rfl
    refine pure_ (i := 5) (N := some 44) (v := ?_) (a' := ?_) #[true, true, true, true, true, true, true, true, true, true, false, false] rfl rfl (by kernel_rfl) (fun _ _ _ h => h) (Or.inl ⟨by rfl, ?_⟩) ?_ ?_
    rotate_left
    · intro w'
      go_simp
      with_reducible rfl
    rotate_left
    · simp only [Act.put, List.setIfInBounds_toArray, List.set_cons_zero, List.set_cons_succ, i64_w, i32_w]
      rfl
    refine pure_ (i := 10) (N := some 49) (v := ?_) (a' := ?_) #[true, true, true, true, true, true, true, true, true, true, true, false] rfl rfl (by kernel_rfl) (fun _ _ _ h => h) (Or.inl ⟨by rfl, ?_⟩) ?_ ?_
    rotate_left
    · intro w'
      go_simp
      with_reducible rfl
    rotate_left
    · simp only [Act.put, List.setIfInBounds_toArray, List.set_cons_zero, List.set_cons_succ, i64_w, i32_w]
      rfl
    refine pure_ (i := 11) (N := some 38) (v := ?_) (a' := ?_) #[true, true, true, true, true, true, true, true, true, true, true, true] rfl rfl (by kernel_rfl) (fun _ _ _ h => h) (Or.inl ⟨by rfl, ?_⟩) ?_ ?_
    rotate_left
    · intro w'
      go_simp
      with_reducible rfl
    rotate_left
    · simp only [Act.put, List.setIfInBounds_toArray, List.set_cons_zero, List.set_cons_succ, i64_w, i32_w]
      rfl
    refine done_ (by kernel_rfl) ?_
    --Ssb
    clear hHeld h5
    obtain ⟨r, hr⟩ : ∃ r, r = decide ((D.quota : Int) < wrap64 (wrap64 ((usedV D : Int) - (old : Int)) + (n : Int))) := ⟨_, rfl⟩
    have HR := Lib.hid hr
    rw [← hr]
    clear hr
    cases r with
    | true =>
      have HT := Lib.hid (fits_seven HN.out HOLD.out HO.out HC.out hc _ (rfl) HR.out HX.out)
      go_wp2
      go_ret
      exact ⟨by rw [HT.out]; rfl, HB5.out⟩
    | false =>
      have HT := Lib.hid (fits_nought HN.out HOLD.out HO.out HC.out hc _ (rfl) HR.out HX.out)
      go_wp2
      go_ret
      exact ⟨by rw [HT.out]; rfl, HB5.out⟩
end Go.Proofs.YtononoakdebjeaaGreatDoor.Dk
namespace Go.Proofs.YtononoakdebjeaaGreatDoor.Base
open Go.RowKit Go.Proofs.YtononoakdebjeaaGreatDoorW.PrintWords Go.Maps
section
variable {κ : Type} {k : TypeId} {key : κ → Lit} {w w1 : World} {b n : Nat} {f : κ → Option Value}
/-- delete(m, k). -/
theorem VMap.drop {t e : TypeId} [DecidableEq κ] (h : VMap k key w b n f) (K : Keyed Tryz.prog k) (ht : Tryz.prog.underlying t = some (.map k e)) {kv : Value} {s : κ} (hkey : keyOf Tryz.prog k kv = some (key s)) (inj : ∀ s', s' ≠ s → key s' ≠ key s) (ty : TypeId) :
    ∃ w', (Builtin.delete_ #[t, k] ty #[.map (some b), kv]).run Tryz.prog w = .ok (.tuple #[]) w' ∧ VMap k key w' b (if (f s).isSome = true then n - 1 else n) (fun s' => if s' = s then none else f s') ∧ w.grownBy w' (some b) ∧ w'.heap.size = w.heap.size := by
  obtain ⟨D, h1, h0, h2, h3, h4⟩ := h
  obtain ⟨w', r1, r2, r3⟩ := h1.drop K ht hkey ty
  have hT := h1.tidy K
  have hsz : Maps.size (D.del (key s)) = if (f s).isSome = true then n - 1 else n := by
    have h5 := size_del (k := key s) hT
    rw [h2, h0] at h5
    split at h5 <;> rename_i h6 <;> simp only [h6, if_true, if_false, Bool.false_eq_true] <;> omega
  refine ⟨w', r1, ⟨D.del (key s), ?_, hsz, fun s' => ?_, fun s' u hu z => ?_, fun x hx => ?_⟩, r3.grown, ?_⟩
  · obtain ⟨es, clock, e1, e2, e3, e4⟩ := r2
    refine ⟨es, clock, e1, e2, ?_, e4⟩
    rw [← hsz, e4]
    simp [Maps.size, length_sorted]
  · show _ = (if s' = s then none else f s').isSome
    by_cases hs : s' = s
    · rw [if_pos hs, hs, has_del_same]; rfl
    · rw [if_neg hs, has_del_other (inj s' hs), h2]
  · have hu : (if s' = s then none else f s') = some u := hu
    by_cases hs : s' = s
    · rw [if_pos hs] at hu
      cases hu
    · rw [if_neg hs] at hu
      rw [atKey_del_other (inj s' hs)]
      exact h3 s' u hu z
  · by_cases hs : x = key s
    · rw [hs, has_del_same] at hx
      cases hx
    · rw [has_del_other hs] at hx
      exact h4 x hx
  · obtain ⟨es, clk, es', clk', hb, rfl⟩ := r3
    simp [Go.ChangeMaps.setBlock]
end
section
variable {ops : Array Oper} {rest : List Oper} {o : Oper} {a : Act} {Q : Exit → Act → World → Prop}
theorem del_at {W w' : World} (hgd : o.guard = none) (m x : Operand) (t k : TypeId) (ho : o.op = Op.call { callee := Callee.builtin Builtin.delete, args := #[m, x], argTypes := #[t, k] }) (b : Nat) (key : Value) (hm : a.eval m = .map (some b)) (hx : a.eval x = key)
    (hrun : (Builtin.delete_ #[t, k] o.type #[.map (some b), key]).run Tryz.prog W = .ok (.tuple #[]) w') (h : wpList Tryz.prog ops Q rest (a.put o.dst (.tuple #[])) w') : wpList Tryz.prog ops Q (o :: rest) a W := by
  refine wpList_plain hgd fun K' hK' => ?_
  unfold Oper.wp
  simp [execOp, ho, resolve, invoke, builtin, hm, hx, hrun, Result.andThen]
  exact hK' _ _ h
end
end Go.Proofs.YtononoakdebjeaaGreatDoor.Base
namespace Go.Proofs.YtononoakdebjeaaGreatDoor.Dk
open Go.RowKit Go.Proofs.YtononoakdebjeaaGreatDoorW.PrintWords Go.Proofs.YtononoakdebjeaaGreatDoorW.PrintLast Go.Proofs.YtononoakdebjeaaGreatDoor.Base Go.Maps
set_option linter.unusedVariables false
set_option linter.unusedSimpArgs false
theorem DirAt.del {w : World} {m : Nat} {L : Dir} (h : DirAt w m L) (hu : UpD L) {s : ByteArray} (hs : s.size ≤ maxLen) (ty : TypeId) :
    ∃ w', (Builtin.delete_ #[76, 9] ty #[.map (some m), .string s]).run Tryz.prog w = .ok (.tuple #[]) w' ∧ DirAt w' m (delD L s) ∧ w.grownBy w' (some m) ∧ w'.heap.size = w.heap.size := by
  obtain ⟨w', r1, r2, r3, r4⟩ := VMap.drop h keyed_s Tryz.underlying76 (s := s) (keyOf_s hs) (fun s' h => skey_inj h) ty
  refine ⟨w', r1, ?_, r3, r4⟩
  unfold DirAt
  rw [delD_len hu]
  have e : (if ((look L s).map fptr).isSome = true then L.length - 1 else L.length) = if (look L s).isSome = true then L.length - 1 else L.length := by cases look L s <;> rfl
  rw [e] at r2
  refine r2.congr fun s' => ?_
  rw [look_delD hu]
  split <;> rfl
theorem DirAt.put {w : World} {m : Nat} {L : Dir} (h : DirAt w m L) (hu : UpD L) (hl : L.length < maxLen) {s : ByteArray} (hs : s.size ≤ maxLen) (i : Nat) :
    ∃ w', (Instr.mapUpdate 76 (.map (some m)) (.string s) (fptr i)).run Tryz.prog w = .ok () w' ∧ DirAt w' m (putD L s i) ∧ w.grownBy w' (some m) ∧ w'.heap.size = w.heap.size := by
  obtain ⟨w', r1, r2, r3, r4⟩ := VMap.store h keyed_s Tryz.underlying76 hl (s := s) (keyOf_s hs) (skey_lit s) (fun s' h => skey_inj h) (fptr i)
  refine ⟨w', r1, ?_, r3, r4⟩
  unfold DirAt
  rw [putD_len hu]
  have e : (if ((look L s).map fptr).isSome = true then L.length else L.length + 1) = if (look L s).isSome = true then L.length else L.length + 1 := by cases look L s <;> rfl
  rw [e] at r2
  refine r2.congr fun s' => ?_
  rw [look_putD hu]
  split <;> rfl
abbrev cagg (c : ChV) : Value := .agg #[.string c.name, optr c.dst, .string c.gone]
theorem empty_iff (s : ByteArray) : s.toList.isEmpty = decide (s = noName) := by
  rw [ByteArray.toList_eq]
  by_cases e : s = noName
  · rw [decide_eq_true e, e]; rfl
  · rw [decide_eq_false e]
    cases hs : s.data.toList with
    | cons a l => rfl
    | nil =>
      refine absurd ?_ e
      cases s
      exact congrArg ByteArray.mk (Array.toList_eq_nil_iff.1 hs)
set_option maxRecDepth 100000 in
set_option maxHeartbeats 2000000 in
theorem does_any (m : Nat) (L : Dir) (c : ChV) (w : World) (h : DirAt w m L) (hu : UpD L) (hl : L.length < 1000000000) (h1 : c.name.size ≤ maxLen) (h2 : c.gone.size ≤ maxLen) (h3 : c.name ≠ noName → c.dst.isSome = true) :
    Calls Tryz.prog 41 #[cagg c, .map (some m)] w fun e w' => e = .returned (.tuple #[]) ∧ DirAt w' m (chDo L c) ∧ Foot (fun k => k = m) w w' := by
  obtain ⟨name, dst, gone⟩ := c
  simp only at h1 h2 h3
  obtain ⟨x, hx⟩ : ∃ x, w.heap.size = x := ⟨_, rfl⟩
  obtain ⟨W, hW⟩ : ∃ W, W = w.alloc (.cells #[.string name, optr dst, .string gone] 84) := ⟨_, rfl⟩
  have hB0 : Below w.heap.size w W := by rw [hW]; exact below_alloc (Below.refl _ _) _
  have hX : W.heap[x]? = some (.cells #[.string name, optr dst, .string gone] 84 (0, 0)) := by rw [hW, ← hx]; exact blk_new w _
  have hm : m < x := by rw [← hx]; exact VMap.lt h
  have hD0 : DirAt W m L := VMap.below h hB0
  have HW := Lib.hid hW
  have HX := Lib.hid hX
  have HF0 : Hid (Foot (fun k => k = m) w W) := Foot.of_below hB0
  have q0 := (show W.cell? ⟨x, 0, none⟩ = some (.string name) from blk_cell hX 0)
  have q1 := (show W.cell? ⟨x, 1, none⟩ = some (optr dst) from blk_cell hX 1)
  have q2 := (show W.cell? ⟨x, 2, none⟩ = some (.string gone) from blk_cell hX 2)
  have HU := Lib.hid hu
  have keep : ∀ {V V' : World}, V.grownBy V' (some m) → V.heap[x]? = some (.cells #[.string name, optr dst, .string gone] 84 (0, 0)) → V'.heap[x]? = some (.cells #[.string name, optr dst, .string gone] 84 (0, 0)) := fun hg hb =>
    (grown_ne hg (blk_lt hb) (by intro e; injection e with e; omega)).trans hb
  have HK := @keep
  clear keep hB0 hX h hu
  cases hg : decide (gone = noName) with
  | true =>
    have g1 : gone.toList.isEmpty = true := by rw [empty_iff, hg]
    have HG := Lib.hid (of_decide_eq_true hg)
    cases hn : decide (name = noName) with
    | true =>
      have n1 : name.toList.isEmpty = true := by rw [empty_iff, hn]
      have HN := Lib.hid (of_decide_eq_true hn)
      have HD0 := Lib.hid hD0
      clear hg hn hD0 q0 q1 q2
      go_enter Tryz.func41, Tryz.ntmps41
      go_wp2
      go_end0
      rw [← HW.out]
      refine ⟨rfl, ?_, HF0.out⟩
      unfold chDo
      simp only
      rw [if_pos HG.out, if_pos HN.out]
      exact HD0.out
    | false =>
      have n1 : name.toList.isEmpty = false := by rw [empty_iff, hn]
      have HN := Lib.hid (of_decide_eq_false hn)
      obtain ⟨i, rfl⟩ := Option.isSome_iff_exists.1 (h3 HN.out)
      obtain ⟨W2, r1, r2, r3, r4⟩ := hD0.put HU.out (by simp only [maxLen]; omega) h1 i
      have r1' : (Instr.mapUpdate 76 (.map (some m)) (.string name) (optr (some i))).run Tryz.prog (w.alloc (.cells #[.string name, optr (some i), .string gone] 84)) = .ok () W2 := by rw [← HW.out]; exact r1
      have HR2 := Lib.hid r2
      have HR3 := Lib.hid r3
      clear hg hn hD0 q0 q1 q2 r1 r2 r3
      go_enter Tryz.func41, Tryz.ntmps41
      go_wp2
      go_end0
      refine ⟨rfl, ?_, HF0.out.trans (Foot.of_grown HR3.out (fun k hk => by injection hk with hk; exact hk.symm))⟩
      unfold chDo
      simp only
      rw [if_pos HG.out, if_neg HN.out]
      exact HR2.out
  | false =>
    have g1 : gone.toList.isEmpty = false := by rw [empty_iff, hg]
    have HG := Lib.hid (of_decide_eq_false hg)
    obtain ⟨W1, s1, s2, s3, s4⟩ := hD0.del HU.out h2 0
    have s1' : (Builtin.delete_ #[76, 9] 0 #[.map (some m), .string gone]).run Tryz.prog (w.alloc (.cells #[.string name, optr dst, .string gone] 84)) = .ok (.tuple #[]) W1 := by rw [← HW.out]; exact s1
    have HS2 := Lib.hid s2
    have HF1 : Hid (Foot (fun k => k = m) w W1) := HF0.out.trans (Foot.of_grown s3 (fun k hk => by injection hk with hk; exact hk.symm))
    have hX1 := HK s3 HX.out
    have p0 := (show W1.cell? ⟨x, 0, none⟩ = some (.string name) from blk_cell hX1 0)
    have p1 := (show W1.cell? ⟨x, 1, none⟩ = some (optr dst) from blk_cell hX1 1)
    cases hn : decide (name = noName) with
    | true =>
      have n1 : name.toList.isEmpty = true := by rw [empty_iff, hn]
      have HN := Lib.hid (of_decide_eq_true hn)
      clear hg hn hD0 q0 q1 q2 s1 s2 s3 hX1
      go_enter Tryz.func41, Tryz.ntmps41
      go_wp2
      go_end0
      refine ⟨rfl, ?_, HF1.out⟩
      unfold chDo
      simp only
      rw [if_neg HG.out, if_pos HN.out]
      exact HS2.out
    | false =>
      have n1 : name.toList.isEmpty = false := by rw [empty_iff, hn]
      have HN := Lib.hid (of_decide_eq_false hn)
      obtain ⟨i, rfl⟩ := Option.isSome_iff_exists.1 (h3 HN.out)
      have hlen : (delD L gone).length ≤ L.length := List.length_filter_le _ _
      obtain ⟨W2, r1, r2, r3, r4⟩ := s2.put (delD_up HU.out gone) (by simp only [maxLen]; omega) h1 i
      have r1' : (Instr.mapUpdate 76 (.map (some m)) (.string name) (optr (some i))).run Tryz.prog W1 = .ok () W2 := r1
      have HR2 := Lib.hid r2
      have HR3 := Lib.hid r3
      clear hg hn hD0 q0 q1 q2 r1 r2 r3 s1 s2 s3 hX1 hlen
      go_enter Tryz.func41, Tryz.ntmps41
      go_wp2
      go_end0
      refine ⟨rfl, ?_, HF1.out.trans (Foot.of_grown HR3.out (fun k hk => by injection hk with hk; exact hk.symm))⟩
      unfold chDo
      simp only
      rw [if_neg HG.out, if_neg HN.out]
      exact HR2.out
end Go.Proofs.YtononoakdebjeaaGreatDoor.Dk
namespace Go.Proofs.YtononoakdebjeaaGreatDoor.Dk
open Go.RowKit Go.Proofs.YtononoakdebjeaaGreatDoorW.PrintWords Go.Proofs.YtononoakdebjeaaGreatDoorW.PrintLast Go.Proofs.YtononoakdebjeaaGreatDoor.Base Go.Maps
set_option linter.unusedVariables false
set_option linter.unusedSimpArgs false
theorem DirAt.lt {w : World} {m : Nat} {L : Dir} (h : DirAt w m L) : m < w.heap.size := VMap.lt h
theorem Dat.keep {S : Nat → Prop} {w w' : World} {v : Value} {xs : List Int} (h : Dat S w v xs) (hm : ∀ k cells, S k → w.heap[k]? = some (.cells cells 5 (0, 0)) → w'.heap[k]? = w.heap[k]?) : Dat S w' v xs := by
  rcases h with h | ⟨k, cs, rfl, hs, hk, ht⟩
  · refine .inl (Kd.R_mono (Kd.R_move (Kd.R_bound h) (fun k hk => ?_)) (fun k hk => hk.1))
    obtain ⟨h1, _, _, q, hq, cells, hc⟩ := hk
    have hq : q = 5 := by
      have hE : (Kd.int .u8).E = [] := rfl
      rw [hE] at hq
      exact List.mem_singleton.1 hq
    subst hq
    exact hm k cells h1 hc
  · exact .inr ⟨k, cs, rfl, hs, (hm k cs hs hk).trans hk, ht⟩
theorem FilesAt.keep {S : Nat → Prop} {w w' : World} {D : DiskV} {dv : Nat → Value} (h : FilesAt S w D dv) (hm : ∀ k cells t, S k → (t = 5 ∨ t = 74) → w.heap[k]? = some (.cells cells t (0, 0)) → w'.heap[k]? = w.heap[k]?) : FilesAt S w' D dv :=
  ⟨fun i hi => by obtain ⟨a, b, d⟩ := h.1 i hi; exact ⟨a, (hm i _ _ a (.inr rfl) b).trans b, d.keep fun k cells hk hc => hm k cells _ hk (.inl rfl) hc⟩, h.2⟩
theorem turns_end {S : Nat → Prop} {c g mf ms x np cp na ca : Nat} {Ap Aa : Option Addr} {D : DiskV} {ch : ChV} {dv : Nat → Value} {w W w2 wa w9 : World} (hc : c ≤ 100000000) (hx : w.heap.size = x) (hok : OkD (c + 1) (turnsV D ch)) (hsg : S g) (hmf : S mf) (hms : S ms) (hne : mf ≠ ms)
    (hfl : FilesAt S W (turnsV D ch) dv) (h6 : DirAt W ms D.sure) (h5 : DirAt w2 mf (chDo D.dir ch)) (hkp : ∀ k, k < W.heap.size → k ≠ mf → w2.heap[k]? = W.heap[k]?) (hr2 : kch.R 84 w2 0 (fun k => S k ∨ x ≤ k) (.slice Ap np cp) (D.pend.map ChV.x))
    (hga : w2.grownBy wa (Value.slice Ap np cp).ownBlock) (hra : kch.R 84 wa 0 (fun k => S k ∨ x ≤ k) (.slice Aa na ca) ((D.pend ++ [ch]).map ChV.x)) (hg : W.heap[g]? = some (.cells (dcells D mf ms (.slice Ap np cp)) 80 (0, 0)))
    (h9 : ∀ k, k ≠ g → w9.heap[k]? = wa.heap[k]?) (h9g : w9.heap[g]? = some (.cells (dcells D mf ms (.slice Aa na ca)) 80 (0, 0))) (h9f : Foot (fun k => S k ∨ x ≤ k) w w9) (hgl : g < W.heap.size) (h5' : DirAt W mf D.dir) (hlt : ∀ k, S k → k < w.heap.size) (hwg : wa.heap[g]? = some (.cells (dcells D mf ms (.slice Ap np cp)) 80 (0, 0))) :
    Dk (Sx S w w9) (c + 1) w9 g (turnsV D ch) ∧ Foot S w w9 := by
  have hrow : ∀ k, some k = (Value.slice Ap np cp).ownBlock → ∃ cells, w2.heap[k]? = some (.cells cells 84 (0, 0)) := fun k hk => Kd.R_typed hr2 k hk.symm
  have hF : Foot S w w9 := h9f.mono (fun k hk h => h.elim id (fun h => by omega))
  have hl9 : ∀ k, S k ∨ x ≤ k → k < w9.heap.size → Sx S w w9 k := fun k hk hl => hk.elim .inl (fun h => .inr ⟨by omega, hl⟩)
  have lt2 : ∀ {w : World} {k : Nat} {o : Obj}, w.heap[k]? = some o → k < w.heap.size := fun h => (Array.getElem?_eq_some_iff.1 h).1
  have hsl : ∀ k, S k → k < w9.heap.size := fun k hk => Nat.lt_of_lt_of_le (hlt k hk) h9f.size
  have keepV : ∀ {k n : Nat} {f : ByteArray → Option Value} {V : World}, VMap 9 skey V k n f → V.heap[k]? = w2.heap[k]? → k ≠ g → VMap 9 skey w9 k n f := fun {k n f V} hv e hkg => by
    refine hv.block ((h9 k hkg).trans ?_)
    rw [e]
    refine grown_ne hga ?_ (fun e2 => ?_)
    · have := hv.lt
      obtain ⟨_, ⟨es, clock, hb, _⟩, _⟩ := hv
      exact lt2 (e.symm.trans hb)
    · obtain ⟨cells, hcl⟩ := hrow k e2
      rw [← e] at hcl
      exact hv.no_cells hcl
  have hmg : mf ≠ g := VMap.ne h5' hg
  have hsg' : ms ≠ g := VMap.ne h6 hg
  refine ⟨⟨fun k hk => hk.elim (hsl k) (·.2), .inl hsg, hok, ⟨mf, ms, .slice Aa na ca, h9g, .inl hmf, .inl hms, hne, keepV h5 rfl hmg, keepV h6 (hkp ms (VMap.lt h6) (fun e => hne e.symm)).symm hsg', ?_⟩, ⟨dv, ?_⟩⟩, hF⟩
  · have h1 := R_q hra (q := g) (w1 := w9) (fun t ht => ?_) (fun k _ hk => h9 k hk)
    · exact Kd.R_mono (Kd.R_bound h1) (fun k hk => hl9 k hk.1 hk.2.2.1)
    · exact not_cells hwg (by
        revert ht t
        decide)
  · refine FilesAt.mono (FilesAt.keep hfl (fun k cells t hk ht hb => ?_)) (fun k hk => .inl hk)
    have hkm : k ≠ mf := fun e => by rw [e] at hb; exact VMap.no_cells h5' hb
    have e2 := hkp k (lt2 hb) hkm
    have hkg : k ≠ g := fun e => by
      rw [e, hg] at hb
      injection hb with hb
      injection hb with _ hb _
      rcases ht with rfl | rfl <;> revert hb <;> decide
    rw [h9 k hkg]
    refine (grown_ne hga (lt2 (e2.trans hb)) (fun e => ?_)).trans e2
    obtain ⟨cells2, hc2⟩ := hrow k e
    rw [e2, hb] at hc2
    injection hc2 with hc2
    injection hc2 with _ hc2 _
    rcases ht with rfl | rfl <;> revert hc2 <;> decide
theorem ch_zero : (Tryz.prog.info? 84).map (fun i => (i.zero, i.size, i.bytes)) = some (some (.agg #[.string ⟨#[]⟩, .pointer none, .string ⟨#[]⟩]), 3, 40) := by kernel_rfl
section
variable {ops : Array Oper} {o : Oper} {a : Act} {Q : Exit → Act → World → Prop} {K : Act → World → Prop} {E : Prop}
theorem app_ch_step {W : World} (ok : Nat → Prop) (hgd : o.guard = none) (s x : Operand)
    (ho : o.op = .call { callee := .builtin .append, args := #[s, x], argTypes := #[78, 78] })
    (v : Value) (cs : List ChV) (c : ChV) (hs : a.eval s = v) (hx : a.eval x = .slice (some ⟨W.heap.size, 0, none⟩) 1 1)
    (HO : kch.R 84 W 0 ok v (cs.map ChV.x)) (hl : cs.length ≤ 1000000000) (hfresh : ∀ k, W.heap.size ≤ k → ok k)
    (h : ∀ v1 w1, kch.R 84 w1 0 ok v1 ((cs ++ [c]).map ChV.x) → W.grownBy w1 v.ownBlock → K (a.put o.dst v1) w1) :
    if Region.wanted o (yielded ops a.tmps) = true then Oper.wp Tryz.prog o a (W.alloc (.cells #[.string c.name, optr c.dst, .string c.gone] 84)) K Q else E := by
  have hw : Region.wanted o (yielded ops a.tmps) = true := by simp [Region.wanted, hgd]
  have hK := Kd.R_append_step kch (P := Tryz.prog) (Kc := K) (Q := Q) (ops := ops) (o := o) (a := a) (w0 := W) (W := W) 0 hw s x 78 84 _ 40 ho Tryz.underlying78 ch_zero rfl (by decide) (by decide) v (cs.map ChV.x) c.x
    [.string c.name, optr c.dst, .string c.gone] ok (fun _ => False) hs hx ⟨[.string c.name], [optr c.dst, .string c.gone], rfl, rfl, [optr c.dst], [.string c.gone], rfl, rfl, rfl⟩ (fun _ hk => hk.elim) hfresh HO (Below.refl 0 W) (Nat.zero_le _) (by rw [List.length_map]; omega) (fun v1 w1 h1 h2 h3 _ => h v1 w1 (by rw [List.map_append]; exact h1) h3)
  rw [if_pos hw] at hK ⊢
  exact hK
end
set_option maxRecDepth 100000 in
set_option maxHeartbeats 4000000 in
theorem turns_any (S : Nat → Prop) (c g : Nat) (D : DiskV) (ch : ChV) (dv : Nat → Value) (w : World) (h : Dk S c w g D) (hf : FilesAt S w (turnsV D ch) dv) (ho : OkD (c + 1) (turnsV D ch)) (hc : c ≤ 100000000) :
    Calls Tryz.prog 63 #[.pointer (some ⟨g, 0, none⟩), cagg ch] w fun e w' => e = .returned (.tuple #[]) ∧ Dk (Sx S w w') (c + 1) w' g (turnsV D ch) ∧ Foot S w w' := by
  obtain ⟨name, dst, gone⟩ := ch
  obtain ⟨mf, ms, vp, h1, hmf, hms, hne, h5, h6, h7⟩ := h.ex
  obtain ⟨Ap, cp, hvp⟩ := Kd.R_slice h7
  obtain ⟨np, hnp⟩ : ∃ np, np = (D.pend.map ChV.x).length := ⟨_, rfl⟩
  rw [← hnp] at hvp
  subst hvp
  obtain ⟨x, hx⟩ : ∃ x, w.heap.size = x := ⟨_, rfl⟩
  obtain ⟨W, hW⟩ : ∃ W, W = w.alloc (.cells #[.string name, optr dst, .string gone] 84) := ⟨_, rfl⟩
  have hB0 : Below w.heap.size w W := by rw [hW]; exact below_alloc (Below.refl _ _) _
  have HX : Hid (W.heap[x]? = some (.cells #[.string name, optr dst, .string gone] 84 (0, 0))) := by show _ = _; rw [hW, ← hx]; exact blk_new w _
  have HD := Lib.hid (h.below hB0)
  have HS := Lib.hid h.lt
  have HG : Hid (W.heap[g]? = some (.cells (dcells D mf ms (.slice Ap np cp)) 80 (0, 0))) := (hB0.block g (h.lt g h.sg)).trans h1
  have HM5 := Lib.hid (h5.block (hB0.block mf (h.lt mf hmf)))
  have HM6 := Lib.hid (h6.block (hB0.block ms (h.lt ms hms)))
  have HM7 := Lib.hid (Kd.R_move h7 (fun k hk => hB0.block k (h.lt k hk)))
  have HFL := Lib.hid (hf.move (fun k hk => hB0.block k (h.lt k hk)))
  have HMF := Lib.hid hmf
  have HMS := Lib.hid hms
  have HNE := Lib.hid hne
  have HOK := Lib.hid ho
  have HO := Lib.hid h.ok
  have HSG := Lib.hid h.sg
  have HXS : Hid (∀ k, S k → k < x) := by rw [← hx]; exact h.lt
  have HB0 := Lib.hid hB0
  have HXW := Lib.hid hx
  have HWW := Lib.hid hW
  have hgx : g < x := HXS.out g h.sg
  have hch := ho.chs ⟨name, dst, gone⟩ (List.mem_append_right _ (.head _))
  have HCH := Lib.hid hch
  have hdl : D.dir.length < 1000000000 ∨ D.dir.length = 1000000000 := by have := h.ok.dirLen; omega
  have HP5 := Lib.hid (show W.cell? ⟨g, 5, none⟩ = some (.map (some mf)) from blk_cell HG.out 5)
  have HX0 := Lib.hid (show W.cell? ⟨x, 0, none⟩ = some (.string name) from blk_cell HX.out 0)
  have HX1 := Lib.hid (show W.cell? ⟨x, 1, none⟩ = some (optr dst) from blk_cell HX.out 1)
  have HX2 := Lib.hid (show W.cell? ⟨x, 2, none⟩ = some (.string gone) from blk_cell HX.out 2)
  have HLN : Hid (D.dir.length ≤ c) := h.ok.dirLen
  have HNP := Lib.hid hnp
  have HPL : Hid (np ≤ c) := by show np ≤ c; rw [hnp, List.length_map]; have := h.ok.few; omega
  clear h hf ho h1 h5 h6 h7 hmf hms hne hB0 hch hdl hnp
  go_enter Tryz.func63, Tryz.ntmps63
  go_upto_region 1 with (fail)
  rw [← HWW.out]
  try rw [hx]
  clear hx hW
  --S1
  refine start_ (n := 6) (S := fun w' => Below W.heap.size W w' ∧ w'.cell? ⟨g, 5, none⟩ = some (.map (some mf)) ∧ w'.cell? ⟨x, 0, none⟩ = some (.string name) ∧ w'.cell? ⟨x, 1, none⟩ = some (optr dst) ∧ w'.cell? ⟨x, 2, none⟩ = some (.string gone)) (ds := [5]) #[false, false, false, false, false, false] (by kernel_rfl) rfl rfl ⟨Below.drew (Below.refl _ _), HP5.out, HX0.out, HX1.out, HX2.out⟩ (fun hHeld => ?_)
  refine pure_ (i := 1) (N := some 5) (v := ?_) (a' := ?_) #[false, true, false, false, false, false] rfl rfl (by kernel_rfl) (fun _ _ _ h => h) (Or.inl ⟨by rfl, ?_⟩) ?_ ?_
  rotate_left
  · intro w'
    go_simp
    with_reducible rfl
  rotate_left
  · simp only [Act.put, List.setIfInBounds_toArray, List.set_cons_zero, List.set_cons_succ, i64_w, i32_w]
    rfl
  refine pure_ (i := 2) (N := some 6) (v := ?_) (a' := ?_) #[false, true, true, false, false, false] rfl rfl (by kernel_rfl) (fun _ _ _ h => h) (Or.inl ⟨by rfl, ?_⟩) ?_ ?_
  rotate_left
  · intro w'
    go_simp
    with_reducible rfl
  rotate_left
  · simp only [Act.put, List.setIfInBounds_toArray, List.set_cons_zero, List.set_cons_succ, i64_w, i32_w]
    rfl
  refine pure_ (i := 3) (N := some 7) (v := ?_) (a' := ?_) #[false, true, true, true, false, false] rfl rfl (by kernel_rfl) (fun _ _ _ h => h) (Or.inl ⟨by rfl, ?_⟩) ?_ ?_
  rotate_left
  · intro w'
    go_simp
    with_reducible rfl
  rotate_left
  · simp only [Act.put, List.setIfInBounds_toArray, List.set_cons_zero, List.set_cons_succ, i64_w, i32_w]
    rfl
  refine take_ (i := 0) (N := some 4) (v := ?_) (a' := ?_) #[true, true, true, true, false, false] rfl rfl (by kernel_rfl) (fun _ _ _ h => h) (Or.inl ⟨by rfl, ?_⟩) hHeld ?_ ?_
  rotate_left
  · rintro w' ⟨s0, s1, s2, s3, s4⟩
    go_simp
    with_reducible rfl
  rotate_left
  · simp only [Act.put, List.setIfInBounds_toArray, List.set_cons_zero, List.set_cons_succ, i64_w, i32_w]
    rfl
  refine take_ (i := 4) (N := some 8) (v := ?_) (a' := ?_) #[true, true, true, true, true, false] rfl rfl (by kernel_rfl) (fun _ _ _ h => h) (Or.inl ⟨by rfl, ?_⟩) hHeld ?_ ?_
  rotate_left
  · rintro w' ⟨s0, s1, s2, s3, s4⟩
    go_simp
    with_reducible rfl
  rotate_left
  · simp only [Act.put, List.setIfInBounds_toArray, List.set_cons_zero, List.set_cons_succ, i64_w, i32_w]
    rfl
  refine last_ (i := 5) (N := some 9) #[true, true, true, true, true, true] rfl rfl (by kernel_rfl) (by decide) (fun K hK => ?_)
  refine goes_ Tryz.func41 (by kernel_rfl) rfl #[cagg ⟨name, dst, gone⟩, .map (some mf)] (by rfl) rfl rfl (by first | (simp only [List.map_toArray, List.map_cons, List.map_nil]; done) | (simp only [List.map_toArray, List.map_cons, List.map_nil]; rfl) | rfl) ?_
  with_reducible refine (does_any mf D.dir ⟨name, dst, gone⟩ _ (HM5.out.block (hHeld.1.block mf HM5.out.lt)) HO.out.dirUp (by have := HLN.out; omega) HCH.out.1 HCH.out.2.1 HCH.out.2.2).mono ?_
  rintro e w2 ⟨rfl, d2, f2⟩
  refine ⟨_, rfl, ?_⟩
  have HB1 := Lib.hid hHeld.1
  have HD2 := Lib.hid d2
  have HF2 := Lib.hid f2
  clear d2 f2
  refine hK.out _ _ ?_
  clear hK K
  refine norm_ (a' := ?_) ?_ ?_
  rotate_left
  · show Act.put _ (some 9) _ = _
    simp only [Act.put, List.setIfInBounds_toArray, List.set_cons_zero, List.set_cons_succ, i64_w, i32_w]
    rfl
  refine done_ (by kernel_rfl) ?_
  --S2
  clear hHeld
  have hkp : ∀ k, k < W.heap.size → k ≠ mf → w2.heap[k]? = W.heap[k]? := fun k hk hn => (HF2.out.block k (Nat.lt_of_lt_of_le hk HB1.out.size) hn).trans (HB1.out.block k hk)
  have HKP := Lib.hid hkp
  have hgm : g ≠ mf := fun e => VMap.ne HM5.out HG.out e.symm
  have hxm : x ≠ mf := fun e => by have := HXS.out mf HMF.out; omega
  have HG2 : Hid (w2.heap[g]? = some (.cells (dcells D mf ms (.slice Ap np cp)) 80 (0, 0))) := (hkp g (blk_lt HG.out) hgm).trans HG.out
  have HX2' : Hid (w2.heap[x]? = some (.cells #[.string name, optr dst, .string gone] 84 (0, 0))) := (hkp x (blk_lt HX.out) hxm).trans HX.out
  have G7 := Lib.hid (show w2.cell? ⟨g, 7, none⟩ = some (.slice Ap np cp) from blk_cell HG2.out 7)
  have Y0 := Lib.hid (show w2.cell? ⟨x, 0, none⟩ = some (.string name) from blk_cell HX2'.out 0)
  have Y1 := Lib.hid (show w2.cell? ⟨x, 1, none⟩ = some (optr dst) from blk_cell HX2'.out 1)
  have Y2 := Lib.hid (show w2.cell? ⟨x, 2, none⟩ = some (.string gone) from blk_cell HX2'.out 2)
  have hz2 : W.heap.size ≤ w2.heap.size := Nat.le_trans HB1.out.size HF2.out.size
  have HR2 : Hid (kch.R 84 w2 0 (fun k => S k ∨ x ≤ k) (.slice Ap np cp) (D.pend.map ChV.x)) :=
    Kd.R_mono (R_q HM7.out (fun t _ cells => by
      obtain ⟨_, ⟨es, clock, hb, _⟩, _⟩ := HM5.out
      rw [hb]
      intro e
      cases e) (fun k hk hn => hkp k hk hn)) (fun k hk => .inl hk)
  have HZ2 : Hid (x ≤ w2.heap.size) := by
    have h1 := blk_lt HX2'.out
    show x ≤ _
    omega
  clear hkp hz2 hgm hxm
  go_upto_region 2 with (fail)
  --S3
  refine start_ (n := 11) (S := fun w' => Below w2.heap.size w2 w' ∧ w'.cell? ⟨g, 7, none⟩ = some (.slice Ap np cp) ∧ w'.cell? ⟨x, 0, none⟩ = some (.string name) ∧ w'.cell? ⟨x, 1, none⟩ = some (optr dst) ∧ w'.cell? ⟨x, 2, none⟩ = some (.string gone)) (ds := [7, 10]) #[false, false, false, false, false, false, false, false, false, false, false] (by kernel_rfl) rfl rfl ⟨Below.drew (Below.refl _ _), G7.out, Y0.out, Y1.out, Y2.out⟩ (fun hHeld => ?_)
  refine pure_ (i := 0) (N := some 10) (v := ?_) (a' := ?_) #[true, false, false, false, false, false, false, false, false, false, false] rfl rfl (by kernel_rfl) (fun _ _ _ h => h) (Or.inl ⟨by rfl, ?_⟩) ?_ ?_
  rotate_left
  · intro w'
    go_simp
    with_reducible rfl
  rotate_left
  · simp only [Act.put, List.setIfInBounds_toArray, List.set_cons_zero, List.set_cons_succ, i64_w, i32_w]
    rfl
  refine pure_ (i := 1) (N := some 11) (v := ?_) (a' := ?_) #[true, true, false, false, false, false, false, false, false, false, false] rfl rfl (by kernel_rfl) (fun _ _ _ h => h) (Or.inl ⟨by rfl, ?_⟩) ?_ ?_
  rotate_left
  · intro w'
    go_simp
    with_reducible rfl
  rotate_left
  · simp only [Act.put, List.setIfInBounds_toArray, List.set_cons_zero, List.set_cons_succ, i64_w, i32_w]
    rfl
  refine pure_ (i := 2) (N := some 12) (v := ?_) (a' := ?_) #[true, true, true, false, false, false, false, false, false, false, false] rfl rfl (by kernel_rfl) (fun _ _ _ h => h) (Or.inl ⟨by rfl, ?_⟩) ?_ ?_
  rotate_left
  · intro w'
    go_simp
    with_reducible rfl
  rotate_left
  · simp only [Act.put, List.setIfInBounds_toArray, List.set_cons_zero, List.set_cons_succ, i64_w, i32_w]
    rfl
  refine pure_ (i := 3) (N := some 13) (v := ?_) (a' := ?_) #[true, true, true, true, false, false, false, false, false, false, false] rfl rfl (by kernel_rfl) (fun _ _ _ h => h) (Or.inl ⟨by rfl, ?_⟩) ?_ ?_
  rotate_left
  · intro w'
    go_simp
    with_reducible rfl
  rotate_left
  · simp only [Act.put, List.setIfInBounds_toArray, List.set_cons_zero, List.set_cons_succ, i64_w, i32_w]
    rfl
  refine take_ (i := 4) (N := some 14) (v := ?_) (a' := ?_) #[true, true, true, true, true, false, false, false, false, false, false] rfl rfl (by kernel_rfl) (fun _ _ _ h => h) (Or.inl ⟨by rfl, ?_⟩) hHeld ?_ ?_
  rotate_left
  · rintro w' ⟨s0, s1, s2, s3, s4⟩
    go_simp
    with_reducible rfl
  rotate_left
  · simp only [Act.put, List.setIfInBounds_toArray, List.set_cons_zero, List.set_cons_succ, i64_w, i32_w]
    rfl
  refine take_ (i := 5) (N := some 15) (v := ?_) (a' := ?_) #[true, true, true, true, true, true, false, false, false, false, false] rfl rfl (by kernel_rfl) (fun _ _ _ h => h) (Or.inl ⟨by rfl, ?_⟩) hHeld ?_ ?_
  rotate_left
  · rintro w' ⟨s0, s1, s2, s3, s4⟩
    go_simp
    with_reducible rfl
  rotate_left
  · simp only [Act.put, List.setIfInBounds_toArray, List.set_cons_zero, List.set_cons_succ, i64_w, i32_w]
    rfl
  refine one_ (i := 6) (N := some 16) #[true, true, true, true, true, true, true, false, false, false, false] rfl rfl (by kernel_rfl) (by decide) (fun K hK => ?_)
  refine value_ (w1 := ?_) (v := ?_) (by rfl) rfl ?_ ?_
  rotate_left 2
  · go_simp
    constructor
    · rfl
    · rfl
  refine hK.out _ _ ⟨hHeld.1.alloc hHeld.1.size _, pw_cell_below (hHeld.1.alloc hHeld.1.size _) G7.out, pw_cell_below (hHeld.1.alloc hHeld.1.size _) Y0.out, pw_cell_below (hHeld.1.alloc hHeld.1.size _) Y1.out, pw_cell_below (hHeld.1.alloc hHeld.1.size _) Y2.out⟩ (fun hHeld => ?_)
  clear hK K
  refine norm_ (a' := ?_) ?_ ?_
  rotate_left
  · show Act.put _ (some 16) _ = _
    simp only [Act.put, List.setIfInBounds_toArray, List.set_cons_zero, List.set_cons_succ, i64_w, i32_w]
    rfl
  refine last_ (i := 7) (N := some 17) #[true, true, true, true, true, true, true, true, false, false, false] rfl rfl (by kernel_rfl) (by decide) (fun K hK => ?_)
  refine app_ch_step (W := w2.drew) (fun k => S k ∨ x ≤ k) rfl (.tmp 14) (.tmp 16) rfl (.slice Ap np cp) D.pend ⟨name, dst, gone⟩ rfl rfl (Kd.R_move HR2.out (fun _ _ => rfl)) (by rw [← List.length_map (f := ChV.x), ← HNP.out]; have := HPL.out; omega) (fun k hk => .inr (Nat.le_trans HZ2.out hk)) ?_
  intro va wa ra ga
  have HRa := Lib.hid ra
  have HGA := Lib.hid ga
  have hgo : some g ≠ (Value.slice Ap np cp).ownBlock := fun e => by
    obtain ⟨cells, hc⟩ := Kd.R_typed HR2.out g e.symm
    exact not_cells HG2.out (by decide) _ hc
  have HGa : Hid (wa.heap[g]? = some (.cells (dcells D mf ms (.slice Ap np cp)) 80 (0, 0))) := (grown_ne ga (blk_lt HG2.out) hgo).trans HG2.out
  have fa := blk_frozen HGa.out 7
  have ka := blk_cell HGa.out 7
  obtain ⟨Aa, ca, ea⟩ := Kd.R_slice ra
  obtain ⟨na, hna⟩ : ∃ q, q = ((D.pend ++ [(⟨name, dst, gone⟩ : ChV)]).map ChV.x).length := ⟨_, rfl⟩
  rw [← hna] at ea
  subst ea
  clear ra ga hgo hna
  refine hK.out _ _ ?_
  clear hK K
  refine norm_ (a' := ?_) ?_ ?_
  rotate_left
  · show Act.put _ (some 17) _ = _
    simp only [Act.put, List.setIfInBounds_toArray, List.set_cons_zero, List.set_cons_succ, i64_w, i32_w]
    rfl
  refine pure_ (i := 8) (N := some 18) (v := ?_) (a' := ?_) #[true, true, true, true, true, true, true, true, true, false, false] rfl rfl (by kernel_rfl) (fun _ _ _ h => h) (Or.inl ⟨by rfl, ?_⟩) ?_ ?_
  rotate_left
  · intro w'
    go_simp
    with_reducible rfl
  rotate_left
  · simp only [Act.put, List.setIfInBounds_toArray, List.set_cons_zero, List.set_cons_succ, i64_w, i32_w]
    rfl
  refine pure_ (i := 9) (N := some 19) (v := ?_) (a' := ?_) #[true, true, true, true, true, true, true, true, true, true, false] rfl rfl (by kernel_rfl) (fun _ _ _ h => h) (Or.inl ⟨by rfl, ?_⟩) ?_ ?_
  rotate_left
  · intro w'
    go_simp
    with_reducible rfl
  rotate_left
  · simp only [Act.put, List.setIfInBounds_toArray, List.set_cons_zero, List.set_cons_succ, i64_w, i32_w]
    rfl
  refine last_ (i := 10) (N := none) #[true, true, true, true, true, true, true, true, true, true, true] rfl rfl (by kernel_rfl) (by decide) (fun K hK => ?_)
  refine skip_ (w1 := ?_) (by rfl) rfl ?_ ?_
  rotate_left
  · go_simp
    rfl
  refine hK.out _ _ ?_
  clear hK K
  refine done_ (by kernel_rfl) ?_
  --S4
  clear hHeld fa ka
  go_wp2
  go_end0
  --S5
  obtain ⟨w9, hw9⟩ : ∃ w9, w9 = wa.setCell ⟨g, 7, none⟩ (.slice Aa na ca) := ⟨_, rfl⟩
  rw [← hw9]
  have h9 : ∀ k, k ≠ g → w9.heap[k]? = wa.heap[k]? := fun k hk => by rw [hw9]; exact Below.heap_setCell _ _ _ _ hk
  have h9g : w9.heap[g]? = some (.cells (dcells D mf ms (.slice Aa na ca)) 80 (0, 0)) := by rw [hw9]; exact (blk_set HGa.out 7 _).trans rfl
  have h9f : Foot (fun k => S k ∨ x ≤ k) w w9 := by
    rw [hw9]
    have f1 : Foot (fun k => S k ∨ x ≤ k) w W := Foot.of_below HB0.out
    have f2 : Foot (fun k => S k ∨ x ≤ k) W w2 := (Foot.of_below HB1.out).trans (HF2.out.mono (fun k _ hk => .inl (by rw [hk]; exact HMF.out)))
    have f3 : Foot (fun k => S k ∨ x ≤ k) w2 wa := (Foot.of_below (below_drew (Below.refl _ _))).trans (Foot.of_grown HGA.out (fun k hk => HR2.out.1 k hk))
    exact ((f1.trans f2).trans f3).setCell (.inl HSG.out) _ _
  exact ⟨rfl, turns_end (W := W) (w2 := w2.drew) (wa := wa) hc HXW.out HOK.out HSG.out HMF.out HMS.out HNE.out HFL.out HM6.out (HD2.out.block rfl) HKP.out HR2.out HGA.out HRa.out HG.out h9 h9g h9f (blk_lt HG.out) HM5.out HS.out HGa.out⟩
end Go.Proofs.YtononoakdebjeaaGreatDoor.Dk
