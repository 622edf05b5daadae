/- graph.(*Graph).reached: a queue in a channel (walk). -/
import Derived.Test.YtifbkojapfighaaGrOrder
import Derived.Test.YtifbkojapfighaaGrIter
import Derived.Test.YtifbkojapfighaaChan
namespace Go.Proofs.Ytifbkojapfighaa.Gr
open Go.RowKit Go.Proofs.YtifbkojapfighaaW.PrintWords Go.Proofs.YtifbkojapfighaaW.PrintLast Go.Proofs.Ytifbkojapfighaa.Base Go.Maps Go.Conc Go.Proofs.Ytifbkojapfighaa.Chan
set_option linter.unusedVariables false
set_option linter.unusedSimpArgs false

/-- All that some need, and these. -/
inductive Reach (ah : List (List Nat)) (fr : List Nat) : Nat → Prop
  | base (n : Nat) : n ∈ fr → Reach ah fr n
  | step (n k : Nat) : Reach ah fr n → k ∈ ah.getD n [] → Reach ah fr k
/-- A rising row of them. -/
structure IsReach (ah : List (List Nat)) (fr l : List Nat) : Prop where
  up : l.Pairwise (· < ·)
  mem : ∀ n, n ∈ l ↔ Reach ah fr n
/-- One is met: what is known, what waits. -/
def mt (s : List Nat × List Nat) (n : Nat) : List Nat × List Nat := if n ∈ s.1 then s else (s.1 ++ [n], s.2 ++ [n])
theorem mt_snoc (s : List Nat × List Nat) (l : List Nat) (n : Nat) : (l ++ [n]).foldl mt s = mt (l.foldl mt s) n := by rw [List.foldl_append]; rfl
theorem mt_inv (l : List Nat) : ∀ s : List Nat × List Nat, s.1.Nodup → (∀ n ∈ l.foldl mt s |>.1, n ∈ s.1 ∨ n ∈ l) ∧ (∀ n, n ∈ s.1 ∨ n ∈ l → n ∈ (l.foldl mt s).1) ∧ (l.foldl mt s).1.Nodup ∧ ∃ m, (l.foldl mt s).1 = s.1 ++ m ∧ (l.foldl mt s).2 = s.2 ++ m := by
  induction l with
  | nil => exact fun s hs => ⟨fun n hn => .inl hn, fun n hn => hn.elim id (fun h => by cases h), hs, [], by simp, by simp⟩
  | cons a l ih =>
    intro s hs
    rw [List.foldl_cons]
    by_cases ha : a ∈ s.1
    · have e : mt s a = s := if_pos ha
      rw [e]
      obtain ⟨h1, h2, h3, m, h4, h5⟩ := ih s hs
      refine ⟨fun n hn => (h1 n hn).imp id (List.mem_cons_of_mem _), fun n hn => ?_, h3, m, h4, h5⟩
      rcases hn with h | h
      · exact h2 n (.inl h)
      · rcases List.mem_cons.1 h with rfl | h
        · exact h2 n (.inl ha)
        · exact h2 n (.inr h)
    · have e : mt s a = (s.1 ++ [a], s.2 ++ [a]) := if_neg ha
      rw [e]
      have hs2 : (s.1 ++ [a]).Nodup := by
        rw [List.nodup_append]
        exact ⟨hs, by simp, fun x hx y hy e => by rw [List.mem_singleton.1 hy] at e; exact ha (e ▸ hx)⟩
      obtain ⟨h1, h2, h3, m, h4, h5⟩ := ih (s.1 ++ [a], s.2 ++ [a]) hs2
      refine ⟨fun n hn => ?_, fun n hn => ?_, h3, a :: m, by rw [h4]; simp, by rw [h5]; simp⟩
      · rcases h1 n hn with h | h
        · rcases List.mem_append.1 h with h | h
          · exact .inl h
          · exact .inr (by rw [List.mem_singleton.1 h]; simp)
        · exact .inr (List.mem_cons_of_mem _ h)
      · rcases hn with h | h
        · exact h2 n (.inl (List.mem_append_left _ h))
        · rcases List.mem_cons.1 h with rfl | h
          · exact h2 n (.inl (List.mem_append_right _ (by simp)))
          · exact h2 n (.inr h)
/-- A queue's buffer. -/
abbrev qbuf (q : List Nat) : Array Value := (q.map fun n : Nat => Value.int .i64 (n : Int)).toArray
theorem qbuf_push (q : List Nat) (n : Nat) : (qbuf q).push (.int .i64 (n : Int)) = qbuf (q ++ [n]) := by simp [qbuf]
theorem qbuf_pop (q : List Nat) (n : Nat) : (qbuf (n :: q)).extract 1 (qbuf (n :: q)).size = qbuf q := by simp [qbuf, List.take_of_length_le]
theorem qbuf_head (q : List Nat) (n : Nat) : (qbuf (n :: q)).getD 0 undef = .int .i64 (n : Int) := by simp [qbuf]
theorem qbuf_size (q : List Nat) : (qbuf q).size = q.length := by simp [qbuf]
/-- The search under way. -/
structure Mt (w0 w : World) (x5 mb x6 cb cap : Nat) (s : List Nat × List Nat) : Prop where
  c5 : w.heap[x5]? = some (.cells #[.map (some mb)] 90 (0, 0))
  c6 : w.heap[x6]? = some (.cells #[.chan (some cb)] 93 (0, 0))
  ch : ∃ a r, w.heap[cb]? = some (.chan cap (qbuf s.2) false a r false) ∧ r + s.2.length = s.1.length
  mp : ∃ n, n ≤ s.1.length ∧ SMap w mb n s.1
  below : Below w0.heap.size w0 w
  h5 : w0.heap.size ≤ x5
  hm : w0.heap.size ≤ mb
  h6 : w0.heap.size ≤ x6
  hc : w0.heap.size ≤ cb
section
variable {w0 w w1 : World} {x5 mb x6 cb cap : Nat} {s : List Nat × List Nat}
theorem Mt.moved (h : Mt w0 w x5 mb x6 cb cap s) (hb : Below w.heap.size w w1) : Mt w0 w1 x5 mb x6 cb cap s := by
  obtain ⟨a, r, h1, h2⟩ := h.ch
  obtain ⟨n, h3, h4⟩ := h.mp
  have hlt : ∀ k o, w.heap[k]? = some o → k < w.heap.size := fun k o e => (Array.getElem?_eq_some_iff.1 e).1
  exact ⟨(hb.block _ (blk_lt h.c5)).trans h.c5, (hb.block _ (blk_lt h.c6)).trans h.c6, ⟨a, r, (hb.block _ (hlt _ _ h1)).trans h1, h2⟩, ⟨n, h3, VMap.below h4 hb⟩, h.below.trans (hb.mono h.below.size), h.h5, h.hm, h.h6, h.hc⟩
/-- Its number is put into the map. -/
theorem Mt.stored (h : Mt w0 w x5 mb x6 cb cap s) (k : Nat) (hk : k < 9223372036854775808) (ho : s.1.length ≤ 1000000) (hn : k ∉ s.1) :
    ∃ w1, (Instr.mapUpdate 90 (.map (some mb)) (.int .i64 (k : Int)) (.bool true)).run Try.prog w = .ok () w1 ∧ w1.heap[x5]? = some (.cells #[.map (some mb)] 90 (0, 0)) ∧ w1.heap[x6]? = some (.cells #[.chan (some cb)] 93 (0, 0)) ∧
      (∃ a r, w1.heap[cb]? = some (.chan cap (qbuf s.2) false a r false) ∧ r + s.2.length = s.1.length) ∧ (∃ n, n ≤ (s.1 ++ [k]).length ∧ SMap w1 mb n (s.1 ++ [k])) ∧ Below w0.heap.size w0 w1 := by
  obtain ⟨n, hn1, hm⟩ := h.mp
  obtain ⟨w1, r1, m1, g1, z1⟩ := VMap.store hm keyed_i Try.underlying90 (by simp only [maxLen]; omega) (s := k) (keyOf_i hk) (ikey_lit k) (fun s' h => ikey_inj h) (.bool true)
  obtain ⟨a, r, hc1, hc2⟩ := h.ch
  have hlt : cb < w.heap.size := (Array.getElem?_eq_some_iff.1 hc1).1
  have hcm : cb ≠ mb := by
    rintro rfl
    obtain ⟨D, ⟨es, clock, hb, _⟩, _⟩ := hm
    rw [hb] at hc1
    cases hc1
  refine ⟨w1, r1, (g1.block _ (blk_lt h.c5) (fun e => VMap.ne hm h.c5 (Option.some.inj e).symm)).trans h.c5, (g1.block _ (blk_lt h.c6) (fun e => VMap.ne hm h.c6 (Option.some.inj e).symm)).trans h.c6, ⟨a, r, (g1.block _ hlt (fun e => hcm (Option.some.inj e))).trans hc1, hc2⟩, ⟨_, ?_, VMap.congr m1 fun s' => ?_⟩, h.below.grown g1 h.below.size (fun q hq => by rw [← Option.some.inj hq]; exact h.hm)⟩
  · rw [List.length_append, List.length_singleton]
    have h9 : ∀ p : Prop, ∀ _ : Decidable p, (if p then n else n + 1) ≤ n + 1 := fun p _ => by split <;> omega
    exact Nat.le_trans (h9 _ _) (by omega)
  · by_cases e : s' = k
    · rw [e, if_pos rfl, if_pos (by simp)]
    · rw [if_neg e]
      by_cases hs : s' ∈ s.1
      · rw [if_pos hs, if_pos (List.mem_append_left _ hs)]
      · rw [if_neg hs, if_neg (fun h => by rcases List.mem_append.1 h with h | h; exact hs h; exact e (List.mem_singleton.1 h))]
end
theorem setChan_other (w : World) (c c' cap : Nat) (buf : Array Value) (cl : Bool) (s r : Nat) (tm : Bool) (h : c ≠ c') : (w.setChan c cap buf cl s r tm).heap[c']? = w.heap[c']? := by
  simp [World.setChan, Array.getElem?_setIfInBounds_ne h]
theorem Mt.chan {w0 w : World} {x5 mb x6 cb cap a r : Nat} {s : List Nat × List Nat} (h5 : w.heap[x5]? = some (.cells #[.map (some mb)] 90 (0, 0))) (h6 : w.heap[x6]? = some (.cells #[.chan (some cb)] 93 (0, 0))) {buf : Array Value} {a0 r0 : Nat} (hc : w.heap[cb]? = some (.chan cap buf false a0 r0 false))
    (hm : ∃ n, n ≤ s.1.length ∧ SMap w mb n s.1) (hb : Below w0.heap.size w0 w) (g5 : w0.heap.size ≤ x5) (gm : w0.heap.size ≤ mb) (g6 : w0.heap.size ≤ x6) (gc : w0.heap.size ≤ cb) (hr : r + s.2.length = s.1.length) :
    Mt w0 (w.setChan cb cap (qbuf s.2) false a r false) x5 mb x6 cb cap s := by
  have hlt : cb < w.heap.size := (Array.getElem?_eq_some_iff.1 hc).1
  have n5 : cb ≠ x5 := by rintro rfl; rw [h5] at hc; cases hc
  have n6 : cb ≠ x6 := by rintro rfl; rw [h6] at hc; cases hc
  obtain ⟨n, hn, hm⟩ := hm
  have nm : cb ≠ mb := by
    rintro rfl
    obtain ⟨D, ⟨es, clock, hb, _⟩, _⟩ := hm
    rw [hb] at hc
    cases hc
  exact ⟨(setChan_other _ _ _ _ _ _ _ _ _ n5).trans h5, (setChan_other _ _ _ _ _ _ _ _ _ n6).trans h6, ⟨a, r, heap_setChan _ _ _ _ _ _ _ _ hlt, hr⟩, ⟨n, hn, VMap.block hm (setChan_other _ _ _ _ _ _ _ _ _ nm)⟩, below_setChan hb gc _ _ _ _ _ _, g5, gm, g6, gc⟩
set_option maxRecDepth 100000 in
set_option maxHeartbeats 4000000 in
theorem meet_any (w0 : World) (x5 mb x6 cb N : Nat) (s : List Nat × List Nat) (v : Value) (l : List Nat) (w : World) (h : Mt w0 w x5 mb x6 cb (N + 1) s) (hv : Is w v l) (hl : ∀ n ∈ l, n < N) (hs : s.1.Nodup) (hsN : ∀ n ∈ s.1, n < N) (hq : s.2.length ≤ s.1.length) (hN : N ≤ 1000000) (hv0 : Is w0 v l) :
    Calls Try.prog 55 #[v, .pointer (some ⟨x5, 0, none⟩), .pointer (some ⟨x6, 0, none⟩)] w fun e w' => e = .returned (.tuple #[]) ∧ Mt w0 w' x5 mb x6 cb (N + 1) (l.foldl mt s) := by
  obtain ⟨A, c, rfl, hc, hm⟩ := hv.len
  obtain ⟨n, hn⟩ : ∃ n, n = l.length := ⟨_, rfl⟩
  rw [← hn] at hc hm hv hv0 ⊢
  have HV := Lib.hid hv0
  have HN := Lib.hid hn
  have HM := Lib.hid h
  have HL := Lib.hid hl
  have HS : Hid (s.1.Nodup ∧ (∀ n ∈ s.1, n < N) ∧ s.2.length ≤ s.1.length) := ⟨hs, hsN, hq⟩
  clear hv hv0 hn h hl hs hsN hq
  go_enter Try.func55, Try.ntmps55
  go_wp2
  go_loopw [8] (fun i wr => ∃ k : Nat, k ≤ n ∧ i = .int .i64 k ∧ Hid (Mt w0 wr x5 mb x6 cb (N + 1) ((l.take k).foldl mt s))) (fun i _ => n - (intOf i).toNat)
  case atStart => exact ⟨0, by omega, rfl, by rw [List.take_zero]; exact HM.out⟩
  case round =>
    obtain ⟨k, hk, rfl, HK⟩ := hrel
    by_cases l1 : k < n
    · have hkl : k < l.length := by rw [← HN.out]; exact l1
      obtain ⟨ad, e1, q0⟩ := HV.out.get k hkl
      subst e1
      have q := pw_cell_below HK.out.below q0
      obtain ⟨hTK, hmem⟩ := take_at l 0 k hkl
      have hy := HL.out _ hmem
      have HTK : Hid ((l.take (k + 1)).foldl mt s = mt ((l.take k).foldl mt s) (l.getD k 0)) := by show _ = _; rw [hTK, mt_snoc]
      have HINV := Lib.hid (mt_inv (l.take k) s HS.out.1)
      have HLN : Hid ((∀ z ∈ ((l.take k).foldl mt s).1, z < N) ∧ ((l.take k).foldl mt s).2.length ≤ ((l.take k).foldl mt s).1.length) := by
        obtain ⟨h1, _, _, m, h4, h5⟩ := HINV.out
        refine ⟨fun z hz => ?_, ?_⟩
        · rcases h1 z hz with h | h
          · exact HS.out.2.1 z h
          · exact HL.out z (List.mem_of_mem_take h)
        · rw [h4, h5, List.length_append, List.length_append]
          have := HS.out.2.2
          omega
      have hlen : ((l.take k).foldl mt s).1.length ≤ N := by
        have h := nodup_sub_len HINV.out.2.2.1 (m := List.range N) (fun x hx => List.mem_range.2 (HLN.out.1 x hx))
        rwa [List.length_range] at h
      have HLE := Lib.hid hlen
      clear q0 hkl hTK hmem hlen
      generalize l.getD k 0 = y at q hy HTK
      obtain ⟨st, hst⟩ : ∃ st, st = (l.take k).foldl mt s := ⟨_, rfl⟩
      rw [← hst] at HK HTK HINV HLN HLE
      clear hst
      have m5 := blk_cell HK.out.c5 0
      obtain ⟨nm, hnm, hmm⟩ := HK.out.mp
      have hlk := hmm.look y (by omega)
      clear hnm hmm
      by_cases hd : y ∈ st.1
      · have hdd : decide (y ∈ st.1) = true := decide_eq_true hd
        have HK2 : Hid (Mt w0 wr x5 mb x6 cb (N + 1) ((l.take (k + 1)).foldl mt s)) := by
          show Mt _ _ _ _ _ _ _ _
          rw [HTK.out]
          have e : mt st y = st := if_pos hd
          rw [e]
          exact HK.out
        rw [hdd] at hlk
        clear hd hdd
        go_wp2
        go_roundw
        case rel => exact ⟨k + 1, by omega, by go_num, HK2.out⟩
        case measure => simp [intOf]; omega
      have hdd : decide (y ∈ st.1) = false := decide_eq_false hd
      rw [hdd] at hlk
      have HND := Lib.hid hd
      have HMS : Hid (mt st y = (st.1 ++ [y], st.2 ++ [y])) := if_neg hd
      clear hd hdd
      obtain ⟨w1, hrun, h5, h6, ⟨a, r, hch, hr⟩, hmp, hb⟩ := HK.out.stored y (by omega) (by have := HLE.out; omega) HND.out
      have HRUN := Lib.hid hrun
      have H5 := Lib.hid h5
      have H6 := Lib.hid h6
      have HCH := Lib.hid hch
      have HR := Lib.hid hr
      have HMP := Lib.hid hmp
      have HB := Lib.hid hb
      clear hrun h5 h6 hch hr hmp hb
      go_wp2_with (with_reducible refine gate_ (.mapUpdate 90 (.tmp 16) (.tmp 17) (.const (.bool true))) rfl ?_; refine Held.of ?_)
      refine Held.out (Held.out (Held.of (upd_at rfl (.tmp 16) (.tmp 17) (.const (.bool true)) 90 rfl mb (.int .i64 (y : Int)) (.bool true) rfl rfl rfl HRUN.out ?_)))
      clear hlk m5
      go_upto_region 5 with (fail)
      have m6 := blk_cell H6.out 0
      refine RW.region ?_
      show RW _ _ [0, 1, 2] _ _ _
      refine RW.value (v := .chan (some cb)) (w' := w1) rfl rfl (by go_simp) ?_
      refine RW.value (v := .int .i64 (y : Int)) (w' := w1) rfl rfl (by go_simp) ?_
      refine RW.send (c := cb) (cap := N + 1) (buf := qbuf st.2) (v := .int .i64 (y : Int)) (z := .tuple #[]) rfl rfl (by simp [execOp, scase, Act.eval, Act.put]) HCH.out (by rw [qbuf_size]; have h1 := HLN.out.2; have h2 := HLE.out; omega) ?_
      refine RW.done ?_
      rw [qbuf_push]
      have HK2 : Hid (Mt w0 (w1.setChan cb (N + 1) (qbuf (st.2 ++ [y])) false (a + 1) r false) x5 mb x6 cb (N + 1) ((l.take (k + 1)).foldl mt s)) := by
        show Mt _ _ _ _ _ _ _ _
        rw [HTK.out, HMS.out]
        exact Mt.chan (s := (st.1 ++ [y], st.2 ++ [y])) H5.out H6.out HCH.out HMP.out HB.out HK.out.h5 HK.out.hm HK.out.h6 HK.out.hc (by have := HR.out; simp only [List.length_append, List.length_singleton]; omega)
      generalize w1.setChan cb (N + 1) (qbuf (st.2 ++ [y])) false (a + 1) r false = w2 at HK2 ⊢
      clear m6 q
      simp only [Exit.inBlock, Exit.then]
      go_wp2
      go_roundw
      case rel => exact ⟨k + 1, by omega, by go_num, HK2.out⟩
      case measure => simp [intOf]; omega
    · have hk2 : k = n := by omega
      have HKE : Hid (Mt w0 wr x5 mb x6 cb (N + 1) (l.foldl mt s)) := by
        have h := HK.out
        rw [hk2, HN.out, List.take_length] at h
        exact h
      clear hk2
      go_wp2
      --S9
      go_end0
      exact ⟨rfl, HKE.out⟩
end Go.Proofs.Ytifbkojapfighaa.Gr
