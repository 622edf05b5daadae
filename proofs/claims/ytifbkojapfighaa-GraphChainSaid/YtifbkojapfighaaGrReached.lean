/- graph.(*Graph).reached (walk). -/
import Derived.Test.YtifbkojapfighaaGrReach
import Derived.Lib.SlKeysI
namespace Go.Proofs.Ytifbkojapfighaa.Gr
open Go.RowKit Go.Proofs.YtifbkojapfighaaW.PrintWords Go.Proofs.YtifbkojapfighaaW.PrintLast Go.Proofs.Ytifbkojapfighaa.Base Go.Maps Go.Conc Go.Proofs.Ytifbkojapfighaa.Chan
set_option linter.unusedVariables false
set_option linter.unusedSimpArgs false

theorem chan_bytes : ∃ i, Try.prog.info? 3 = some i ∧ i.bytes = 8 := by
  have h : (Try.prog.info? 3).map (·.bytes) = some 8 := by kernel_rfl
  obtain ⟨i, hi, hb⟩ := Option.map_eq_some_iff.1 h
  exact ⟨i, hi, hb⟩
theorem mk_chan (N : Nat) (hN : N ≤ 1000000) (w : World) : (Instr.makeChan 93 (.int .i64 ((N : Int) + 1))).run Try.prog w = .ok (.chan (some w.heap.size)) (w.alloc (.chan (N + 1) #[] false 0 0 false)) := by
  obtain ⟨i, hi, hb⟩ := chan_bytes
  have h := run_makeChan (P := Try.prog) (w := w) Try.underlying93 hi .i64 (N + 1) (by omega) (by rw [hb]; omega)
  exact h
/-- How many have been taken out of a channel. -/
def takenOf (w : World) (c : Nat) : Nat := match w.heap[c]? with
  | some (.chan _ _ _ _ r _) => r
  | _ => 0
theorem takenOf_of {w : World} {c cap a r : Nat} {buf : Array Value} (h : w.heap[c]? = some (.chan cap buf false a r false)) : takenOf w c = r := by
  unfold takenOf
  rw [h]
/-- The search under way, plainly. -/
structure Rs2 (ah : List (List Nat)) (fr : List Nat) (N : Nat) (s : List Nat × List Nat) : Prop where
  nd : s.1.Nodup
  lt : ∀ n ∈ s.1, n < N
  reach : ∀ n ∈ s.1, Reach ah fr n
  from_ : ∀ n ∈ fr, n ∈ s.1
  split : ∃ done, s.1 = done ++ s.2 ∧ ∀ n ∈ done, ∀ k ∈ ah.getD n [], k ∈ s.1
theorem Rs2.start (ah : List (List Nat)) (fr : List Nat) (N : Nat) (hfr : ∀ n ∈ fr, n < N) : Rs2 ah fr N (fr.foldl mt ([], [])) := by
  obtain ⟨h1, h2, h3, m, h4, h5⟩ := mt_inv fr ([], []) List.nodup_nil
  have h1' : ∀ n ∈ (fr.foldl mt ([], [])).1, n ∈ fr := fun n hn => (h1 n hn).elim (fun h => by cases h) id
  exact ⟨h3, fun n hn => hfr n (h1' n hn), fun n hn => .base n (h1' n hn), fun n hn => h2 n (.inr hn), [], by rw [h4, h5]; simp, fun n hn => by cases hn⟩
theorem Rs2.next {ah : List (List Nat)} {fr : List Nat} {N n : Nat} {out q : List Nat} (h : Rs2 ah fr N (out, n :: q)) (hk : ∀ k ∈ ah.getD n [], k < N) : Rs2 ah fr N ((ah.getD n []).foldl mt (out, q)) := by
  obtain ⟨done, hd, hc⟩ := h.split
  have hd : out = done ++ n :: q := hd
  have hn : n ∈ out := by rw [hd]; simp
  obtain ⟨h1, h2, h3, m, h4, h5⟩ := mt_inv (ah.getD n []) (out, q) h.nd
  refine ⟨h3, fun z hz => (h1 z hz).elim (h.lt z) (hk z), fun z hz => (h1 z hz).elim (h.reach z) (fun hz => .step n z (h.reach n hn) hz), fun z hz => h2 z (.inl (h.from_ z hz)), done ++ [n], ?_, fun z hz => ?_⟩
  · rw [h4, h5]
    show out ++ m = _
    rw [hd]
    simp
  · rcases List.mem_append.1 hz with h6 | h6
    · exact fun k hk => h2 k (.inl (hc z h6 k hk))
    · rw [List.mem_singleton.1 h6]
      exact fun k hk => h2 k (.inr hk)
theorem Rs2.len {ah : List (List Nat)} {fr : List Nat} {N : Nat} {s : List Nat × List Nat} (h : Rs2 ah fr N s) : s.1.length ≤ N := by
  have h2 := nodup_sub_len h.nd (m := List.range N) (fun x hx => List.mem_range.2 (h.lt x hx))
  rwa [List.length_range] at h2
theorem Rs2.all {ah : List (List Nat)} {fr : List Nat} {N : Nat} {out : List Nat} (h : Rs2 ah fr N (out, [])) : ∀ n, n ∈ out ↔ Reach ah fr n := by
  obtain ⟨done, hd, hc⟩ := h.split
  have hd : out = done ++ [] := hd
  rw [List.append_nil] at hd
  refine fun n => ⟨h.reach n, fun hr => ?_⟩
  induction hr with
  | base n hn => exact h.from_ n hn
  | step n k _ hk ih => exact hc n (by rw [← hd]; exact ih) k hk
/-- What is sorted is the rising row of the set. -/
theorem sorted_ints {out : List Nat} {ss : List Int} (hnd : out.Nodup) (hp : ss.Perm (ints out)) : ∃ l : List Nat, ss.mergeSort leI = ints l ∧ l.Pairwise (· < ·) ∧ ∀ n, n ∈ l ↔ n ∈ out := by
  have tr : ∀ a b c : Int, leI a b = true → leI b c = true → leI a c = true := fun a b c h1 h2 => by simp only [leI, decide_eq_true_eq] at *; exact Int.le_trans h1 h2
  have tot : ∀ a b : Int, (leI a b || leI b a) = true := fun a b => by simp only [leI, Bool.or_eq_true, decide_eq_true_eq]; exact Int.le_total a b
  have h1 := List.pairwise_mergeSort tr tot ss
  have h2 : (ss.mergeSort leI).Perm (ints out) := (List.mergeSort_perm ss leI).trans hp
  generalize ss.mergeSort leI = zs at h1 h2
  have h3 : ∀ z ∈ zs, 0 ≤ z := fun z hz => by
    obtain ⟨n, _, rfl⟩ := List.mem_map.1 (h2.mem_iff.1 hz)
    exact Int.natCast_nonneg n
  have h4 : zs = ints (zs.map Int.toNat) := by
    unfold ints
    rw [List.map_map]
    conv => lhs; rw [← List.map_id zs]
    apply List.map_congr_left
    intro z hz
    exact (Int.toNat_of_nonneg (h3 z hz)).symm
  have hndi : zs.Nodup := by
    refine (h2.nodup_iff).2 ?_
    unfold ints
    exact List.pairwise_map.2 (hnd.imp fun {a b} hne e => hne (Int.ofNat.inj e))
  refine ⟨zs.map Int.toNat, h4, List.pairwise_map.2 ?_, fun n => ?_⟩
  · refine List.Pairwise.imp_of_mem ?_ (h1.and (List.nodup_iff_pairwise_ne.1 hndi))
    rintro a b ha hb ⟨hab, hne⟩
    simp only [leI, decide_eq_true_eq] at hab
    have := h3 a ha
    have := h3 b hb
    omega
  · rw [List.mem_map]
    constructor
    · rintro ⟨z, hz, rfl⟩
      obtain ⟨m, hm, rfl⟩ := List.mem_map.1 (h2.mem_iff.1 hz)
      simpa using hm
    · intro hn
      exact ⟨(n : Int), h2.mem_iff.2 (List.mem_map_of_mem hn), rfl⟩
theorem smap_keys {w : World} {b n : Nat} {out : List Nat} (h : SMap w b n out) (hnd : out.Nodup) : ∃ D : DataW Value, w.ownsMap Try.prog 3 VH b n D ∧ Maps.size D = n ∧ ∀ ss : List Int, ss.Perm (intKeys D) → ss.Perm (ints out) := by
  obtain ⟨D, h1, h2, h3, h4, h5⟩ := h
  refine ⟨D, h1, h2, fun ss hp => hp.trans ?_⟩
  have hc : CollectedI D (fun _ => false) (ints out) := by
    refine ⟨?_, fun x => ?_⟩
    · unfold ints
      exact List.pairwise_map.2 (hnd.imp fun {a b} hne e => hne (Int.ofNat.inj e))
    · constructor
      · intro hx
        obtain ⟨m, hm, rfl⟩ := List.mem_map.1 hx
        have h6 : Maps.has D (ikey m) = (if m ∈ out then some (Value.bool true) else none).isSome := h3 m
        rw [if_pos hm] at h6
        exact ⟨h6, rfl⟩
      · rintro ⟨hx, _⟩
        obtain ⟨m, hm⟩ := h5 _ hx
        have hm2 : (m : Int) = x := by
          unfold ikey at hm
          injection hm
        subst hm2
        have h6 : Maps.has D (ikey m) = (if m ∈ out then some (Value.bool true) else none).isSome := h3 m
        have hx : Maps.has D (ikey m) = true := hx
        rw [hx] at h6
        by_cases hmo : m ∈ out
        · exact List.mem_map_of_mem hmo
        · rw [if_neg hmo] at h6; cases h6
  exact (hc.perm h1 keyed_i Try.underlying3 (fun _ => rfl)).symm
set_option maxRecDepth 100000 in
set_option maxHeartbeats 4000000 in
theorem reached_any (g N ce : Nat) (Ae : Option Addr) (va : Value) (ah : List (List Nat)) (v : Value) (fr : List Nat) (w : World) (h0 : w.cell? ⟨g, 0, none⟩ = some (.slice Ae N ce)) (h3 : w.cell? ⟨g, 3, none⟩ = some va) (hA : Iss w va ah) (hal : ah.length = N) (hv : Is w v fr) (hfr : ∀ n ∈ fr, n < N) (hk : ∀ r ∈ ah, ∀ k ∈ r, k < N) (hN : N ≤ 1000000) :
    Calls Try.prog 43 #[.pointer (some ⟨g, 0, none⟩), v] w fun e w' => ∃ v' l, e = .returned v' ∧ IsReach ah fr l ∧ Ir w.heap.size w' v' l ∧ Below w.heap.size w w' := by
  have hmm := @run_makeMap Try.prog
  have hmc := mk_chan N hN
  obtain ⟨A, c, rfl, hc, hm⟩ := hv.len
  obtain ⟨n, hn⟩ : ∃ n, n = fr.length := ⟨_, rfl⟩
  rw [← hn] at hc hm hv ⊢
  obtain ⟨Aa, ca, rfl, hca, hma⟩ := hA.len
  rw [hal] at h3 hA hca hma
  have HV := Lib.hid hv
  have HA := Lib.hid hA
  have HAL := Lib.hid hal
  have HFR := Lib.hid hfr
  have HK := Lib.hid hk
  have H0 := Lib.hid h0
  have H3 := Lib.hid h3
  obtain ⟨x, hx⟩ : ∃ x, w.heap.size = x := ⟨_, rfl⟩
  obtain ⟨w1, hw1⟩ : ∃ w1, w1 = (((w.alloc (.map #[] 0)).alloc (.cells #[.map (some x)] 90)).alloc (.chan (N + 1) #[] false 0 0 false)).alloc (.cells #[.chan (some (x + 1 + 1))] 93) := ⟨_, rfl⟩
  have HM0 : Hid (Mt w w1 (x + 1) x (x + 1 + 1 + 1) (x + 1 + 1) (N + 1) ([], [])) := by
    have s1 : (w.alloc (.map #[] 0)).heap.size = x + 1 := by rw [← hx]; simp
    have s2 : ((w.alloc (.map #[] 0)).alloc (.cells #[.map (some x)] 90)).heap.size = x + 1 + 1 := by simp [hx]
    have s3 : (((w.alloc (.map #[] 0)).alloc (.cells #[.map (some x)] 90)).alloc (.chan (N + 1) #[] false 0 0 false)).heap.size = x + 1 + 1 + 1 := by simp [hx]
    have b1 := below_alloc (Below.refl w.heap.size w) (.map #[] 0)
    have b2 := below_alloc b1 (.cells #[.map (some x)] 90)
    have b3 := below_alloc b2 (.chan (N + 1) #[] false 0 0 false)
    have b4 := below_alloc b3 (.cells #[.chan (some (x + 1 + 1))] 93)
    have m1 := VMap.made w 3 ikey
    have c1 := below_alloc (Below.refl (w.alloc (.map #[] 0)).heap.size (w.alloc (.map #[] 0))) (.cells #[.map (some x)] 90)
    have c2 := below_alloc c1 (.chan (N + 1) #[] false 0 0 false)
    have c3 := below_alloc c2 (.cells #[.chan (some (x + 1 + 1))] 93)
    have d1 := blk_new (w.alloc (.map #[] 0)) (.cells #[.map (some x)] 90)
    rw [s1] at d1
    have e2 := below_alloc (Below.refl ((w.alloc (.map #[] 0)).alloc (.cells #[.map (some x)] 90)).heap.size ((w.alloc (.map #[] 0)).alloc (.cells #[.map (some x)] 90))) (.chan (N + 1) #[] false 0 0 false)
    have e3 := below_alloc e2 (.cells #[.chan (some (x + 1 + 1))] 93)
    have d2 := heap_alloc_new ((w.alloc (.map #[] 0)).alloc (.cells #[.map (some x)] 90)) (.chan (N + 1) #[] false 0 0 false)
    rw [s2] at d2
    have f3 := below_alloc (Below.refl (((w.alloc (.map #[] 0)).alloc (.cells #[.map (some x)] 90)).alloc (.chan (N + 1) #[] false 0 0 false)).heap.size (((w.alloc (.map #[] 0)).alloc (.cells #[.map (some x)] 90)).alloc (.chan (N + 1) #[] false 0 0 false))) (.cells #[.chan (some (x + 1 + 1))] 93)
    have d3 := blk_new (((w.alloc (.map #[] 0)).alloc (.cells #[.map (some x)] 90)).alloc (.chan (N + 1) #[] false 0 0 false)) (.cells #[.chan (some (x + 1 + 1))] 93)
    rw [s3] at d3
    have mm := VMap.below m1 c3
    rw [hx] at mm
    show Mt _ _ _ _ _ _ _ _
    rw [hw1]
    exact ⟨(e3.block _ (blk_lt d1)).trans d1, d3, ⟨0, 0, (f3.block _ (by rw [s3]; omega)).trans d2, rfl⟩, ⟨0, Nat.le_refl _, VMap.congr mm fun s => by simp⟩, b4, by omega, by omega, by omega, by omega⟩
  have HW := Lib.hid hw1
  have HX := Lib.hid hx
  clear hv hn h0 h3 hA hal hfr hk hw1
  go_enter Try.func43, Try.ntmps43
  have q0 : ((w.alloc (.map #[] 0)).alloc (.cells #[.map (some x)] 90)).cell? ⟨g, 0, none⟩ = some (.slice Ae N ce) := pw_cell_below (below_alloc (below_alloc (Below.refl w.heap.size w) (.map #[] 0)) (.cells #[.map (some x)] 90)) H0.out
  go_wp2_with fail
  rw [← HW.out]
  clear q0
  --S1
  refine (meet_any w (x + 1) x (x + 1 + 1 + 1) (x + 1 + 1) N ([], []) _ fr _ HM0.out (HV.out.below HM0.out.below) HFR.out List.nodup_nil (fun n hn => by cases hn) (Nat.le_refl _) hN HV.out).mono ?_
  rintro e w2 ⟨rfl, hm2⟩
  have HM2 := Lib.hid hm2
  have HR2 := Lib.hid (Rs2.start ah fr N HFR.out)
  generalize fr.foldl mt ([], []) = s2 at HM2 HR2
  clear hm2
  go_wp2
  --S2
  go_loopw [] (fun wr => ∃ s : List Nat × List Nat, Hid (Mt w wr (x + 1) x (x + 1 + 1 + 1) (x + 1 + 1) (N + 1) s) ∧ Hid (Rs2 ah fr N s)) (fun wr => N + 1 - takenOf wr (x + 1 + 1))
  case atStart => exact ⟨s2, HM2.out, HR2.out⟩
  case round =>
    clear HM2 HR2 s2
    obtain ⟨⟨out, q⟩, HM, HR⟩ := hrel
    obtain ⟨a, r, hch, hrl⟩ := HM.out.ch
    have HCH := Lib.hid hch
    have hlen : out.length ≤ N := HR.out.len
    have hrl : r + q.length = out.length := hrl
    have HTK : Hid (takenOf wr (x + 1 + 1) = r) := takenOf_of hch
    have c6 := blk_cell HM.out.c6 0
    clear hch
    go_upto_region 6 with (fail)
    --S3
    refine RW.region ?_
    show RW _ _ [0, 1, 2] _ _ _
    cases q with
    | nil =>
      refine RW.none_ (c := x + 1 + 1) (cap := N + 1) (z := .int .i64 0) rfl rfl (by simp [execOp, rcase, Act.eval, Act.put]) HCH.out ?_
      refine RW.value (v := .int .i64 (-1)) (w' := wr) rfl rfl (by go_simp) ?_
      refine RW.value (v := .bool false) (w' := wr) rfl rfl (by go_simp) ?_
      refine RW.done ?_
      have HALL := Lib.hid HR.out.all
      obtain ⟨nm, hnm, hmm2⟩ := HM.out.mp
      obtain ⟨D, hown, hsz, hper⟩ := smap_keys hmm2 HR.out.nd
      have hszN : Maps.size D ≤ N := by rw [hsz]; exact Nat.le_trans hnm hlen
      have HOWN := Lib.hid hown
      have HPER := Lib.hid hper
      have HSZ := Lib.hid hszN
      have c5 := blk_cell HM.out.c5 0
      clear hnm hmm2 hown hsz hper hszN c6
      simp only [Act.put, List.setIfInBounds_toArray, List.set_cons_zero, List.set_cons_succ]
      go_wp2_with fail
      --S4
      refine (callsIn_wide.1 (Try.maps_Keys_57 (some x) _)).mono ?_
      rintro e w3 ⟨rfl, rfl⟩
      clear c5
      go_wp2_with fail
      refine (callsIn_wide.1 (Try.slices_Sorted_keys_56_57 x _ D VH wr HOWN.out (by have := HSZ.out; simp only [maxLen]; omega) (by have := HSZ.out; omega))).mono ?_
      rintro e w4 ⟨v4, ss, rfl, hss, hrow, _, hb⟩
      obtain ⟨l, hl1, hl2, hl3⟩ := sorted_ints HR.out.nd (HPER.out ss hss)
      have hal2 := below_alloc (Below.refl wr.heap.size wr) (.cells #[.map (some x)] 90)
      have hb5 : Below w.heap.size w w4 := (HM.out.below.trans (hal2.mono HM.out.below.size)).trans (hb.mono (Nat.le_trans HM.out.below.size hal2.size))
      have HB5 := Lib.hid hb5
      have HRW : Hid (Ir w.heap.size w4 v4 l) := by
        rw [hl1] at hrow
        have hln : ss.length = (ints l).length := by rw [← hl1, List.length_mergeSort]
        rw [hln] at hrow
        exact Kd.R_lower (Kd.R_of_own (enc := Value.int .i64) (h1 := fun _ => rfl) hrow (fun _ _ => trivial)) (Nat.le_trans HM.out.below.size hal2.size)
      have HIS : Hid (IsReach ah fr l) := ⟨hl2, fun n => (hl3 n).trans (HALL.out n)⟩
      clear hss hrow hb hl1 hl2 hl3 hal2 hb5
      go_wp2
      go_ret
      exact ⟨_, l, rfl, HIS.out, HRW.out, HB5.out⟩
    | cons y q =>
      refine RW.recv (c := x + 1 + 1) (cap := N + 1) (buf := qbuf (y :: q)) (z := .int .i64 0) rfl rfl (by simp [execOp, rcase, Act.eval, Act.put]) HCH.out (by rw [qbuf_size]; exact Nat.succ_pos _) ?_
      rw [qbuf_pop, qbuf_head]
      have HM3 : Hid (Mt w (wr.setChan (x + 1 + 1) (N + 1) (qbuf q) false a (r + 1) false) (x + 1) x (x + 1 + 1 + 1) (x + 1 + 1) (N + 1) (out, q)) :=
        Mt.chan (s := (out, q)) HM.out.c5 HM.out.c6 HCH.out HM.out.mp HM.out.below HM.out.h5 HM.out.hm HM.out.h6 HM.out.hc (by rw [List.length_cons] at hrl; show r + 1 + q.length = out.length; omega)
      have hy : y < N := HR.out.lt y (by
        obtain ⟨done, hd, _⟩ := HR.out.split
        have hd : out = done ++ y :: q := hd
        show y ∈ out
        rw [hd]; simp)
      have hyl : y < ah.length := by rw [HAL.out]; exact hy
      have HRN := Lib.hid (HR.out.next (fun k hk => HK.out _ (take_at ah [] y hyl).2 k hk))
      have HTK3 : Hid (r + 1 ≤ N) := by rw [List.length_cons] at hrl; show _ ≤ _; omega
      have HQ : Hid (q.length ≤ out.length) := by rw [List.length_cons] at hrl; show _ ≤ _; omega
      generalize wr.setChan (x + 1 + 1) (N + 1) (qbuf q) false a (r + 1) false = w3 at HM3 ⊢
      refine RW.value (v := .int .i64 0) (w' := w3) rfl rfl (by go_simp) ?_
      refine RW.value (v := .bool true) (w' := w3) rfl rfl (by go_simp) ?_
      refine RW.done ?_
      have hA3 := HA.out.below HM3.out.below
      obtain ⟨ad, u, e1, q2, hsr⟩ := hA3.get y hyl
      subst e1
      obtain ⟨a0, u0, e2, q3, hsr0⟩ := HA.out.get y hyl
      have g3 := pw_cell_below HM3.out.below H3.out
      have HKY : Hid (∀ n ∈ ah.getD y [], n < N) := fun k hk => HK.out _ (take_at ah [] y hyl).2 k hk
      have hu : u = u0 := by
        have h9 := pw_cell_below HM3.out.below q3
        rw [← Option.some.inj e2, q2] at h9
        exact Option.some.inj h9
      rw [← hu] at hsr0
      have HS0 := Lib.hid hsr0
      have HSR := Lib.hid hsr
      obtain ⟨Ay, cy, ey, _, _⟩ := hsr.len
      subst ey
      obtain ⟨ny, hny⟩ : ∃ ny, ny = (ah.getD y []).length := ⟨_, rfl⟩
      rw [← hny] at q2 HSR HS0
      clear hA3 hsr hsr0 e2 q3 hu hny hyl c6
      simp only [Act.put, List.setIfInBounds_toArray, List.set_cons_zero, List.set_cons_succ]
      go_wp2_with fail
      --S5
      refine (meet_any w (x + 1) x (x + 1 + 1 + 1) (x + 1 + 1) N (out, q) _ (ah.getD y []) _ HM3.out HSR.out HKY.out HR.out.nd HR.out.lt HQ.out hN HS0.out).mono ?_
      rintro e w4 ⟨rfl, hm4⟩
      have HM4 := Lib.hid hm4
      have HT4 : Hid (takenOf w4 (x + 1 + 1) = r + 1) := by
        obtain ⟨a4, r4, h1, h2⟩ := hm4.ch
        obtain ⟨_, _, _, m, h4, h5⟩ := mt_inv (ah.getD y []) (out, q) HR.out.nd
        rw [h4, h5, List.length_append, List.length_append] at h2
        have h2 : r4 + (q.length + m.length) = out.length + m.length := h2
        rw [List.length_cons] at hrl
        show takenOf _ _ = _
        rw [takenOf_of h1]
        omega
      clear hm4 q2 g3
      go_wp2
      go_roundw
      case rel => exact ⟨_, HM4.out, HRN.out⟩
      case measure =>
        have h1 := HT4.out
        have h2 := HTK.out
        have h3 := HTK3.out
        rw [h1, h2]
        omega
end Go.Proofs.Ytifbkojapfighaa.Gr
