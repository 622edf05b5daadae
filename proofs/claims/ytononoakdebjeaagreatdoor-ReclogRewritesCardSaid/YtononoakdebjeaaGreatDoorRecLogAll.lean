/- reclog's Log over a disk: a log that is not there; Append; reclog.frames (walk); reclog.all: deeds one behind the other (walk); reclog's Sync over a disk (walk); reclog's Rewrite over a disk: its three closures (walks); reclog's Rewrite over a disk (walk); A log over a disk, for those who use it. -/
import Derived.Test.YtononoakdebjeaaGreatDoorDkUseAll
import Derived.Test.YtononoakdebjeaaGreatDoorRecWalk
namespace Go.Proofs.YtononoakdebjeaaGreatDoor.Rec
open Go.RowKit Go.Proofs.YtononoakdebjeaaGreatDoorW.PrintWords Go.Proofs.YtononoakdebjeaaGreatDoorW.PrintLast Go.Proofs.YtononoakdebjeaaGreatDoor.Base Go.Proofs.YtononoakdebjeaaGreatDoor.Path Go.Proofs.YtononoakdebjeaaGreatDoor.Pack Go.Proofs.YtononoakdebjeaaGreatDoor.Dk Go.Maps
set_option linter.unusedVariables false
set_option linter.unusedSimpArgs false
theorem append_nil (v : Value) (w : World) :
    Calls Tryz.prog 30 #[.pointer none, v] w fun e w' => e = .returned (.int .i64 8) ∧ w' = w := by
  go_enter Tryz.func30, Tryz.ntmps30
  go_wp2
  go_ret
  exact ⟨rfl, rfl⟩
theorem sync_nil (w : World) :
    Calls Tryz.prog 31 #[.pointer none] w fun e w' => e = .returned (.int .i64 8) ∧ Below w.heap.size w w' := by
  go_enter Tryz.func31, Tryz.ntmps31
  go_wp2
  go_ret
  exact ⟨rfl, below_alloc (Below.refl _ _) _⟩
theorem rewrite_nil (v : Value) (w : World) :
    Calls Tryz.prog 27 #[.pointer none, v] w fun e w' => e = .returned (.int .i64 8) ∧ Below w.heap.size w w' := by
  go_enter Tryz.func27, Tryz.ntmps27
  go_wp2
  go_ret
  exact ⟨rfl, below_alloc (Below.refl _ _) _⟩
/-- A log's block, over a disk at block g. -/
abbrev logO (g : Nat) (nm : ByteArray) (kd : Int) : Obj := .cells #[.pointer (some ⟨g, 0, none⟩), .string nm, .int .u8 kd] 95 (0, 0)
theorem frame_len (xs : List Int) : (frameBytes xs).length = 8 + xs.length := by
  unfold frameBytes
  simp [Pack.leBytes]
  try omega
set_option maxRecDepth 100000 in
set_option maxHeartbeats 4000000 in
theorem logAppend_any (w0 : World) (c g l : Nat) (D : DiskV) (K : List (Nat × Obj)) (nm : ByteArray) (kd : Int) (v : Value) (xs : List Int) (w : World) (h : KO w0 c w g D K) (hK : (l, logO g nm kd) ∈ K) (hs : nm.size ≤ maxLen) (hv : Bs w v xs) (hb : Bytes xs) (hl : xs.length ≤ 4096) (hc : c ≤ 40000000) :
    Calls Tryz.prog 30 #[.pointer (some ⟨l, 0, none⟩), v] w (KP w0 c g D K (rightB nm) (AppendR nm (frameBytes xs))) := by
  have H := Lib.hid h
  have HK := Lib.hid hK
  have HFR := Lib.hid (frame_any v xs w hv hb hl)
  obtain ⟨A, cp, rfl, _, _⟩ := hv.len
  clear h hK hv hb
  go_enter Tryz.func30, Tryz.ntmps30
  go_wp2_with fail
  refine HFR.out.mono ?_
  rintro e w1 ⟨v1, rfl, o1⟩
  obtain ⟨A1, n1, c1, rfl, hn1⟩ := o1.slice
  have HL := Lib.hid ((H.out.below o1.below).kept HK.out)
  have HAP : Hid (∀ W, Below w1.heap.size w1 W → Calls Tryz.prog 45 #[.pointer (some ⟨g, 0, none⟩), .string nm, .slice A1 n1 c1] W (KP w0 c g D K (rightB nm) (AppendR nm (frameBytes xs)))) := fun W hb => by
    obtain ⟨K', h1, h2, h3⟩ := H.out.ow o1
    exact ((h1.below hb).append nm _ (frameBytes xs) hs ⟨h3.1.below hb, h3.2⟩ (by rw [frame_len]; omega) hc).mono fun e w' hp => hp.sub h2
  have K0 := Lib.hid (blk_cell HL.out 0)
  have K1 := Lib.hid (blk_cell HL.out 1)
  clear o1 hn1
  go_upto_region 6 with (fail)
  --S1
  refine start_ (n := 11) (S := fun w' => Below w1.heap.size w1 w' ∧ w'.cell? ⟨l, 0, none⟩ = some (.pointer (some ⟨g, 0, none⟩)) ∧ w'.cell? ⟨l, 1, none⟩ = some (.string nm)) (ds := [9]) #[false, false, false, false, false, false, false, false, false, false, false] (by kernel_rfl) rfl rfl ⟨Below.drew (Below.refl _ _), K0.out, K1.out⟩ (fun hHeld => ?_)
  refine pure_ (i := 0) (N := some 17) (v := ?_) (a' := ?_) #[true, false, false, false, false, false, false, false, false, false, false] rfl rfl (by kernel_rfl) (fun _ _ _ h => h) (Or.inl ⟨by rfl, ?_⟩) ?_ ?_
  rotate_left
  · intro w'
    go_simp
    with_reducible rfl
  rotate_left
  · simp only [Act.put, List.setIfInBounds_toArray, List.set_cons_zero, List.set_cons_succ, i64_w, i32_w]
    rfl
  refine pure_ (i := 1) (N := some 18) (v := ?_) (a' := ?_) #[true, true, false, false, false, false, false, false, false, false, false] rfl rfl (by kernel_rfl) (fun _ _ _ h => h) (Or.inl ⟨by rfl, ?_⟩) ?_ ?_
  rotate_left
  · intro w'
    go_simp
    with_reducible rfl
  rotate_left
  · simp only [Act.put, List.setIfInBounds_toArray, List.set_cons_zero, List.set_cons_succ, i64_w, i32_w]
    rfl
  refine pure_ (i := 2) (N := some 19) (v := ?_) (a' := ?_) #[true, true, true, false, false, false, false, false, false, false, false] rfl rfl (by kernel_rfl) (fun _ _ _ h => h) (Or.inl ⟨by rfl, ?_⟩) ?_ ?_
  rotate_left
  · intro w'
    go_simp
    with_reducible rfl
  rotate_left
  · simp only [Act.put, List.setIfInBounds_toArray, List.set_cons_zero, List.set_cons_succ, i64_w, i32_w]
    rfl
  refine pure_ (i := 4) (N := some 21) (v := ?_) (a' := ?_) #[true, true, true, false, true, false, false, false, false, false, false] rfl rfl (by kernel_rfl) (fun _ _ _ h => h) (Or.inl ⟨by rfl, ?_⟩) ?_ ?_
  rotate_left
  · intro w'
    go_simp
    with_reducible rfl
  rotate_left
  · simp only [Act.put, List.setIfInBounds_toArray, List.set_cons_zero, List.set_cons_succ, i64_w, i32_w]
    rfl
  refine pure_ (i := 5) (N := some 22) (v := ?_) (a' := ?_) #[true, true, true, false, true, true, false, false, false, false, false] rfl rfl (by kernel_rfl) (fun _ _ _ h => h) (Or.inl ⟨by rfl, ?_⟩) ?_ ?_
  rotate_left
  · intro w'
    go_simp
    with_reducible rfl
  rotate_left
  · simp only [Act.put, List.setIfInBounds_toArray, List.set_cons_zero, List.set_cons_succ, i64_w, i32_w]
    rfl
  refine pure_ (i := 6) (N := some 23) (v := ?_) (a' := ?_) #[true, true, true, false, true, true, true, false, false, false, false] rfl rfl (by kernel_rfl) (fun _ _ _ h => h) (Or.inl ⟨by rfl, ?_⟩) ?_ ?_
  rotate_left
  · intro w'
    go_simp
    with_reducible rfl
  rotate_left
  · simp only [Act.put, List.setIfInBounds_toArray, List.set_cons_zero, List.set_cons_succ, i64_w, i32_w]
    rfl
  refine pure_ (i := 8) (N := some 25) (v := ?_) (a' := ?_) #[true, true, true, false, true, true, true, false, true, false, false] rfl rfl (by kernel_rfl) (fun _ _ _ h => h) (Or.inl ⟨by rfl, ?_⟩) ?_ ?_
  rotate_left
  · intro w'
    go_simp
    with_reducible rfl
  rotate_left
  · simp only [Act.put, List.setIfInBounds_toArray, List.set_cons_zero, List.set_cons_succ, i64_w, i32_w]
    rfl
  refine take_ (i := 3) (N := some 20) (v := ?_) (a' := ?_) #[true, true, true, true, true, true, true, false, true, false, false] rfl rfl (by kernel_rfl) (fun _ _ _ h => h) (Or.inl ⟨by rfl, ?_⟩) hHeld ?_ ?_
  rotate_left
  · rintro w' ⟨s0, s1, s2⟩
    go_simp
    with_reducible rfl
  rotate_left
  · simp only [Act.put, List.setIfInBounds_toArray, List.set_cons_zero, List.set_cons_succ, i64_w, i32_w]
    rfl
  refine take_ (i := 7) (N := some 24) (v := ?_) (a' := ?_) #[true, true, true, true, true, true, true, true, true, false, false] rfl rfl (by kernel_rfl) (fun _ _ _ h => h) (Or.inl ⟨by rfl, ?_⟩) hHeld ?_ ?_
  rotate_left
  · rintro w' ⟨s0, s1, s2⟩
    go_simp
    with_reducible rfl
  rotate_left
  · simp only [Act.put, List.setIfInBounds_toArray, List.set_cons_zero, List.set_cons_succ, i64_w, i32_w]
    rfl
  refine last_ (i := 9) (N := some 26) #[true, true, true, true, true, true, true, true, true, true, false] rfl rfl (by kernel_rfl) (by decide) (fun K hK => ?_)
  refine goes_ Tryz.func45 (by kernel_rfl) rfl #[.pointer (some ⟨g, 0, none⟩), .string nm, .slice A1 n1 c1] (by rfl) rfl rfl (by first | (simp only [List.map_toArray, List.map_cons, List.map_nil]; done) | (simp only [List.map_toArray, List.map_cons, List.map_nil]; rfl) | rfl) ?_
  with_reducible refine (HAP.out _ hHeld.1).mono ?_
  rintro e w2 hp
  have HP := Lib.hid hp
  obtain ⟨D', q, rfl, _⟩ := hp
  refine ⟨_, rfl, ?_⟩
  refine hK.out _ _ ?_
  clear hK K
  refine norm_ (a' := ?_) ?_ ?_
  rotate_left
  · show Act.put _ (some 26) _ = _
    simp only [Act.put, List.setIfInBounds_toArray, List.set_cons_zero, List.set_cons_succ, i64_w, i32_w]
    rfl
  refine pure_ (i := 10) (N := some 4) (v := ?_) (a' := ?_) #[true, true, true, true, true, true, true, true, true, true, true] rfl rfl (by kernel_rfl) (fun _ _ _ h => h) (Or.inl ⟨by rfl, ?_⟩) ?_ ?_
  rotate_left
  · intro w'
    go_simp
    with_reducible rfl
  rotate_left
  · simp only [Act.put, List.setIfInBounds_toArray, List.set_cons_zero, List.set_cons_succ, i64_w, i32_w]
    rfl
  refine done_ (by kernel_rfl) ?_
  --S2
  go_wp2
  go_ret
  exact HP.out
end Go.Proofs.YtononoakdebjeaaGreatDoor.Rec
namespace Go.Proofs.YtononoakdebjeaaGreatDoor.Rec
open Go.RowKit Go.Proofs.YtononoakdebjeaaGreatDoorW.PrintWords Go.Proofs.YtononoakdebjeaaGreatDoorW.PrintLast Go.Proofs.YtononoakdebjeaaGreatDoor.Base Go.Proofs.YtononoakdebjeaaGreatDoor.Path Go.Proofs.YtononoakdebjeaaGreatDoor.Pack Go.Proofs.YtononoakdebjeaaGreatDoor.Dk Go.Maps
set_option linter.unusedVariables false
set_option linter.unusedSimpArgs false
def frs (rs : List (List Int)) : List Int := (rs.map frameBytes).flatten
theorem frs_next (rs : List (List Int)) (j : Nat) (h : j < rs.length) : frs (rs.take (j + 1)) = frs (rs.take j) ++ frameBytes (rs.getD j []) := by
  unfold frs
  rw [List.take_add_one, List.getElem?_eq_getElem h, Option.toList_some, List.map_append, List.flatten_append, List.getD_eq_getElem?_getD, List.getElem?_eq_getElem h, Option.getD_some]
  simp
set_option maxRecDepth 100000 in
set_option maxHeartbeats 4000000 in
theorem frames_any (w0 : World) (b v : Value) (pre : List Int) (rs : List (List Int)) (w : World) (hb : Ow w0 w b pre) (hr : Rs w0 v rs) (hB : ∀ r ∈ rs, Bytes r) (hL : ∀ r ∈ rs, r.length ≤ 4096) (hn : rs.length ≤ 1000) (hp : pre.length ≤ 100000) :
    Calls Tryz.prog 52 #[b, v] w fun e w' => ∃ v', e = .returned (.tuple #[v', .int .i64 0]) ∧ Ow w0 w' v' (pre ++ frs rs) := by
  obtain ⟨A, cp, rfl, hcp, hm, hcell⟩ := hr
  obtain ⟨n, hnn⟩ : ∃ n, n = rs.length := ⟨_, rfl⟩
  rw [← hnn] at hcp hm hcell hn ⊢
  have HN := Lib.hid hnn
  have HC := Lib.hid hcell
  have H0 : Hid (Ow w0 w b (pre ++ frs (rs.take 0)) ∧ (pre ++ frs (rs.take 0)).length ≤ 100000 + 5000 * 0) := ⟨by simpa [frs] using hb, by simpa [frs] using hp⟩
  have HB := Lib.hid hB
  have HL := Lib.hid hL
  clear hnn hcell hb hB hL hp
  go_enter Tryz.func52, Tryz.ntmps52
  go_wp2
  go_loopw [0, 12] (fun s0 s12 wr => ∃ j : Nat, j ≤ n ∧ s12 = .int .i64 j ∧ Hid (Ow w0 wr s0 (pre ++ frs (rs.take j)) ∧ (pre ++ frs (rs.take j)).length ≤ 100000 + 5000 * j)) (fun _ s12 _ => n - (intOf s12).toNat)
  case atStart => exact ⟨0, Nat.zero_le _, rfl, H0.out⟩
  case round =>
    obtain ⟨j, hj, rfl, HJ⟩ := hrel
    by_cases l1 : j < n
    · have hjl : j < rs.length := by rw [← HN.out]; exact l1
      obtain ⟨ad, e1, f1⟩ := HC.out (by omega)
      subst e1
      obtain ⟨u, q1, hu⟩ := f1 j l1
      have hmem : rs.getD j [] ∈ rs := by rw [List.getD_eq_getElem?_getD, List.getElem?_eq_getElem hjl]; exact List.getElem_mem hjl
      have q2 := pw_cell_below HJ.out.1.below q1
      have HFR := Lib.hid (frame_any u (rs.getD j []) wr (hu.below HJ.out.1.below) (HB.out _ hmem) (HL.out _ hmem))
      have HLL := Lib.hid (HL.out _ hmem)
      have HNX := Lib.hid (frs_next rs j hjl)
      obtain ⟨B1, n1, rfl, _, _⟩ := hu.len
      clear f1 q1 hu hmem hjl
      go_wp2_with fail
      refine HFR.out.mono ?_
      rintro e w2 ⟨v2, rfl, o2⟩
      obtain ⟨A2, n2, c2, rfl, hn2⟩ := o2.slice
      have HO := Lib.hid (HJ.out.1.step o2.below)
      have HV := Lib.hid o2.bs
      clear o2 hn2 HFR q2
      go_wp2_with (at_builtin; refine Held.of ?_)
      refine app_bytes rfl (.tmp 24) (.tmp 25) 23 rfl Tryz.underlying23 _ _ _ _ rfl rfl HO.out HV.out (by rw [frame_len]; have := HJ.out.2; have := HLL.out; omega) ?_
      intro v3 w3 o3 _
      have H3 : Hid (Ow w0 w3 v3 (pre ++ frs (rs.take (j + 1))) ∧ (pre ++ frs (rs.take (j + 1))).length ≤ 100000 + 5000 * (j + 1)) := by
        have e : pre ++ frs (rs.take (j + 1)) = (pre ++ frs (rs.take j)) ++ frameBytes (rs.getD j []) := by rw [HNX.out, List.append_assoc]
        rw [e]
        refine ⟨o3, ?_⟩
        rw [List.length_append, frame_len]
        have := HJ.out.2
        have := HLL.out
        omega
      clear o3 HO HV HJ
      go_wp2
      go_roundw
      case rel => exact ⟨j + 1, by omega, by go_num, H3.out⟩
      case measure => simp [intOf]; omega
    · obtain rfl : j = n := by omega
      have HF : Hid (Ow w0 wr u0 (pre ++ frs rs)) := by
        have h := HJ.out.1
        rw [HN.out, List.take_length] at h
        exact h
      go_wp2
      go_ret2
      exact ⟨_, rfl, HF.out⟩
end Go.Proofs.YtononoakdebjeaaGreatDoor.Rec
namespace Go.Proofs.YtononoakdebjeaaGreatDoor.Rec
open Go.RowKit Go.Proofs.YtononoakdebjeaaGreatDoorW.PrintWords Go.Proofs.YtononoakdebjeaaGreatDoorW.PrintLast Go.Proofs.YtononoakdebjeaaGreatDoor.Base Go.Proofs.YtononoakdebjeaaGreatDoor.Path Go.Proofs.YtononoakdebjeaaGreatDoor.Pack Go.Proofs.YtononoakdebjeaaGreatDoor.Dk Go.Maps
set_option linter.unusedVariables false
set_option linter.unusedSimpArgs false
structure Fv where
  f : Nat
  bd : Array Value
  cp : Array Value
def Fv.v (x : Fv) : Value := .func (.func x.f) x.bd x.cp
/-- v reads as the functions l. -/
def Fs (w : World) (v : Value) (l : List Fv) : Prop := ∃ A c, v = .slice A l.length c ∧ l.length ≤ c ∧ l.length ≤ 9223372036854775807 ∧ (0 < l.length → ∃ ad, A = some ad ∧ ∀ (i : Nat) x, l[i]? = some x → w.cell? (ad.add i) = some x.v)
def AllP (I : Nat → World → Prop) (Q : Nat → World → Prop) (j : Nat) (e : Ending) (w' : World) : Prop := ∃ k : Nat, e = .returned (.int .i64 (k : Int)) ∧ ((k = 0 ∧ I j w') ∨ (k ≠ 0 ∧ Q k w'))
set_option maxRecDepth 100000 in
set_option maxHeartbeats 4000000 in
theorem deeds_all (l : List Fv) (v : Value) (I : Nat → World → Prop) (Q : Nat → World → Prop) (w : World) (hl : l.length ≤ 10) (hI : ∀ j W, I j W → Fs W v l) (h0 : I 0 w)
    (eg : ∀ x ∈ l, ∀ args w, (callFunc x.f args).run Tryz.prog w = .ok (.enter x.f args) w)
    (hs : ∀ (j : Nat) x, l[j]? = some x → ∀ W, I j W → Calls Tryz.prog x.f (x.bd ++ x.cp) W (AllP I Q (j + 1))) :
    Calls Tryz.prog 53 #[v] w (AllP I Q l.length) := by
  obtain ⟨A, c, rfl, hc, hm, _⟩ := hI 0 w h0
  obtain ⟨n, hn⟩ : ∃ n, n = l.length := ⟨_, rfl⟩
  rw [← hn] at hc hm hl ⊢
  have HI := Lib.hid hI
  have H0 := Lib.hid h0
  have HE := Lib.hid eg
  have HS := Lib.hid hs
  have HN := Lib.hid hn
  clear hI h0 eg hs hn
  go_enter Tryz.func53, Tryz.ntmps53
  go_wp2
  go_loopw [8] (fun i wr => ∃ j : Nat, j ≤ n ∧ i = .int .i64 j ∧ Hid (I j wr)) (fun i _ => n - (intOf i).toNat)
  case atStart => exact ⟨0, Nat.zero_le _, rfl, H0.out⟩
  case round =>
    obtain ⟨j, hj, rfl, HJ⟩ := hrel
    by_cases l1 : j < n
    · obtain ⟨x, hx⟩ : ∃ x, l[j]? = some x := ⟨_, List.getElem?_eq_getElem (by rw [← HN.out]; exact l1)⟩
      obtain ⟨A', c', e', _, _, hcell⟩ := HI.out j wr HJ.out
      obtain ⟨ad, rfl, hcl⟩ := hcell (by rw [← HN.out]; omega)
      rw [← HN.out] at e'
      injection e' with e1 e2 e3
      subst e1
      have q0 := hcl j x hx
      have eg := HE.out x (List.mem_of_getElem? hx)
      have HX := Lib.hid (HS.out j x hx wr HJ.out)
      obtain ⟨f, bd, cp⟩ := x
      simp only [Fv.v] at q0
      simp only [] at eg
      clear hcl hcell hx e3 HJ
      go_wp2_with fail
      --S1
      refine HX.out.mono ?_
      rintro e w2 ⟨k, rfl, ⟨rfl, h2⟩ | ⟨hk, h2⟩⟩
      · have H2 := Lib.hid h2
        clear h2 HX eg q0
        go_wp2
        go_roundw
        case rel => exact ⟨j + 1, by omega, by go_num, H2.out⟩
        case measure => simp [intOf]; omega
      · have b1 : ((k : Int) == 0) = false := by rw [beq_eq_false_iff_ne]; omega
        have H2 := Lib.hid h2
        clear h2 HX eg q0
        go_wp2
        go_ret
        exact ⟨k, rfl, .inr ⟨hk, H2.out⟩⟩
    · obtain rfl : j = n := by omega
      go_wp2
      go_ret
      exact ⟨0, rfl, .inl ⟨rfl, HJ.out⟩⟩
end Go.Proofs.YtononoakdebjeaaGreatDoor.Rec
namespace Go.Proofs.YtononoakdebjeaaGreatDoor.Rec
open Go.RowKit Go.Proofs.YtononoakdebjeaaGreatDoorW.PrintWords Go.Proofs.YtononoakdebjeaaGreatDoorW.PrintLast Go.Proofs.YtononoakdebjeaaGreatDoor.Base Go.Proofs.YtononoakdebjeaaGreatDoor.Path Go.Proofs.YtononoakdebjeaaGreatDoor.Pack Go.Proofs.YtononoakdebjeaaGreatDoor.Dk Go.Maps
set_option linter.unusedVariables false
set_option linter.unusedSimpArgs false
/-- A box that holds the log. -/
abbrev boxO (l : Nat) : Obj := .cells #[.pointer (some ⟨l, 0, none⟩)] 57 (0, 0)
set_option maxRecDepth 100000 in
set_option maxHeartbeats 4000000 in
theorem logSync1_any (w0 : World) (c g l x : Nat) (D : DiskV) (K : List (Nat × Obj)) (nm : ByteArray) (kd : Int) (w : World) (h : KO w0 c w g D K) (hK : (l, logO g nm kd) ∈ K) (hX : (x, boxO l) ∈ K) (hs : nm.size ≤ maxLen) (hc : c ≤ 40000000) :
    Calls Tryz.prog 58 #[.pointer (some ⟨x, 0, none⟩)] w (KP w0 c g D K (rightB nm) (ThereR nm SyncR)) := by
  have H := Lib.hid h
  have K0 := Lib.hid (blk_cell (h.kept hK) 0)
  have K1 := Lib.hid (blk_cell (h.kept hK) 1)
  have KX := Lib.hid (blk_cell (h.kept hX) 0)
  clear h hK hX
  have HAP : Hid (∀ W, Below w.heap.size w W → Calls Tryz.prog 12 #[.pointer (some ⟨g, 0, none⟩), .string nm] W (KP w0 c g D K (rightB nm) (ThereR nm SyncR))) := fun W hb => (H.out.below hb).sync nm hs hc
  go_enter Tryz.func58, Tryz.ntmps58
  go_upto_region 1 with (fail)
  --S1
  refine start_ (n := 10) (S := fun w' => Below w.heap.size w w' ∧ w'.cell? ⟨x, 0, none⟩ = some (.pointer (some ⟨l, 0, none⟩)) ∧ w'.cell? ⟨l, 0, none⟩ = some (.pointer (some ⟨g, 0, none⟩)) ∧ w'.cell? ⟨l, 1, none⟩ = some (.string nm)) (ds := [8]) #[false, false, false, false, false, false, false, false, false, false] (by kernel_rfl) rfl rfl ⟨Below.drew (Below.refl _ _), KX.out, K0.out, K1.out⟩ (fun hHeld => ?_)
  refine take_ (i := 0) (N := some 2) (v := ?_) (a' := ?_) #[true, false, false, false, false, false, false, false, false, false] rfl rfl (by kernel_rfl) (fun _ _ _ h => h) (Or.inl ⟨by rfl, ?_⟩) hHeld ?_ ?_
  rotate_left
  · rintro w' ⟨s0, s1, s2, s3⟩
    go_simp
    with_reducible rfl
  rotate_left
  · simp only [Act.put, List.setIfInBounds_toArray, List.set_cons_zero, List.set_cons_succ, i64_w, i32_w]
    rfl
  refine pure_ (i := 1) (N := some 3) (v := ?_) (a' := ?_) #[true, true, false, false, false, false, false, false, false, false] rfl rfl (by kernel_rfl) (fun _ _ _ h => h) (Or.inl ⟨by rfl, ?_⟩) ?_ ?_
  rotate_left
  · intro w'
    go_simp
    with_reducible rfl
  rotate_left
  · simp only [Act.put, List.setIfInBounds_toArray, List.set_cons_zero, List.set_cons_succ, i64_w, i32_w]
    rfl
  refine pure_ (i := 2) (N := some 4) (v := ?_) (a' := ?_) #[true, true, true, false, false, false, false, false, false, false] rfl rfl (by kernel_rfl) (fun _ _ _ h => h) (Or.inl ⟨by rfl, ?_⟩) ?_ ?_
  rotate_left
  · intro w'
    go_simp
    with_reducible rfl
  rotate_left
  · simp only [Act.put, List.setIfInBounds_toArray, List.set_cons_zero, List.set_cons_succ, i64_w, i32_w]
    rfl
  refine take_ (i := 3) (N := some 5) (v := ?_) (a' := ?_) #[true, true, true, true, false, false, false, false, false, false] rfl rfl (by kernel_rfl) (fun _ _ _ h => h) (Or.inl ⟨by rfl, ?_⟩) hHeld ?_ ?_
  rotate_left
  · rintro w' ⟨s0, s1, s2, s3⟩
    go_simp
    with_reducible rfl
  rotate_left
  · simp only [Act.put, List.setIfInBounds_toArray, List.set_cons_zero, List.set_cons_succ, i64_w, i32_w]
    rfl
  refine take_ (i := 4) (N := some 6) (v := ?_) (a' := ?_) #[true, true, true, true, true, false, false, false, false, false] rfl rfl (by kernel_rfl) (fun _ _ _ h => h) (Or.inl ⟨by rfl, ?_⟩) hHeld ?_ ?_
  rotate_left
  · rintro w' ⟨s0, s1, s2, s3⟩
    go_simp
    with_reducible rfl
  rotate_left
  · simp only [Act.put, List.setIfInBounds_toArray, List.set_cons_zero, List.set_cons_succ, i64_w, i32_w]
    rfl
  refine pure_ (i := 5) (N := some 7) (v := ?_) (a' := ?_) #[true, true, true, true, true, true, false, false, false, false] rfl rfl (by kernel_rfl) (fun _ _ _ h => h) (Or.inl ⟨by rfl, ?_⟩) ?_ ?_
  rotate_left
  · intro w'
    go_simp
    with_reducible rfl
  rotate_left
  · simp only [Act.put, List.setIfInBounds_toArray, List.set_cons_zero, List.set_cons_succ, i64_w, i32_w]
    rfl
  refine pure_ (i := 6) (N := some 8) (v := ?_) (a' := ?_) #[true, true, true, true, true, true, true, false, false, false] rfl rfl (by kernel_rfl) (fun _ _ _ h => h) (Or.inl ⟨by rfl, ?_⟩) ?_ ?_
  rotate_left
  · intro w'
    go_simp
    with_reducible rfl
  rotate_left
  · simp only [Act.put, List.setIfInBounds_toArray, List.set_cons_zero, List.set_cons_succ, i64_w, i32_w]
    rfl
  refine take_ (i := 7) (N := some 9) (v := ?_) (a' := ?_) #[true, true, true, true, true, true, true, true, false, false] rfl rfl (by kernel_rfl) (fun _ _ _ h => h) (Or.inl ⟨by rfl, ?_⟩) hHeld ?_ ?_
  rotate_left
  · rintro w' ⟨s0, s1, s2, s3⟩
    go_simp
    with_reducible rfl
  rotate_left
  · simp only [Act.put, List.setIfInBounds_toArray, List.set_cons_zero, List.set_cons_succ, i64_w, i32_w]
    rfl
  refine last_ (i := 8) (N := some 10) #[true, true, true, true, true, true, true, true, true, false] rfl rfl (by kernel_rfl) (by decide) (fun K hK => ?_)
  refine goes_ Tryz.func12 (by kernel_rfl) rfl #[.pointer (some ⟨g, 0, none⟩), .string nm] (by rfl) rfl rfl (by first | (simp only [List.map_toArray, List.map_cons, List.map_nil]; done) | (simp only [List.map_toArray, List.map_cons, List.map_nil]; rfl) | rfl) ?_
  with_reducible refine (HAP.out _ hHeld.1).mono ?_
  rintro e w2 hp
  have HP := Lib.hid hp
  obtain ⟨D', q, rfl, _⟩ := hp
  refine ⟨_, rfl, ?_⟩
  refine hK.out _ _ ?_
  clear hK K
  refine norm_ (a' := ?_) ?_ ?_
  rotate_left
  · show Act.put _ (some 10) _ = _
    simp only [Act.put, List.setIfInBounds_toArray, List.set_cons_zero, List.set_cons_succ, i64_w, i32_w]
    rfl
  refine pure_ (i := 9) (N := some 1) (v := ?_) (a' := ?_) #[true, true, true, true, true, true, true, true, true, true] rfl rfl (by kernel_rfl) (fun _ _ _ h => h) (Or.inl ⟨by rfl, ?_⟩) ?_ ?_
  rotate_left
  · intro w'
    go_simp
    with_reducible rfl
  rotate_left
  · simp only [Act.put, List.setIfInBounds_toArray, List.set_cons_zero, List.set_cons_succ, i64_w, i32_w]
    rfl
  refine done_ (by kernel_rfl) ?_
  --S2
  go_wp2
  go_ret
  exact HP.out
def SyncAllR (nm : ByteArray) (D D' : DiskV) (k : Nat) : Prop :=
  ∃ D1 k1, DeedR D (rightB nm) (ThereR nm SyncR) D1 k1 ∧ ((k1 ≠ 0 ∧ D' = D1 ∧ k = k1) ∨ (k1 = 0 ∧ DeedR D1 true SyncDirR D' k))
theorem KO.add2 {w0 w w' : World} {c g : Nat} {D : DiskV} {K : List (Nat × Obj)} (h : KO w0 c w g D K) (hb : Below w.heap.size w w') {x y : Nat} {o p : Obj} (hx : w.heap.size ≤ x) (ho : w'.heap[x]? = some o) (hy : w.heap.size ≤ y) (hp : w'.heap[y]? = some p) : KO w0 c w' g D ((y, p) :: (x, o) :: K) := by
  obtain ⟨S, h1, h2, h3, h4⟩ := h
  refine ⟨S, h1.below hb, h2, h3.trans (hb.mono h3.size), fun q hq => ?_⟩
  rcases List.mem_cons.1 hq with rfl | hq
  · exact ⟨fun hs => by have := h1.lt _ hs; simp only at this; omega, hp⟩
  rcases List.mem_cons.1 hq with rfl | hq
  · exact ⟨fun hs => by have := h1.lt _ hs; simp only at this; omega, ho⟩
  · exact ⟨(h4 q hq).1, (hb.block q.1 (blk_lt (h4 q hq).2)).trans (h4 q hq).2⟩
def syncI (w0 : World) (c g : Nat) (nm : ByteArray) (D : DiskV) (K : List (Nat × Obj)) (j : Nat) (W : World) : Prop :=
  match j with
  | 0 => KO w0 c W g D K
  | 1 => ∃ D1, KO w0 (c + 3) W g D1 K ∧ DeedR D (rightB nm) (ThereR nm SyncR) D1 0
  | 2 => ∃ D', KO w0 (c + 6) W g D' K ∧ SyncAllR nm D D' 0
  | _ => False
set_option maxRecDepth 100000 in
set_option maxHeartbeats 4000000 in
theorem logSync_any (w0 : World) (c g l : Nat) (D : DiskV) (K : List (Nat × Obj)) (nm : ByteArray) (kd : Int) (w : World) (h : KO w0 c w g D K) (hK : (l, logO g nm kd) ∈ K) (hs : nm.size ≤ maxLen) (hc : c + 3 ≤ 40000000) :
    Calls Tryz.prog 31 #[.pointer (some ⟨l, 0, none⟩)] w fun e w' => ∃ D' k, e = .returned (.int .i64 ((k : Nat) : Int)) ∧ KO w0 (c + 6) w' g D' K ∧ SyncAllR nm D D' k := by
  obtain ⟨x, hx⟩ : ∃ x, w.heap.size = x := ⟨_, rfl⟩
  have H := Lib.hid h
  have HK := Lib.hid hK
  have k0 := blk_cell (h.kept hK) 0
  clear h hK
  have hlw : ∀ W, Below w.heap.size w W → W.cell? ⟨l, 0, none⟩ = some (.pointer (some ⟨g, 0, none⟩)) := fun W hb => pw_cell_below hb k0
  have HLW := Lib.hid hlw
  have k1 := hlw _ (below_alloc (Below.refl w.heap.size w) (boxO l))
  clear hlw k0
  go_enter Tryz.func31, Tryz.ntmps31
  go_wp2_with fail
  --S3
  obtain ⟨W, hW⟩ : ∃ W, W = (w.alloc (boxO l)).alloc (.cells #[.func (.func 58) #[] #[.pointer (some ⟨x, 0, none⟩)], .func (.func 13) #[.pointer (some ⟨g, 0, none⟩)] #[]] 34) := ⟨_, rfl⟩
  obtain ⟨g0, g1, gs, hb⟩ : W.heap[x]? = some (boxO l) ∧ W.heap[x + 1]? = some (.cells #[.func (.func 58) #[] #[.pointer (some ⟨x, 0, none⟩)], .func (.func 13) #[.pointer (some ⟨g, 0, none⟩)] #[]] 34 (0, 0)) ∧ W.heap.size = x + 2 ∧ Below w.heap.size w W := by rw [hW]; exact allocs2 w _ _ hx
  rw [← hW]
  obtain ⟨K', hK'⟩ : ∃ K', K' = (x + 1, Obj.cells #[.func (.func 58) #[] #[.pointer (some ⟨x, 0, none⟩)], .func (.func 13) #[.pointer (some ⟨g, 0, none⟩)] #[]] 34 (0, 0)) :: (x, boxO l) :: K := ⟨_, rfl⟩
  have hko : KO w0 c W g D K' := by rw [hK']; exact KO.add2 H.out hb (by omega) g0 (by omega) g1
  have hL : (l, logO g nm kd) ∈ K' := by rw [hK']; exact .tail _ (.tail _ HK.out)
  have hX : (x, boxO l) ∈ K' := by rw [hK']; exact .tail _ (.head _)
  have hF : ∀ {c : Nat} {D : DiskV} {W : World}, KO w0 c W g D K' → Fs W (.slice (some ⟨x + 1, 0, none⟩) 2 2) [⟨58, #[], #[.pointer (some ⟨x, 0, none⟩)]⟩, ⟨13, #[.pointer (some ⟨g, 0, none⟩)], #[]⟩] := fun h => by
    have hk := h.kept (p := (x + 1, _)) (by rw [hK']; exact .head _)
    exact ⟨_, 2, rfl, by simp, by simp, fun _ => ⟨_, rfl, fun i z hz => by
      match i, hz with
      | 0, hz => obtain rfl := Option.some.inj hz; exact blk_cell hk 0
      | 1, hz => obtain rfl := Option.some.inj hz; exact blk_cell hk 1⟩⟩
  have hsub : ∀ p ∈ K, p ∈ K' := fun p hp => by rw [hK']; exact .tail _ (.tail _ hp)
  clear hW g0 g1 gs hb hK' k1 H HK HLW
  refine (deeds_all [⟨58, #[], #[.pointer (some ⟨x, 0, none⟩)]⟩, ⟨13, #[.pointer (some ⟨g, 0, none⟩)], #[]⟩] _ (syncI w0 c g nm D K') (fun k W => ∃ D', KO w0 (c + 6) W g D' K' ∧ SyncAllR nm D D' k) W (by simp) (fun j W hi => ?_) hko (fun z hz => ?_) (fun j z hz W hi => ?_)).mono ?_
  · match j, hi with
    | 0, hi => exact hF hi
    | 1, hi => obtain ⟨_, hi, _⟩ := hi; exact hF hi
    | 2, hi => obtain ⟨_, hi, _⟩ := hi; exact hF hi
  · rcases List.mem_cons.1 hz with rfl | hz
    · exact enters_of Tryz.func58 (by kernel_rfl) rfl
    · obtain rfl := List.mem_singleton.1 hz
      exact enters_of Tryz.func13 (by kernel_rfl) rfl
  · match j, hz, hi with
    | 0, hz, hi =>
      obtain rfl := Option.some.inj hz
      refine (logSync1_any w0 c g l x D K' nm kd W hi hL hX hs (by omega)).mono ?_
      rintro e w2 ⟨D1, k, rfl, h1, h2⟩
      by_cases hk : k = 0
      · subst hk; exact ⟨0, rfl, .inl ⟨rfl, D1, h1, h2⟩⟩
      · exact ⟨k, rfl, .inr ⟨hk, D1, h1.more (by omega), D1, k, h2, .inl ⟨hk, rfl, rfl⟩⟩⟩
    | 1, hz, hi =>
      obtain rfl := Option.some.inj hz
      obtain ⟨D1, h1, h2⟩ := hi
      refine (h1.syncDir (by omega)).mono ?_
      rintro e w2 ⟨D2, k, rfl, h3, h4⟩
      by_cases hk : k = 0
      · subst hk; exact ⟨0, rfl, .inl ⟨rfl, D2, h3, D1, 0, h2, .inr ⟨rfl, h4⟩⟩⟩
      · exact ⟨k, rfl, .inr ⟨hk, D2, h3, D1, 0, h2, .inr ⟨rfl, h4⟩⟩⟩
  · rintro e w2 ⟨k, rfl, h⟩
    have HE : Hid (∃ D' q, (Ending.returned (.int .i64 (k : Int))) = .returned (.int .i64 ((q : Nat) : Int)) ∧ KO w0 (c + 6) w2 g D' K ∧ SyncAllR nm D D' q) := by
      rcases h with ⟨rfl, D', h1, h2⟩ | ⟨_, D', h1, h2⟩
      · exact ⟨D', 0, rfl, h1.sub hsub, h2⟩
      · exact ⟨D', k, rfl, h1.sub hsub, h2⟩
    clear h hko hL hX hF hsub
    go_wp2
    go_ret
    exact HE.out
end Go.Proofs.YtononoakdebjeaaGreatDoor.Rec
namespace Go.Proofs.YtononoakdebjeaaGreatDoor.Rec
open Go.RowKit Go.Proofs.YtononoakdebjeaaGreatDoorW.PrintWords Go.Proofs.YtononoakdebjeaaGreatDoorW.PrintLast Go.Proofs.YtononoakdebjeaaGreatDoor.Base Go.Proofs.YtononoakdebjeaaGreatDoor.Path Go.Proofs.YtononoakdebjeaaGreatDoor.Pack Go.Proofs.YtononoakdebjeaaGreatDoor.Dk Go.Maps
set_option linter.unusedVariables false
set_option linter.unusedSimpArgs false
/-- A box that holds a name; one that holds bytes. -/
abbrev nameO (s : ByteArray) : Obj := .cells #[.string s] 9 (0, 0)
abbrev bytesO (v : Value) : Obj := .cells #[v] 23 (0, 0)
set_option maxRecDepth 100000 in
set_option maxHeartbeats 4000000 in
theorem rewrite1_any (w0 : World) (c g l x y z : Nat) (D : DiskV) (K : List (Nat × Obj)) (nm fr : ByteArray) (kd : Int) (v : Value) (xs : List Int) (w : World) (h : KO w0 c w g D K) (hK : (l, logO g nm kd) ∈ K) (hX : (x, boxO l) ∈ K) (hY : (y, nameO fr) ∈ K) (hZ : (z, bytesO v) ∈ K) (hv : Bk w0 w K v xs) (hl : xs.length ≤ 1000000) (hs : nm.size ≤ maxLen) (hf : fr.size ≤ maxLen) (hc : c ≤ 40000000) :
    Calls Tryz.prog 54 #[.pointer (some ⟨x, 0, none⟩), .pointer (some ⟨y, 0, none⟩), .pointer (some ⟨z, 0, none⟩)] w (KP w0 c g D K (rightB fr) (FreshR fr xs)) := by
  have H := Lib.hid h
  have K0 := Lib.hid (blk_cell (h.kept hK) 0)
  have K1 := Lib.hid (blk_cell (h.kept hK) 1)
  have KX := Lib.hid (blk_cell (h.kept hX) 0)
  have KY := Lib.hid (blk_cell (h.kept hY) 0)
  have KZ := Lib.hid (blk_cell (h.kept hZ) 0)
  obtain ⟨A, cp, rfl, _, _⟩ := hv.1.len
  clear hZ
  clear h hK hX hY
  have HAP : Hid (∀ W, Below w.heap.size w W → Calls Tryz.prog 11 #[.pointer (some ⟨g, 0, none⟩), .string fr, .slice A xs.length cp] W (KP w0 c g D K (rightB fr) (FreshR fr xs))) := fun W hb => (H.out.below hb).write fr _ xs hf ⟨hv.1.below hb, hv.2⟩ hl hc
  go_enter Tryz.func54, Tryz.ntmps54
  go_upto_region 1 with (fail)
  refine start_ (n := 8) (S := fun w' => Below w.heap.size w w' ∧ w'.cell? ⟨x, 0, none⟩ = some (.pointer (some ⟨l, 0, none⟩)) ∧ w'.cell? ⟨l, 0, none⟩ = some (.pointer (some ⟨g, 0, none⟩)) ∧ w'.cell? ⟨l, 1, none⟩ = some (.string nm) ∧ w'.cell? ⟨y, 0, none⟩ = some (.string fr) ∧ w'.cell? ⟨z, 0, none⟩ = some (.slice A xs.length cp)) (ds := [6]) #[false, false, false, false, false, false, false, false] (by kernel_rfl) rfl rfl ⟨Below.drew (Below.refl _ _), KX.out, K0.out, K1.out, KY.out, KZ.out⟩ (fun hHeld => ?_)
  refine take_ (i := 0) (N := some 4) (v := ?_) (a' := ?_) #[true, false, false, false, false, false, false, false] rfl rfl (by kernel_rfl) (fun _ _ _ h => h) (Or.inl ⟨by rfl, ?_⟩) hHeld ?_ ?_
  rotate_left
  · rintro w' ⟨s0, s1, s2, s3, s4, s5⟩
    go_simp
    with_reducible rfl
  rotate_left
  · simp only [Act.put, List.setIfInBounds_toArray, List.set_cons_zero, List.set_cons_succ, i64_w, i32_w]
    rfl
  refine pure_ (i := 1) (N := some 5) (v := ?_) (a' := ?_) #[true, true, false, false, false, false, false, false] rfl rfl (by kernel_rfl) (fun _ _ _ h => h) (Or.inl ⟨by rfl, ?_⟩) ?_ ?_
  rotate_left
  · intro w'
    go_simp
    with_reducible rfl
  rotate_left
  · simp only [Act.put, List.setIfInBounds_toArray, List.set_cons_zero, List.set_cons_succ, i64_w, i32_w]
    rfl
  refine pure_ (i := 2) (N := some 6) (v := ?_) (a' := ?_) #[true, true, true, false, false, false, false, false] rfl rfl (by kernel_rfl) (fun _ _ _ h => h) (Or.inl ⟨by rfl, ?_⟩) ?_ ?_
  rotate_left
  · intro w'
    go_simp
    with_reducible rfl
  rotate_left
  · simp only [Act.put, List.setIfInBounds_toArray, List.set_cons_zero, List.set_cons_succ, i64_w, i32_w]
    rfl
  refine take_ (i := 3) (N := some 7) (v := ?_) (a' := ?_) #[true, true, true, true, false, false, false, false] rfl rfl (by kernel_rfl) (fun _ _ _ h => h) (Or.inl ⟨by rfl, ?_⟩) hHeld ?_ ?_
  rotate_left
  · rintro w' ⟨s0, s1, s2, s3, s4, s5⟩
    go_simp
    with_reducible rfl
  rotate_left
  · simp only [Act.put, List.setIfInBounds_toArray, List.set_cons_zero, List.set_cons_succ, i64_w, i32_w]
    rfl
  refine take_ (i := 4) (N := some 8) (v := ?_) (a' := ?_) #[true, true, true, true, true, false, false, false] rfl rfl (by kernel_rfl) (fun _ _ _ h => h) (Or.inl ⟨by rfl, ?_⟩) hHeld ?_ ?_
  rotate_left
  · rintro w' ⟨s0, s1, s2, s3, s4, s5⟩
    go_simp
    with_reducible rfl
  rotate_left
  · simp only [Act.put, List.setIfInBounds_toArray, List.set_cons_zero, List.set_cons_succ, i64_w, i32_w]
    rfl
  refine take_ (i := 5) (N := some 9) (v := ?_) (a' := ?_) #[true, true, true, true, true, true, false, false] rfl rfl (by kernel_rfl) (fun _ _ _ h => h) (Or.inl ⟨by rfl, ?_⟩) hHeld ?_ ?_
  rotate_left
  · rintro w' ⟨s0, s1, s2, s3, s4, s5⟩
    go_simp
    with_reducible rfl
  rotate_left
  · simp only [Act.put, List.setIfInBounds_toArray, List.set_cons_zero, List.set_cons_succ, i64_w, i32_w]
    rfl
  refine last_ (i := 6) (N := some 10) #[true, true, true, true, true, true, true, false] rfl rfl (by kernel_rfl) (by decide) (fun K hK => ?_)
  refine goes_ Tryz.func11 (by kernel_rfl) rfl #[.pointer (some ⟨g, 0, none⟩), .string fr, .slice A xs.length cp] (by rfl) rfl rfl (by first | (simp only [List.map_toArray, List.map_cons, List.map_nil]; done) | (simp only [List.map_toArray, List.map_cons, List.map_nil]; rfl) | rfl) ?_
  with_reducible refine (HAP.out _ hHeld.1).mono ?_
  rintro e w2 hp
  have HP := Lib.hid hp
  obtain ⟨D', q, rfl, _⟩ := hp
  refine ⟨_, rfl, ?_⟩
  refine hK.out _ _ ?_
  clear hK K
  refine norm_ (a' := ?_) ?_ ?_
  rotate_left
  · show Act.put _ (some 10) _ = _
    simp only [Act.put, List.setIfInBounds_toArray, List.set_cons_zero, List.set_cons_succ, i64_w, i32_w]
    rfl
  refine pure_ (i := 7) (N := some 3) (v := ?_) (a' := ?_) #[true, true, true, true, true, true, true, true] rfl rfl (by kernel_rfl) (fun _ _ _ h => h) (Or.inl ⟨by rfl, ?_⟩) ?_ ?_
  rotate_left
  · intro w'
    go_simp
    with_reducible rfl
  rotate_left
  · simp only [Act.put, List.setIfInBounds_toArray, List.set_cons_zero, List.set_cons_succ, i64_w, i32_w]
    rfl
  refine done_ (by kernel_rfl) ?_
  go_wp2
  go_ret
  exact HP.out
set_option maxRecDepth 100000 in
set_option maxHeartbeats 4000000 in
theorem rewrite2_any (w0 : World) (c g l x y z : Nat) (D : DiskV) (K : List (Nat × Obj)) (nm fr : ByteArray) (kd : Int) (w : World) (h : KO w0 c w g D K) (hK : (l, logO g nm kd) ∈ K) (hX : (x, boxO l) ∈ K) (hY : (y, nameO fr) ∈ K) (hs : nm.size ≤ maxLen) (hf : fr.size ≤ maxLen) (hc : c ≤ 40000000) :
    Calls Tryz.prog 55 #[.pointer (some ⟨x, 0, none⟩), .pointer (some ⟨y, 0, none⟩)] w (KP w0 c g D K (rightB fr) (ThereR fr SyncR)) := by
  have H := Lib.hid h
  have K0 := Lib.hid (blk_cell (h.kept hK) 0)
  have K1 := Lib.hid (blk_cell (h.kept hK) 1)
  have KX := Lib.hid (blk_cell (h.kept hX) 0)
  have KY := Lib.hid (blk_cell (h.kept hY) 0)
  clear h hK hX hY
  have HAP : Hid (∀ W, Below w.heap.size w W → Calls Tryz.prog 12 #[.pointer (some ⟨g, 0, none⟩), .string fr] W (KP w0 c g D K (rightB fr) (ThereR fr SyncR))) := fun W hb => (H.out.below hb).sync fr hf hc
  go_enter Tryz.func55, Tryz.ntmps55
  go_upto_region 1 with (fail)
  refine start_ (n := 7) (S := fun w' => Below w.heap.size w w' ∧ w'.cell? ⟨x, 0, none⟩ = some (.pointer (some ⟨l, 0, none⟩)) ∧ w'.cell? ⟨l, 0, none⟩ = some (.pointer (some ⟨g, 0, none⟩)) ∧ w'.cell? ⟨l, 1, none⟩ = some (.string nm) ∧ w'.cell? ⟨y, 0, none⟩ = some (.string fr)) (ds := [5]) #[false, false, false, false, false, false, false] (by kernel_rfl) rfl rfl ⟨Below.drew (Below.refl _ _), KX.out, K0.out, K1.out, KY.out⟩ (fun hHeld => ?_)
  refine take_ (i := 0) (N := some 3) (v := ?_) (a' := ?_) #[true, false, false, false, false, false, false] rfl rfl (by kernel_rfl) (fun _ _ _ h => h) (Or.inl ⟨by rfl, ?_⟩) hHeld ?_ ?_
  rotate_left
  · rintro w' ⟨s0, s1, s2, s3, s4⟩
    go_simp
    with_reducible rfl
  rotate_left
  · simp only [Act.put, List.setIfInBounds_toArray, List.set_cons_zero, List.set_cons_succ, i64_w, i32_w]
    rfl
  refine pure_ (i := 1) (N := some 4) (v := ?_) (a' := ?_) #[true, true, false, false, false, false, false] rfl rfl (by kernel_rfl) (fun _ _ _ h => h) (Or.inl ⟨by rfl, ?_⟩) ?_ ?_
  rotate_left
  · intro w'
    go_simp
    with_reducible rfl
  rotate_left
  · simp only [Act.put, List.setIfInBounds_toArray, List.set_cons_zero, List.set_cons_succ, i64_w, i32_w]
    rfl
  refine pure_ (i := 2) (N := some 5) (v := ?_) (a' := ?_) #[true, true, true, false, false, false, false] rfl rfl (by kernel_rfl) (fun _ _ _ h => h) (Or.inl ⟨by rfl, ?_⟩) ?_ ?_
  rotate_left
  · intro w'
    go_simp
    with_reducible rfl
  rotate_left
  · simp only [Act.put, List.setIfInBounds_toArray, List.set_cons_zero, List.set_cons_succ, i64_w, i32_w]
    rfl
  refine take_ (i := 3) (N := some 6) (v := ?_) (a' := ?_) #[true, true, true, true, false, false, false] rfl rfl (by kernel_rfl) (fun _ _ _ h => h) (Or.inl ⟨by rfl, ?_⟩) hHeld ?_ ?_
  rotate_left
  · rintro w' ⟨s0, s1, s2, s3, s4⟩
    go_simp
    with_reducible rfl
  rotate_left
  · simp only [Act.put, List.setIfInBounds_toArray, List.set_cons_zero, List.set_cons_succ, i64_w, i32_w]
    rfl
  refine take_ (i := 4) (N := some 7) (v := ?_) (a' := ?_) #[true, true, true, true, true, false, false] rfl rfl (by kernel_rfl) (fun _ _ _ h => h) (Or.inl ⟨by rfl, ?_⟩) hHeld ?_ ?_
  rotate_left
  · rintro w' ⟨s0, s1, s2, s3, s4⟩
    go_simp
    with_reducible rfl
  rotate_left
  · simp only [Act.put, List.setIfInBounds_toArray, List.set_cons_zero, List.set_cons_succ, i64_w, i32_w]
    rfl
  refine last_ (i := 5) (N := some 8) #[true, true, true, true, true, true, false] rfl rfl (by kernel_rfl) (by decide) (fun K hK => ?_)
  refine goes_ Tryz.func12 (by kernel_rfl) rfl #[.pointer (some ⟨g, 0, none⟩), .string fr] (by rfl) rfl rfl (by first | (simp only [List.map_toArray, List.map_cons, List.map_nil]; done) | (simp only [List.map_toArray, List.map_cons, List.map_nil]; rfl) | rfl) ?_
  with_reducible refine (HAP.out _ hHeld.1).mono ?_
  rintro e w2 hp
  have HP := Lib.hid hp
  obtain ⟨D', q, rfl, _⟩ := hp
  refine ⟨_, rfl, ?_⟩
  refine hK.out _ _ ?_
  clear hK K
  refine norm_ (a' := ?_) ?_ ?_
  rotate_left
  · show Act.put _ (some 8) _ = _
    simp only [Act.put, List.setIfInBounds_toArray, List.set_cons_zero, List.set_cons_succ, i64_w, i32_w]
    rfl
  refine pure_ (i := 6) (N := some 2) (v := ?_) (a' := ?_) #[true, true, true, true, true, true, true] rfl rfl (by kernel_rfl) (fun _ _ _ h => h) (Or.inl ⟨by rfl, ?_⟩) ?_ ?_
  rotate_left
  · intro w'
    go_simp
    with_reducible rfl
  rotate_left
  · simp only [Act.put, List.setIfInBounds_toArray, List.set_cons_zero, List.set_cons_succ, i64_w, i32_w]
    rfl
  refine done_ (by kernel_rfl) ?_
  go_wp2
  go_ret
  exact HP.out
set_option maxRecDepth 100000 in
set_option maxHeartbeats 4000000 in
theorem rewrite3_any (w0 : World) (c g l x y z : Nat) (D : DiskV) (K : List (Nat × Obj)) (nm fr : ByteArray) (kd : Int) (w : World) (h : KO w0 c w g D K) (hK : (l, logO g nm kd) ∈ K) (hX : (x, boxO l) ∈ K) (hY : (y, nameO fr) ∈ K) (hs : nm.size ≤ maxLen) (hf : fr.size ≤ maxLen) (hc : c ≤ 40000000) :
    Calls Tryz.prog 56 #[.pointer (some ⟨x, 0, none⟩), .pointer (some ⟨y, 0, none⟩)] w (KP w0 c g D K (rightB fr && rightB nm) (ThereR fr (RenameR fr nm))) := by
  have H := Lib.hid h
  have K0 := Lib.hid (blk_cell (h.kept hK) 0)
  have K1 := Lib.hid (blk_cell (h.kept hK) 1)
  have KX := Lib.hid (blk_cell (h.kept hX) 0)
  have KY := Lib.hid (blk_cell (h.kept hY) 0)
  clear h hK hX hY
  have HAP : Hid (∀ W, Below w.heap.size w W → Calls Tryz.prog 47 #[.pointer (some ⟨g, 0, none⟩), .string fr, .string nm] W (KP w0 c g D K (rightB fr && rightB nm) (ThereR fr (RenameR fr nm)))) := fun W hb => (H.out.below hb).rename fr nm hf hs hc
  go_enter Tryz.func56, Tryz.ntmps56
  go_upto_region 1 with (fail)
  refine start_ (n := 11) (S := fun w' => Below w.heap.size w w' ∧ w'.cell? ⟨x, 0, none⟩ = some (.pointer (some ⟨l, 0, none⟩)) ∧ w'.cell? ⟨l, 0, none⟩ = some (.pointer (some ⟨g, 0, none⟩)) ∧ w'.cell? ⟨l, 1, none⟩ = some (.string nm) ∧ w'.cell? ⟨y, 0, none⟩ = some (.string fr)) (ds := [9]) #[false, false, false, false, false, false, false, false, false, false, false] (by kernel_rfl) rfl rfl ⟨Below.drew (Below.refl _ _), KX.out, K0.out, K1.out, KY.out⟩ (fun hHeld => ?_)
  refine take_ (i := 0) (N := some 3) (v := ?_) (a' := ?_) #[true, false, false, false, false, false, false, false, false, false, false] rfl rfl (by kernel_rfl) (fun _ _ _ h => h) (Or.inl ⟨by rfl, ?_⟩) hHeld ?_ ?_
  rotate_left
  · rintro w' ⟨s0, s1, s2, s3, s4⟩
    go_simp
    with_reducible rfl
  rotate_left
  · simp only [Act.put, List.setIfInBounds_toArray, List.set_cons_zero, List.set_cons_succ, i64_w, i32_w]
    rfl
  refine pure_ (i := 1) (N := some 4) (v := ?_) (a' := ?_) #[true, true, false, false, false, false, false, false, false, false, false] rfl rfl (by kernel_rfl) (fun _ _ _ h => h) (Or.inl ⟨by rfl, ?_⟩) ?_ ?_
  rotate_left
  · intro w'
    go_simp
    with_reducible rfl
  rotate_left
  · simp only [Act.put, List.setIfInBounds_toArray, List.set_cons_zero, List.set_cons_succ, i64_w, i32_w]
    rfl
  refine pure_ (i := 2) (N := some 5) (v := ?_) (a' := ?_) #[true, true, true, false, false, false, false, false, false, false, false] rfl rfl (by kernel_rfl) (fun _ _ _ h => h) (Or.inl ⟨by rfl, ?_⟩) ?_ ?_
  rotate_left
  · intro w'
    go_simp
    with_reducible rfl
  rotate_left
  · simp only [Act.put, List.setIfInBounds_toArray, List.set_cons_zero, List.set_cons_succ, i64_w, i32_w]
    rfl
  refine take_ (i := 3) (N := some 6) (v := ?_) (a' := ?_) #[true, true, true, true, false, false, false, false, false, false, false] rfl rfl (by kernel_rfl) (fun _ _ _ h => h) (Or.inl ⟨by rfl, ?_⟩) hHeld ?_ ?_
  rotate_left
  · rintro w' ⟨s0, s1, s2, s3, s4⟩
    go_simp
    with_reducible rfl
  rotate_left
  · simp only [Act.put, List.setIfInBounds_toArray, List.set_cons_zero, List.set_cons_succ, i64_w, i32_w]
    rfl
  refine take_ (i := 4) (N := some 7) (v := ?_) (a' := ?_) #[true, true, true, true, true, false, false, false, false, false, false] rfl rfl (by kernel_rfl) (fun _ _ _ h => h) (Or.inl ⟨by rfl, ?_⟩) hHeld ?_ ?_
  rotate_left
  · rintro w' ⟨s0, s1, s2, s3, s4⟩
    go_simp
    with_reducible rfl
  rotate_left
  · simp only [Act.put, List.setIfInBounds_toArray, List.set_cons_zero, List.set_cons_succ, i64_w, i32_w]
    rfl
  refine take_ (i := 5) (N := some 8) (v := ?_) (a' := ?_) #[true, true, true, true, true, true, false, false, false, false, false] rfl rfl (by kernel_rfl) (fun _ _ _ h => h) (Or.inl ⟨by rfl, ?_⟩) hHeld ?_ ?_
  rotate_left
  · rintro w' ⟨s0, s1, s2, s3, s4⟩
    go_simp
    with_reducible rfl
  rotate_left
  · simp only [Act.put, List.setIfInBounds_toArray, List.set_cons_zero, List.set_cons_succ, i64_w, i32_w]
    rfl
  refine pure_ (i := 6) (N := some 9) (v := ?_) (a' := ?_) #[true, true, true, true, true, true, true, false, false, false, false] rfl rfl (by kernel_rfl) (fun _ _ _ h => h) (Or.inl ⟨by rfl, ?_⟩) ?_ ?_
  rotate_left
  · intro w'
    go_simp
    with_reducible rfl
  rotate_left
  · simp only [Act.put, List.setIfInBounds_toArray, List.set_cons_zero, List.set_cons_succ, i64_w, i32_w]
    rfl
  refine pure_ (i := 7) (N := some 10) (v := ?_) (a' := ?_) #[true, true, true, true, true, true, true, true, false, false, false] rfl rfl (by kernel_rfl) (fun _ _ _ h => h) (Or.inl ⟨by rfl, ?_⟩) ?_ ?_
  rotate_left
  · intro w'
    go_simp
    with_reducible rfl
  rotate_left
  · simp only [Act.put, List.setIfInBounds_toArray, List.set_cons_zero, List.set_cons_succ, i64_w, i32_w]
    rfl
  refine take_ (i := 8) (N := some 11) (v := ?_) (a' := ?_) #[true, true, true, true, true, true, true, true, true, false, false] rfl rfl (by kernel_rfl) (fun _ _ _ h => h) (Or.inl ⟨by rfl, ?_⟩) hHeld ?_ ?_
  rotate_left
  · rintro w' ⟨s0, s1, s2, s3, s4⟩
    go_simp
    with_reducible rfl
  rotate_left
  · simp only [Act.put, List.setIfInBounds_toArray, List.set_cons_zero, List.set_cons_succ, i64_w, i32_w]
    rfl
  refine last_ (i := 9) (N := some 12) #[true, true, true, true, true, true, true, true, true, true, false] rfl rfl (by kernel_rfl) (by decide) (fun K hK => ?_)
  refine goes_ Tryz.func47 (by kernel_rfl) rfl #[.pointer (some ⟨g, 0, none⟩), .string fr, .string nm] (by rfl) rfl rfl (by first | (simp only [List.map_toArray, List.map_cons, List.map_nil]; done) | (simp only [List.map_toArray, List.map_cons, List.map_nil]; rfl) | rfl) ?_
  with_reducible refine (HAP.out _ hHeld.1).mono ?_
  rintro e w2 hp
  have HP := Lib.hid hp
  obtain ⟨D', q, rfl, _⟩ := hp
  refine ⟨_, rfl, ?_⟩
  refine hK.out _ _ ?_
  clear hK K
  refine norm_ (a' := ?_) ?_ ?_
  rotate_left
  · show Act.put _ (some 12) _ = _
    simp only [Act.put, List.setIfInBounds_toArray, List.set_cons_zero, List.set_cons_succ, i64_w, i32_w]
    rfl
  refine pure_ (i := 10) (N := some 2) (v := ?_) (a' := ?_) #[true, true, true, true, true, true, true, true, true, true, true] rfl rfl (by kernel_rfl) (fun _ _ _ h => h) (Or.inl ⟨by rfl, ?_⟩) ?_ ?_
  rotate_left
  · intro w'
    go_simp
    with_reducible rfl
  rotate_left
  · simp only [Act.put, List.setIfInBounds_toArray, List.set_cons_zero, List.set_cons_succ, i64_w, i32_w]
    rfl
  refine done_ (by kernel_rfl) ?_
  go_wp2
  go_ret
  exact HP.out
end Go.Proofs.YtononoakdebjeaaGreatDoor.Rec
namespace Go.Proofs.YtononoakdebjeaaGreatDoor.Rec
open Go.RowKit Go.Proofs.YtononoakdebjeaaGreatDoorW.PrintWords Go.Proofs.YtononoakdebjeaaGreatDoorW.PrintLast Go.Proofs.YtononoakdebjeaaGreatDoor.Base Go.Proofs.YtononoakdebjeaaGreatDoor.Path Go.Proofs.YtononoakdebjeaaGreatDoor.Pack Go.Proofs.YtononoakdebjeaaGreatDoor.Dk Go.Maps
set_option linter.unusedVariables false
set_option linter.unusedSimpArgs false
def newName (nm : ByteArray) : ByteArray := nm ++ ⟨#[46, 110, 101, 119]⟩
theorem KO.add3 {w0 w w' : World} {c g : Nat} {D : DiskV} {K : List (Nat × Obj)} (h : KO w0 c w g D K) (hb : Below w.heap.size w w') {x y z : Nat} {o p q : Obj} (hx : w.heap.size ≤ x) (ho : w'.heap[x]? = some o) (hy : w.heap.size ≤ y) (hp : w'.heap[y]? = some p) (hz : w.heap.size ≤ z) (hq : w'.heap[z]? = some q) : KO w0 c w' g D ((z, q) :: (y, p) :: (x, o) :: K) := by
  obtain ⟨S, h1, h2, h3, h4⟩ := h
  refine ⟨S, h1.below hb, h2, h3.trans (hb.mono h3.size), fun r hr => ?_⟩
  rcases List.mem_cons.1 hr with rfl | hr
  · exact ⟨fun hs => by have := h1.lt _ hs; simp only at this; omega, hq⟩
  rcases List.mem_cons.1 hr with rfl | hr
  · exact ⟨fun hs => by have := h1.lt _ hs; simp only at this; omega, hp⟩
  rcases List.mem_cons.1 hr with rfl | hr
  · exact ⟨fun hs => by have := h1.lt _ hs; simp only at this; omega, ho⟩
  · exact ⟨(h4 r hr).1, (hb.block r.1 (blk_lt (h4 r hr).2)).trans (h4 r hr).2⟩
def RewR (nm fr : ByteArray) (xs : List Int) (D D' : DiskV) (k : Nat) : Prop :=
  ∃ D1 k1, DeedR D (rightB fr) (FreshR fr xs) D1 k1 ∧ ((k1 ≠ 0 ∧ D' = D1 ∧ k = k1) ∨ (k1 = 0 ∧ ∃ D2 k2, DeedR D1 (rightB fr) (ThereR fr SyncR) D2 k2 ∧ ((k2 ≠ 0 ∧ D' = D2 ∧ k = k2) ∨ (k2 = 0 ∧ ∃ D3 k3, DeedR D2 (rightB fr && rightB nm) (ThereR fr (RenameR fr nm)) D3 k3 ∧ ((k3 ≠ 0 ∧ D' = D3 ∧ k = k3) ∨ (k3 = 0 ∧ DeedR D3 true SyncDirR D' k))))))
def rewI (w0 : World) (c g : Nat) (nm fr : ByteArray) (v : Value) (xs : List Int) (D : DiskV) (K : List (Nat × Obj)) (j : Nat) (W : World) : Prop :=
  match j with
  | 0 => KO w0 c W g D K ∧ Bk w0 W K v xs
  | 1 => ∃ D1, KO w0 (c + 3) W g D1 K ∧ DeedR D (rightB fr) (FreshR fr xs) D1 0
  | 2 => ∃ D2, KO w0 (c + 6) W g D2 K ∧ ∃ D1, DeedR D (rightB fr) (FreshR fr xs) D1 0 ∧ DeedR D1 (rightB fr) (ThereR fr SyncR) D2 0
  | 3 => ∃ D3, KO w0 (c + 9) W g D3 K ∧ ∃ D1 D2, DeedR D (rightB fr) (FreshR fr xs) D1 0 ∧ DeedR D1 (rightB fr) (ThereR fr SyncR) D2 0 ∧ DeedR D2 (rightB fr && rightB nm) (ThereR fr (RenameR fr nm)) D3 0
  | 4 => ∃ D', KO w0 (c + 12) W g D' K ∧ RewR nm fr xs D D' 0
  | _ => False
set_option maxRecDepth 100000 in
set_option maxHeartbeats 4000000 in
theorem logRewrite_any (w0 : World) (c g l : Nat) (D : DiskV) (K : List (Nat × Obj)) (nm : ByteArray) (kd : Int) (v : Value) (rs : List (List Int)) (w : World) (h : KO w0 c w g D K) (hK : (l, logO g nm kd) ∈ K) (hs : nm.size ≤ 1000) (hr : Rs w v rs) (hB : ∀ r ∈ rs, Bytes r) (hL : ∀ r ∈ rs, r.length ≤ 4096) (hn : rs.length ≤ 200) (hc : c + 9 ≤ 40000000) :
    Calls Tryz.prog 27 #[.pointer (some ⟨l, 0, none⟩), v] w fun e w' => ∃ D' k, e = .returned (.int .i64 ((k : Nat) : Int)) ∧ KO w0 (c + 12) w' g D' K ∧ RewR nm (nm ++ ⟨#[46, 110, 101, 119]⟩) (headBytes kd ++ frs rs) D D' k := by
  obtain ⟨x, hx⟩ : ∃ x, w.heap.size = x := ⟨_, rfl⟩
  have H := Lib.hid h
  have HK := Lib.hid hK
  have k0 := blk_cell (h.kept hK) 2
  have k1 := pw_cell_below (below_alloc (Below.refl w.heap.size w) (boxO l)) k0
  have HR := Lib.hid hr
  have HB := Lib.hid hB
  have HL := Lib.hid hL
  clear h hK k0 hr hB hL
  go_enter Tryz.func27, Tryz.ntmps27
  go_wp2_with fail
  refine (head_any kd _).mono ?_
  rintro e w1 ⟨v1, rfl, o1⟩
  have hw : Below w.heap.size w (w.alloc (boxO l)) := below_alloc (Below.refl _ _) _
  have HO1 := Lib.hid o1
  clear o1
  go_wp2_with fail
  refine (frames_any _ _ _ (headBytes kd) rs w1 HO1.out (HR.out.below hw) HB.out HL.out (by omega) (by simp [headBytes])).mono ?_
  rintro e w2 ⟨v2, rfl, o2⟩
  have HLEN : Hid ((headBytes kd ++ frs rs).length ≤ 1000000) := by
    have h1 : ∀ l : List (List Int), (∀ r ∈ l, r.length ≤ 4096) → (frs l).length ≤ 4104 * l.length := by
      intro l
      induction l with
      | nil => intro _; exact Nat.le_refl _
      | cons a l ih =>
        intro h
        have h2 := ih (fun r hr => h r (.tail _ hr))
        have h3 := h a (.head _)
        have e : (frs (a :: l)).length = (frameBytes a).length + (frs l).length := by simp [frs]
        rw [e, frame_len, List.length_cons]
        omega
    have h2 := h1 rs HL.out
    show _ ≤ _
    rw [List.length_append]
    have h3 : (headBytes kd).length = 8 := by simp [headBytes]
    omega
  obtain ⟨A2, n2, c2, rfl, hn2⟩ := o2.slice
  have h1 : KO w0 c (w.alloc (boxO l)) g D ((x, boxO l) :: K) := H.out.add hw (by omega) (alloc_at w _ hx)
  obtain ⟨K3, h3, hs3, hb3⟩ := h1.ow o2
  have hm2 : n2 ≤ 9223372036854775807 := by
    obtain ⟨_, _, e, _, h⟩ := o2.bs.len
    cases e
    exact h
  clear o2 hn2 h1
  have HB3 := Lib.hid hb3
  have HSUB : Hid (∀ p ∈ K, p ∈ K3) := fun p hp => hs3 p (.tail _ hp)
  obtain ⟨z, hz⟩ : ∃ z, w2.heap.size = z := ⟨_, rfl⟩
  obtain ⟨W3, hW3⟩ : ∃ W3, W3 = w2.alloc (bytesO (.slice A2 n2 c2)) := ⟨_, rfl⟩
  have hb4 : Below w2.heap.size w2 W3 := by rw [hW3]; exact below_alloc (Below.refl _ _) _
  have h4 : KO w0 c W3 g D ((z, bytesO (.slice A2 n2 c2)) :: K3) := h3.add hb4 (by omega) (by rw [hW3]; exact alloc_at w2 _ hz)
  have HX4 := Lib.hid (hs3 (x, boxO l) (.head _))
  have HL4 := Lib.hid (hs3 (l, logO g nm kd) (.tail _ HK.out))
  have H4 := Lib.hid h4
  have H3 := Lib.hid h3
  clear h3 hb3 h4 hs3 k1
  have k2 := blk_cell (H4.out.kept (.tail _ HX4.out)) 0
  have k3 := blk_cell (H4.out.kept (.tail _ HL4.out)) 1
  have k4 := blk_cell (H4.out.kept (.tail _ HL4.out)) 0
  have hb5 : Below W3.heap.size W3 (W3.alloc (nameO (nm ++ ⟨#[46, 110, 101, 119]⟩))) := below_alloc (Below.refl _ _) _
  have k5 := pw_cell_below hb5 k2
  have k6 := pw_cell_below hb5 k4
  rw [hW3] at k2 k3 k4 k5 k6
  --S1
  go_wp2_with fail
  obtain ⟨fr, hfr⟩ : ∃ fr, fr = nm ++ (⟨#[46, 110, 101, 119]⟩ : ByteArray) := ⟨_, rfl⟩
  have hfs : fr.size ≤ maxLen := by rw [hfr, ByteArray.size_append]; simp only [maxLen]; show nm.size + 4 ≤ _; omega
  have hns : nm.size ≤ maxLen := by simp only [maxLen]; omega
  rw [← hfr]
  obtain ⟨W, hW⟩ : ∃ W, W = ((w2.alloc (bytesO (.slice A2 n2 c2))).alloc (nameO fr)).alloc (.cells #[.func (.func 54) #[] #[.pointer (some ⟨x, 0, none⟩), .pointer (some ⟨z + 1, 0, none⟩), .pointer (some ⟨z, 0, none⟩)], .func (.func 55) #[] #[.pointer (some ⟨x, 0, none⟩), .pointer (some ⟨z + 1, 0, none⟩)], .func (.func 56) #[] #[.pointer (some ⟨x, 0, none⟩), .pointer (some ⟨z + 1, 0, none⟩)], .func (.func 13) #[.pointer (some ⟨g, 0, none⟩)] #[]] 34 (0, 0)) := ⟨_, rfl⟩
  obtain ⟨g0, g1, g2, gs, hb⟩ : W.heap[z]? = some (bytesO (.slice A2 n2 c2)) ∧ W.heap[z + 1]? = some (nameO fr) ∧ W.heap[z + 1 + 1]? = some (.cells #[.func (.func 54) #[] #[.pointer (some ⟨x, 0, none⟩), .pointer (some ⟨z + 1, 0, none⟩), .pointer (some ⟨z, 0, none⟩)], .func (.func 55) #[] #[.pointer (some ⟨x, 0, none⟩), .pointer (some ⟨z + 1, 0, none⟩)], .func (.func 56) #[] #[.pointer (some ⟨x, 0, none⟩), .pointer (some ⟨z + 1, 0, none⟩)], .func (.func 13) #[.pointer (some ⟨g, 0, none⟩)] #[]] 34 (0, 0)) ∧ W.heap.size = z + 3 ∧ Below w2.heap.size w2 W := by rw [hW]; exact allocs3 w2 _ _ _ hz
  rw [← hW]
  obtain ⟨K', hK'⟩ : ∃ K', K' = (z + 1 + 1, .cells #[.func (.func 54) #[] #[.pointer (some ⟨x, 0, none⟩), .pointer (some ⟨z + 1, 0, none⟩), .pointer (some ⟨z, 0, none⟩)], .func (.func 55) #[] #[.pointer (some ⟨x, 0, none⟩), .pointer (some ⟨z + 1, 0, none⟩)], .func (.func 56) #[] #[.pointer (some ⟨x, 0, none⟩), .pointer (some ⟨z + 1, 0, none⟩)], .func (.func 13) #[.pointer (some ⟨g, 0, none⟩)] #[]] 34 (0, 0)) :: (z + 1, nameO fr) :: (z, bytesO (.slice A2 n2 c2)) :: K3 := ⟨_, rfl⟩
  have hko : KO w0 c W g D K' := by rw [hK']; exact KO.add3 H3.out hb (by omega) g0 (by omega) g1 (by omega) g2
  have hbk : Bk w0 W K' (.slice A2 n2 c2) (headBytes kd ++ frs rs) := ⟨HB3.out.1.below hb, fun hl k hk => (HB3.out.2 hl k hk).elim .inl (fun ⟨p, hp, e⟩ => .inr ⟨p, by rw [hK']; exact .tail _ (.tail _ (.tail _ hp)), e⟩)⟩
  have hL : (l, logO g nm kd) ∈ K' := by rw [hK']; exact .tail _ (.tail _ (.tail _ HL4.out))
  have hX : (x, boxO l) ∈ K' := by rw [hK']; exact .tail _ (.tail _ (.tail _ HX4.out))
  have hY : (z + 1, nameO fr) ∈ K' := by rw [hK']; exact .tail _ (.head _)
  have hZ : (z, bytesO (.slice A2 n2 c2)) ∈ K' := by rw [hK']; exact .tail _ (.tail _ (.head _))
  have hF : ∀ {c : Nat} {D : DiskV} {W : World}, KO w0 c W g D K' → Fs W (.slice (some ⟨z + 1 + 1, 0, none⟩) 4 4) [⟨54, #[], #[.pointer (some ⟨x, 0, none⟩), .pointer (some ⟨z + 1, 0, none⟩), .pointer (some ⟨z, 0, none⟩)]⟩, ⟨55, #[], #[.pointer (some ⟨x, 0, none⟩), .pointer (some ⟨z + 1, 0, none⟩)]⟩, ⟨56, #[], #[.pointer (some ⟨x, 0, none⟩), .pointer (some ⟨z + 1, 0, none⟩)]⟩, ⟨13, #[.pointer (some ⟨g, 0, none⟩)], #[]⟩] := fun h => by
    have hk := h.kept (p := (z + 1 + 1, _)) (by rw [hK']; exact .head _)
    exact ⟨_, 4, rfl, by simp, by simp, fun _ => ⟨_, rfl, fun i u hu => by
      match i, hu with
      | 0, hu => obtain rfl := Option.some.inj hu; exact blk_cell hk 0
      | 1, hu => obtain rfl := Option.some.inj hu; exact blk_cell hk 1
      | 2, hu => obtain rfl := Option.some.inj hu; exact blk_cell hk 2
      | 3, hu => obtain rfl := Option.some.inj hu; exact blk_cell hk 3⟩⟩
  have hsub : ∀ p ∈ K, p ∈ K' := fun p hp => by rw [hK']; exact .tail _ (.tail _ (.tail _ (HSUB.out p hp)))
  have hxl : (headBytes kd ++ frs rs).length ≤ 1000000 := HLEN.out
  clear hW g0 g1 g2 gs hb hK' k2 k3 k4 k5 k6 hb4 hb5 hW3 hz hw hx hm2
  refine (deeds_all [⟨54, #[], #[.pointer (some ⟨x, 0, none⟩), .pointer (some ⟨z + 1, 0, none⟩), .pointer (some ⟨z, 0, none⟩)]⟩, ⟨55, #[], #[.pointer (some ⟨x, 0, none⟩), .pointer (some ⟨z + 1, 0, none⟩)]⟩, ⟨56, #[], #[.pointer (some ⟨x, 0, none⟩), .pointer (some ⟨z + 1, 0, none⟩)]⟩, ⟨13, #[.pointer (some ⟨g, 0, none⟩)], #[]⟩] _ (rewI w0 c g nm fr (.slice A2 n2 c2) (headBytes kd ++ frs rs) D K') (fun k W => ∃ D', KO w0 (c + 12) W g D' K' ∧ RewR nm fr (headBytes kd ++ frs rs) D D' k) W (by simp) (fun j W hi => ?_) ⟨hko, hbk⟩ (fun u hu => ?_) (fun j u hu W hi => ?_)).mono ?_
  · match j, hi with
    | 0, hi => exact hF hi.1
    | 1, hi => obtain ⟨_, hi, _⟩ := hi; exact hF hi
    | 2, hi => obtain ⟨_, hi, _⟩ := hi; exact hF hi
    | 3, hi => obtain ⟨_, hi, _⟩ := hi; exact hF hi
    | 4, hi => obtain ⟨_, hi, _⟩ := hi; exact hF hi
  · rcases List.mem_cons.1 hu with rfl | hu
    · exact enters_of Tryz.func54 (by kernel_rfl) rfl
    rcases List.mem_cons.1 hu with rfl | hu
    · exact enters_of Tryz.func55 (by kernel_rfl) rfl
    rcases List.mem_cons.1 hu with rfl | hu
    · exact enters_of Tryz.func56 (by kernel_rfl) rfl
    · obtain rfl := List.mem_singleton.1 hu
      exact enters_of Tryz.func13 (by kernel_rfl) rfl
  · match j, hu, hi with
    | 0, hu, hi =>
      obtain rfl := Option.some.inj hu
      refine (rewrite1_any w0 c g l x (z + 1) z D K' nm fr kd (.slice A2 n2 c2) (headBytes kd ++ frs rs) W hi.1 hL hX hY hZ hi.2 hxl hns hfs (by omega)).mono ?_
      rintro e w3 ⟨D1, k, rfl, h1, h2⟩
      by_cases hk : k = 0
      · subst hk; exact ⟨0, rfl, .inl ⟨rfl, D1, h1, h2⟩⟩
      · exact ⟨k, rfl, .inr ⟨hk, D1, h1.more (by omega), D1, k, h2, .inl ⟨hk, rfl, rfl⟩⟩⟩
    | 1, hu, hi =>
      obtain rfl := Option.some.inj hu
      obtain ⟨D1, h1, h2⟩ := hi
      refine (rewrite2_any w0 (c + 3) g l x (z + 1) z D1 K' nm fr kd W h1 hL hX hY hns hfs (by omega)).mono ?_
      rintro e w3 ⟨D2, k, rfl, h3, h4⟩
      by_cases hk : k = 0
      · subst hk; exact ⟨0, rfl, .inl ⟨rfl, D2, h3, D1, h2, h4⟩⟩
      · exact ⟨k, rfl, .inr ⟨hk, D2, h3.more (by omega), D1, 0, h2, .inr ⟨rfl, D2, k, h4, .inl ⟨hk, rfl, rfl⟩⟩⟩⟩
    | 2, hu, hi =>
      obtain rfl := Option.some.inj hu
      obtain ⟨D2, h2, D1, r1, r2⟩ := hi
      refine (rewrite3_any w0 (c + 6) g l x (z + 1) z D2 K' nm fr kd W h2 hL hX hY hns hfs (by omega)).mono ?_
      rintro e w3 ⟨D3, k, rfl, h3, h4⟩
      by_cases hk : k = 0
      · subst hk; exact ⟨0, rfl, .inl ⟨rfl, D3, h3, D1, D2, r1, r2, h4⟩⟩
      · exact ⟨k, rfl, .inr ⟨hk, D3, h3.more (by omega), D1, 0, r1, .inr ⟨rfl, D2, 0, r2, .inr ⟨rfl, D3, k, h4, .inl ⟨hk, rfl, rfl⟩⟩⟩⟩⟩
    | 3, hu, hi =>
      obtain rfl := Option.some.inj hu
      obtain ⟨D3, h3, D1, D2, r1, r2, r3⟩ := hi
      refine (h3.syncDir (by omega)).mono ?_
      rintro e w3 ⟨D4, k, rfl, h4, r4⟩
      have hR : RewR nm fr (headBytes kd ++ frs rs) D D4 k := ⟨D1, 0, r1, .inr ⟨rfl, D2, 0, r2, .inr ⟨rfl, D3, 0, r3, .inr ⟨rfl, r4⟩⟩⟩⟩
      by_cases hk : k = 0
      · subst hk; exact ⟨0, rfl, .inl ⟨rfl, D4, h4, hR⟩⟩
      · exact ⟨k, rfl, .inr ⟨hk, D4, h4, hR⟩⟩
  · rintro e w3 ⟨k, rfl, h⟩
    have HE : Hid (∃ D' q, (Ending.returned (.int .i64 (k : Int))) = .returned (.int .i64 ((q : Nat) : Int)) ∧ KO w0 (c + 12) w3 g D' K ∧ RewR nm fr (headBytes kd ++ frs rs) D D' q) := by
      rcases h with ⟨rfl, D', h1, h2⟩ | ⟨_, D', h1, h2⟩
      · exact ⟨D', 0, rfl, h1.sub hsub, h2⟩
      · exact ⟨D', k, rfl, h1.sub hsub, h2⟩
    rw [hfr] at HE
    clear h hko hbk hL hX hY hZ hF hsub hxl hfs hns hfr
    go_wp2
    go_ret
    exact HE.out
end Go.Proofs.YtononoakdebjeaaGreatDoor.Rec
namespace Go.Proofs.YtononoakdebjeaaGreatDoor.Rec
open Go.RowKit Go.Proofs.YtononoakdebjeaaGreatDoorW.PrintWords Go.Proofs.YtononoakdebjeaaGreatDoorW.PrintLast Go.Proofs.YtononoakdebjeaaGreatDoor.Base Go.Proofs.YtononoakdebjeaaGreatDoor.Path Go.Proofs.YtononoakdebjeaaGreatDoor.Pack Go.Proofs.YtononoakdebjeaaGreatDoor.Dk Go.Maps
set_option linter.unusedVariables false
set_option linter.unusedSimpArgs false
/-- A log lies at block l, one of the caller's. -/
def LogAt (T : Nat → Prop) (w : World) (l g : Nat) (nm : ByteArray) (kd : Int) : Prop := T l ∧ w.heap[l]? = some (logO g nm kd)
def UR (w0 : World) (T : Nat → Prop) (c g : Nat) (D : DiskV) (R : DiskV → DiskV → Nat → Prop) (w : World) (e : Ending) (w' : World) : Prop :=
  ∃ D' k, e = .returned (.int .i64 ((k : Nat) : Int)) ∧ DU w0 T (c + 12) w' g D' ∧ R D D' k ∧ Kpt T w w'
section
variable {w0 w w' : World} {T U : Nat → Prop} {c g l : Nat} {D : DiskV} {nm : ByteArray} {kd : Int}
theorem LogAt.kpt (h : LogAt T w l g nm kd) (hk : Kpt T w w') : LogAt T w' l g nm kd := ⟨h.1, (hk l h.1).trans h.2⟩
theorem LogAt.sub (h : LogAt T w l g nm kd) (hs : ∀ k, T k → U k) : LogAt U w l g nm kd := ⟨hs l h.1, h.2⟩
theorem LogAt.below (h : LogAt T w l g nm kd) (hb : Below w.heap.size w w') : LogAt T w' l g nm kd := ⟨h.1, (hb.block l (blk_lt h.2)).trans h.2⟩
theorem append_u (v : Value) (xs : List Int) (h : DU w0 T c w g D) (hl : LogAt T w l g nm kd) (hs : nm.size ≤ maxLen) (hv : Bs w v xs) (hb : Bytes xs) (hx : xs.length ≤ 4096) (hc : c ≤ 40000000) :
    Calls Tryz.prog 30 #[.pointer (some ⟨l, 0, none⟩), v] w (UR w0 T c g D (fun D D' k => DeedR D (rightB nm) (AppendR nm (frameBytes xs)) D' k) w) := by
  obtain ⟨K, hK, hT⟩ := h.ko
  obtain ⟨o, ho, hm⟩ := hT l hl.1
  obtain rfl := Option.some.inj (hl.2.symm.trans ho)
  refine (logAppend_any w0 c g l D K nm kd v xs w hK hm hs hv hb hx hc).mono fun e w' ⟨D', k, e1, h1, h2⟩ => ?_
  obtain ⟨h3, h4⟩ := KO.du h1 hT (fun k hk => h.ge hk)
  exact ⟨D', k, e1, h3.more (by omega), h2, h4⟩
theorem sync_u (h : DU w0 T c w g D) (hl : LogAt T w l g nm kd) (hs : nm.size ≤ maxLen) (hc : c + 3 ≤ 40000000) :
    Calls Tryz.prog 31 #[.pointer (some ⟨l, 0, none⟩)] w (UR w0 T c g D (SyncAllR nm) w) := by
  obtain ⟨K, hK, hT⟩ := h.ko
  obtain ⟨o, ho, hm⟩ := hT l hl.1
  obtain rfl := Option.some.inj (hl.2.symm.trans ho)
  refine (logSync_any w0 c g l D K nm kd w hK hm hs hc).mono fun e w' ⟨D', k, e1, h1, h2⟩ => ?_
  obtain ⟨h3, h4⟩ := KO.du h1 hT (fun k hk => h.ge hk)
  exact ⟨D', k, e1, h3.more (by omega), h2, h4⟩
theorem rewrite_u (v : Value) (rs : List (List Int)) (h : DU w0 T c w g D) (hl : LogAt T w l g nm kd) (hs : nm.size ≤ 1000) (hr : Rs w v rs) (hB : ∀ r ∈ rs, Bytes r) (hL : ∀ r ∈ rs, r.length ≤ 4096) (hn : rs.length ≤ 200) (hc : c + 9 ≤ 40000000) :
    Calls Tryz.prog 27 #[.pointer (some ⟨l, 0, none⟩), v] w (UR w0 T c g D (RewR nm (newName nm) (headBytes kd ++ frs rs)) w) := by
  obtain ⟨K, hK, hT⟩ := h.ko
  obtain ⟨o, ho, hm⟩ := hT l hl.1
  obtain rfl := Option.some.inj (hl.2.symm.trans ho)
  refine (logRewrite_any w0 c g l D K nm kd v rs w hK hm hs hr hB hL hn hc).mono fun e w' ⟨D', k, e1, h1, h2⟩ => ?_
  obtain ⟨h3, h4⟩ := KO.du h1 hT (fun k hk => h.ge hk)
  exact ⟨D', k, e1, h3, h2, h4⟩
/-- Rows of records that lie apart from the disk. -/
def RU (T : Nat → Prop) (w : World) (v : Value) (rs : List (List Int)) : Prop := kr.R 23 w 0 T v rs
theorem RU.kpt {v : Value} {rs : List (List Int)} (h : RU T w v rs) (hk : Kpt T w w') : RU T w' v rs := Kd.R_move h hk
theorem RU.sub {v : Value} {rs : List (List Int)} (h : RU T w v rs) (hs : ∀ k, T k → U k) : RU U w v rs := Kd.R_mono h hs
theorem RU.rs {v : Value} {rs : List (List Int)} (h : RU T w v rs) : Rs w v rs := by
  obtain ⟨A, c, rfl, hc, hr⟩ := Kd.R_reads h
  refine ⟨A, c, rfl, hc, hr.2.1, fun hp => ?_⟩
  obtain ⟨ad, e, hcell⟩ := hr.2.2 hp
  refine ⟨ad, e, fun i hi => ?_⟩
  obtain ⟨cs, _, hk, hcs⟩ := hcell i _ (List.getElem?_eq_getElem hi)
  obtain ⟨A', c', rfl, hc', hC⟩ := hk
  refine ⟨_, by have := hcs 0 _ rfl; rwa [show i * kr.sz + 0 = i from by show i * 1 + 0 = i; omega] at this, ?_⟩
  rw [List.getD_eq_getElem?_getD, List.getElem?_eq_getElem hi]
  exact ⟨A', c', rfl, hc', Kd.reads_of_C (enc := Value.int .u8) (d := (0 : Int)) (h1 := fun _ => rfl) hC⟩
theorem RU.nil : RU T w (.slice none 0 0) [] := Kd.R_nil _ _ _ _ _
theorem RU.of_recs {w1 : World} {v : Value} {rs : List (List Int)} (h : Recs w w1 v rs) : RU (fun k => w.heap.size ≤ k ∧ k < w1.heap.size) w1 v rs :=
  Kd.R_lower (Kd.R_mono (Kd.R_bound h.row) (fun k hk => ⟨hk.2.1, hk.2.2.1⟩)) (Nat.zero_le _)
end
end Go.Proofs.YtononoakdebjeaaGreatDoor.Rec
