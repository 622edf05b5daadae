/- Chapter 4's acts: light, and a deed (walks). -/
import Derived.Test.YtononoakdebjeaaGreatDoorDkActs
namespace Go.Proofs.YtononoakdebjeaaGreatDoor.Dk
open Go.RowKit Go.Proofs.YtononoakdebjeaaGreatDoorW.PrintWords Go.Proofs.YtononoakdebjeaaGreatDoorW.PrintLast Go.Proofs.YtononoakdebjeaaGreatDoor.Base Go.Proofs.YtononoakdebjeaaGreatDoor.Path Go.Proofs.YtononoakdebjeaaGreatDoor.Pack Go.Maps
set_option linter.unusedVariables false
set_option linter.unusedSimpArgs false
structure LightA (l : List ActV) : Prop where
  len : l.length ≤ 80
  each : ∀ a ∈ l, a.name.size ≤ 120 ∧ a.dst.size ≤ 120 ∧ a.b.length ≤ 17000 ∧ a.tails.length ≤ 20
set_option maxRecDepth 100000 in
set_option maxHeartbeats 4000000 in
theorem light04_any (v : Value) (l : List ActV) (w : World) (h : Az w v l) :
    Calls Tryz.prog 9 #[v] w fun e w' => (∃ bo : Bool, e = .returned (.bool bo) ∧ (bo = true → LightA l)) ∧ Below w.heap.size w w' := by
  obtain ⟨A, c, rfl, hc, hm, hC⟩ := h
  obtain ⟨n, hn⟩ : ∃ n, n = l.length := ⟨_, rfl⟩
  rw [← hn] at hc hm ⊢
  have HC := Lib.hid hC
  have HN := Lib.hid hn
  clear hC hn
  by_cases g1 : 80 < n
  · have d1 : decide ((80 : Int) < (n : Int)) = true := decide_eq_true (by omega)
    have d2 : decide (80 < n) = true := decide_eq_true g1
    clear g1
    go_enter Tryz.func9, Tryz.ntmps9
    go_wp2
    go_ret
    exact ⟨⟨false, rfl, fun h => by cases h⟩, Below.refl _ _⟩
  have d1 : decide ((80 : Int) < (n : Int)) = false := decide_eq_false (by omega)
  have d2 : decide (80 < n) = false := decide_eq_false g1
  have hn80 : n ≤ 80 := by omega
  clear g1
  go_enter Tryz.func9, Tryz.ntmps9
  go_wp2
  go_loopw [3] (fun i wr => ∃ k : Nat, k ≤ n ∧ i = .int .i64 k ∧ Hid (∀ a ∈ l.take k, a.name.size ≤ 120 ∧ a.dst.size ≤ 120 ∧ a.b.length ≤ 17000 ∧ a.tails.length ≤ 20) ∧ Hid (Below w.heap.size w wr)) (fun i _ => n - (intOf i).toNat)
  case atStart => exact ⟨0, by omega, rfl, fun p hp => by simp at hp, Below.refl _ _⟩
  case round =>
    obtain ⟨k, hk, rfl, HS, HB⟩ := hrel
    by_cases l1 : k < n
    · have hkl : k < l.length := by rw [← HN.out]; exact l1
      obtain ⟨a, ha⟩ : ∃ a, l[k]? = some a := ⟨_, List.getElem?_eq_getElem hkl⟩
      obtain ⟨hf, ad, vb, vt, rfl, hq, hb, ht⟩ := HC.out k a ha
      obtain ⟨A5, c5, rfl, _, _⟩ := hb.len
      obtain ⟨A6, c6, rfl, _⟩ := ht
      have HIN : Hid (l.take (k + 1) = l.take k ++ [a]) := by
        show _ = _
        rw [List.take_add_one, ha]
        rfl
      have hq := hq.below HB.out
      obtain ⟨_, _, q2, q3, q4, q5⟩ := hq
      obtain ⟨nb, hnb⟩ : ∃ nb, nb = a.b.length := ⟨_, rfl⟩
      obtain ⟨nt, hnt⟩ : ∃ nt, nt = a.tails.length := ⟨_, rfl⟩
      rw [← hnb] at q4
      rw [← hnt] at q5
      have HNB := Lib.hid hnb
      have HNT := Lib.hid hnt
      clear hf hb ha hkl hnb hnt
      by_cases g1 : 120 < a.name.size
      · have d3 : decide ((120 : Int) < (a.name.size : Int)) = true := decide_eq_true (by omega)
        have d4 : decide (120 < a.name.size) = true := decide_eq_true g1
        clear g1
        go_wp2
        go_ret
        exact ⟨⟨false, rfl, fun h => by cases h⟩, HB.out⟩
      have d3 : decide ((120 : Int) < (a.name.size : Int)) = false := decide_eq_false (by omega)
      have d4 : decide (120 < a.name.size) = false := decide_eq_false g1
      by_cases g2 : 120 < a.dst.size
      · have d5 : decide ((120 : Int) < (a.dst.size : Int)) = true := decide_eq_true (by omega)
        have d6 : decide (120 < a.dst.size) = true := decide_eq_true g2
        clear g1 g2
        go_wp2
        go_ret
        exact ⟨⟨false, rfl, fun h => by cases h⟩, HB.out⟩
      have d5 : decide ((120 : Int) < (a.dst.size : Int)) = false := decide_eq_false (by omega)
      have d6 : decide (120 < a.dst.size) = false := decide_eq_false g2
      by_cases g3 : 17000 < nb
      · have d7 : decide ((17000 : Int) < (nb : Int)) = true := decide_eq_true (by omega)
        have d8 : decide (17000 < nb) = true := decide_eq_true g3
        clear g1 g2 g3
        go_wp2
        go_ret
        exact ⟨⟨false, rfl, fun h => by cases h⟩, HB.out⟩
      have d7 : decide ((17000 : Int) < (nb : Int)) = false := decide_eq_false (by omega)
      have d8 : decide (17000 < nb) = false := decide_eq_false g3
      by_cases g4 : 20 < nt
      · have d9 : decide ((20 : Int) < (nt : Int)) = true := decide_eq_true (by omega)
        have d0 : decide (20 < nt) = true := decide_eq_true g4
        clear g1 g2 g3 g4
        go_wp2
        go_ret
        exact ⟨⟨false, rfl, fun h => by cases h⟩, HB.out⟩
      have d9 : decide ((20 : Int) < (nt : Int)) = false := decide_eq_false (by omega)
      have d0 : decide (20 < nt) = false := decide_eq_false g4
      have HS' : Hid (∀ a ∈ l.take (k + 1), a.name.size ≤ 120 ∧ a.dst.size ≤ 120 ∧ a.b.length ≤ 17000 ∧ a.tails.length ≤ 20) := fun p hp => by
        rw [HIN.out] at hp
        rcases List.mem_append.1 hp with hp | hp
        · exact HS.out p hp
        · rw [List.mem_singleton.1 hp]
          have := HNB.out
          have := HNT.out
          omega
      clear g1 g2 g3 g4
      go_wp2
      go_roundw
      case rel => exact ⟨k + 1, by omega, by go_num, HS', HB⟩
      case measure => simp [intOf]; omega
    · obtain rfl : k = n := by omega
      go_wp2
      go_ret
      refine ⟨⟨true, rfl, fun _ => ⟨by rw [← HN.out]; exact hn80, fun a ha => HS.out a ?_⟩⟩, HB.out⟩
      rw [HN.out, List.take_length]
      exact ha
def ActU (w0 : World) (T : Nat → Prop) (c g : Nat) (D : DiskV) (k : Nat) (a : ActV) (w : World) (e : Ending) (w' : World) : Prop :=
  ∃ D' q, e = .returned (.int .i64 ((q : Nat) : Int)) ∧ DU w0 T (c + 3) w' g D' ∧ ActR rightB k a.name a.dst a.b a.n D D' q ∧ Kpt T w w'
set_option maxRecDepth 100000 in
set_option maxHeartbeats 4000000 in
theorem deed04_u (w0 : World) (T : Nat → Prop) (c g : Nat) (D : DiskV) (k : Nat) (hk : k ≤ 6) (a : ActV) (vb vt : Value) (w : World) (h : DU w0 T c w g D) (hf : FitA a) (hb : Bs w0 vb a.b) (ht : Ti w0 vt a.tails) (hl : a.b.length ≤ 17000) (hc : c ≤ 40000000) :
    Calls Tryz.prog 17 #[.pointer (some ⟨g, 0, none⟩), .int .i64 (k : Int), .agg (actC a vb vt).toArray] w (ActU w0 T c g D k a w) := by
  obtain ⟨x, hx⟩ : ∃ x, w.heap.size = x := ⟨_, rfl⟩
  obtain ⟨W, hW⟩ : ∃ W, W = w.alloc (.cells (actC a vb vt).toArray 40) := ⟨_, rfl⟩
  have hX : W.heap[x]? = some (.cells (actC a vb vt).toArray 40 (0, 0)) := by rw [hW]; exact alloc_at w _ hx
  have hB : Below w.heap.size w W := by rw [hW]; exact below_alloc (Below.refl _ _) _
  have H := h.below hB
  have HKP := Lib.hid (h.kpt hB)
  have H0 := Lib.hid (H.write a.name vb a.b hf.name (BU.old H hb) (by omega) hc)
  have H1 := Lib.hid (H.append a.name vb a.b hf.name (BU.old H hb) (by omega) hc)
  have H2 := Lib.hid (H.cut a.name a.n hf.name hf.n hc)
  have H3 := Lib.hid (H.rename a.name a.dst hf.name hf.dst hc)
  have H4 := Lib.hid (H.remove a.name hf.name hc)
  have H5 := Lib.hid (H.sync a.name hf.name hc)
  have H6 := Lib.hid (H.syncDir hc)
  obtain ⟨A5, c5, rfl, _, _⟩ := hb.len
  obtain ⟨A6, c6, rfl, _⟩ := ht
  obtain ⟨nb, hnb⟩ : ∃ nb, nb = a.b.length := ⟨_, rfl⟩
  obtain ⟨nt, hnt⟩ : ∃ nt, nt = a.tails.length := ⟨_, rfl⟩
  rw [← hnb, ← hnt] at hX hW
  rw [← hnb] at H0 H1
  rw [← hnb, ← hnt]
  have z1 : W.cell? ⟨x, 1, none⟩ = some (.int .i64 a.n) := blk_cell hX 1
  have z2 : W.cell? ⟨x, 2, none⟩ = some (.string a.name) := blk_cell hX 2
  have z3 : W.cell? ⟨x, 3, none⟩ = some (.string a.dst) := blk_cell hX 3
  have z4 : W.cell? ⟨x, 4, none⟩ = some (.slice A5 nb c5) := blk_cell hX 4
  have HW := Lib.hid hW
  clear hX hW h H hf hb hl hB hnb hnt
  have hk7 : k = 0 ∨ k = 1 ∨ k = 2 ∨ k = 3 ∨ k = 4 ∨ k = 5 ∨ k = 6 := by omega
  clear hk
  rcases hk7 with rfl | rfl | rfl | rfl | rfl | rfl | rfl
  all_goals
    go_enter Tryz.func17, Tryz.ntmps17
    go_upto_region 1 with (fail)
    rw [← HW.out]
    clear hx
    go_wp2_with fail
    first | refine H0.out.mono ?_ | refine H1.out.mono ?_ | refine H2.out.mono ?_ | refine H3.out.mono ?_ | refine H4.out.mono ?_ | refine H5.out.mono ?_ | refine H6.out.mono ?_
    rintro e w2 ⟨D', q, rfl, h2, r2, t2⟩
    have HH2 := Lib.hid h2
    have HR2 := Lib.hid r2
    have HT2 := Lib.hid (HKP.out.trans t2)
    clear h2 r2 t2
    go_wp2
    go_ret
    exact ⟨D', q, rfl, HH2.out, HR2.out, HT2.out⟩
end Go.Proofs.YtononoakdebjeaaGreatDoor.Dk
