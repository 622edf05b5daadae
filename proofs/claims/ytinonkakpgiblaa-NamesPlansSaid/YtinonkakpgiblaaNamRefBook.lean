/- The reference's book in memory; a name's number (walk). -/
import Derived.Test.YtinonkakpgiblaaNamRefPure
import Derived.Test.YtinonkakpgiblaaPackRefRead
import Derived.Test.YtinonkakpgiblaaRdAny
namespace Go.Proofs.Ytinonkakpgiblaa.Nam
open Go.RowKit Go.Proofs.YtinonkakpgiblaaW.PrintWords Go.Proofs.YtinonkakpgiblaaW.PrintLast Go.Proofs.Ytinonkakpgiblaa.Base Go.Proofs.Ytinonkakpgiblaa.Pack Go.Maps
set_option linter.unusedVariables false
set_option linter.unusedSimpArgs false

/-- The reference's book at block g, all its blocks in T. -/
structure RBk (T : Nat → Prop) (w : World) (g : Nat) (ns : List ByteArray) (L : List DepV) : Prop where
  lt : ∀ k, T k → k < w.heap.size
  tg : T g
  ex : ∃ vn vl, w.heap[g]? = some (.cells #[vn, vl] 55 (0, 0)) ∧ Kd.string.R 9 w 0 T vn ns ∧ kdep.R 24 w 0 (fun k => T k ∧ some k ≠ vn.ownBlock) vl (L.map DepV.x)
section
variable {T U : Nat → Prop} {w w' : World} {g : Nat} {ns : List ByteArray} {L : List DepV}
theorem RBk.move (h : RBk T w g ns L) (hm : ∀ k, T k → w'.heap[k]? = w.heap[k]?) : RBk T w' g ns L := by
  obtain ⟨lt, tg, vn, vl, h1, h2, h3⟩ := h
  refine ⟨fun k hk => ?_, tg, vn, vl, (hm g tg).trans h1, Kd.R_move h2 hm, Kd.R_move h3 (fun k hk => hm k hk.1)⟩
  have h := lt k hk
  have e := hm k hk
  rw [Array.getElem?_eq_getElem h] at e
  exact (Array.getElem?_eq_some_iff.1 e).1
theorem RBk.below (h : RBk T w g ns L) (hb : Below w.heap.size w w') : RBk T w' g ns L := h.move fun k hk => hb.block k (h.lt k hk)
theorem RBk.foot (h : RBk T w g ns L) (hf : Foot U w w') (hd : ∀ k, T k → ¬ U k) : RBk T w' g ns L := h.move fun k hk => hf.block k (h.lt k hk) (hd k hk)
theorem RBk.mono (h : RBk T w g ns L) (hs : ∀ k, T k → U k) (ht : ∀ k, U k → k < w.heap.size) : RBk U w g ns L := by
  obtain ⟨lt, tg, vn, vl, h1, h2, h3⟩ := h
  exact ⟨ht, hs _ tg, vn, vl, h1, Kd.R_mono h2 hs, Kd.R_mono h3 (fun k hk => ⟨hs k hk.1, hk.2⟩)⟩
end
theorem reads_drop {α : Type} {R : α → List Value → Prop} {sz : Nat} {w : World} {A : Option Addr} {xs : List α} {m c : Nat} (h : ReadsRow R sz w A xs.length xs) (hm : m ≤ xs.length) (hc : xs.length ≤ c) : ReadsRow R sz w (if c = m then A else A.map (·.add (m * sz))) (xs.drop m).length (xs.drop m) := by
  have hl : (xs.drop m).length = xs.length - m := List.length_drop
  refine ⟨rfl, by rw [hl]; have := h.2.1; omega, fun hp => ?_⟩
  rw [hl] at hp
  obtain ⟨ad, rfl, hcell⟩ := h.2.2 (by omega)
  rw [if_neg (by omega)]
  refine ⟨ad.add (m * sz), rfl, fun j p hj => ?_⟩
  rw [List.getElem?_drop] at hj
  obtain ⟨cs, h1, h2, h3⟩ := hcell (m + j) p hj
  refine ⟨cs, h1, h2, fun i u hu => ?_⟩
  rw [add_add, show m * sz + (j * sz + i) = (m + j) * sz + i by rw [Nat.add_mul]; omega]
  exact h3 i u hu
theorem idx_first {l : List ByteArray} {s : ByteArray} {k : Nat} (h : l.getD k ByteArray.empty = s) (hk : k < l.length) (hn : ∀ j, j < k → l.getD j ByteArray.empty ≠ s) : idx l s = some k := by
  induction l generalizing k with
  | nil => exact absurd hk (Nat.not_lt_zero _)
  | cons x l ih =>
    unfold idx
    cases k with
    | zero => rw [if_pos (by simpa using h)]
    | succ k =>
      have h0 : x ≠ s := by simpa using hn 0 (by omega)
      rw [if_neg h0, ih (by simpa using h) (by simpa using hk) (fun j hj => by simpa using hn (j + 1) (by omega))]
      rfl
set_option maxRecDepth 100000 in
set_option maxHeartbeats 1000000 in
theorem at_any (T : Nat → Prop) (g : Nat) (ns : List ByteArray) (L : List DepV) (s : ByteArray) (w : World) (h : RBk T w g ns L) :
    Calls Try.prog 45 #[.pointer (some ⟨g, 0, none⟩), .string s] w fun e w' => (∃ r : Int, e = .returned (.int .i64 r) ∧ (s ∈ ns → 0 ≤ r ∧ r = ((idx ns s).getD 0 : Nat)) ∧ (s ∉ ns → r = -1)) ∧ w' = w := by
  obtain ⟨_, _, vn, vl, h1, hR, _⟩ := h
  obtain ⟨A, c, ev⟩ := Kd.R_slice hR
  subst ev
  obtain ⟨n, hn⟩ : ∃ n, n = ns.length := ⟨_, rfl⟩
  have hss := r_ss hR
  rw [← hn] at h1 hss
  have HSS := Lib.hid hss
  have HN := Lib.hid hn
  have c0 : w.cell? ⟨g, 0, none⟩ = some (.slice A n c) := blk_cell h1 0
  have hm : n ≤ 9223372036854775807 := by obtain ⟨_, _, _, _, h3, _⟩ := hss; omega
  clear hn hss hR h1
  go_enter Try.func45, Try.ntmps45
  go_wp2
  go_loopw [5] (fun i wr => ∃ k : Nat, k ≤ n ∧ i = .int .i64 k ∧ wr = w ∧ Hid (∀ j, j < k → ns.getD j ByteArray.empty ≠ s)) (fun i _ => n - (intOf i).toNat)
  case atStart => exact ⟨0, by omega, rfl, rfl, fun j hj => absurd hj (Nat.not_lt_zero _)⟩
  case round =>
    obtain ⟨k, hk, rfl, rfl, HNE⟩ := hrel
    by_cases l1 : k < n
    · have hkl : k < ns.length := by rw [← HN.out]; exact l1
      obtain ⟨Ax, cx, ex, _, _, hcel⟩ := HSS.out
      injection ex with ex1 ex2 ex3
      subst ex1
      obtain ⟨ad, ead, hcell⟩ := hcel (by omega)
      subst ead
      have q := hcell k hkl
      have hgd : ns.getD k ByteArray.empty ∈ ns := by
        rw [List.getD_eq_getElem?_getD, List.getElem?_eq_getElem hkl]
        exact List.getElem_mem hkl
      have HGD := Lib.hid hgd
      have HKL := Lib.hid hkl
      obtain ⟨y, hy⟩ : ∃ y, y = ns.getD k ByteArray.empty := ⟨_, rfl⟩
      rw [← hy] at q
      have HY := Lib.hid hy
      clear hcel hcell ex2 ex3 hkl hgd hy
      by_cases hs : y = s
      · have hb : (y.toList == s.toList) = true := by rw [str_eqb]; exact decide_eq_true hs
        have HM : Hid (s ∈ ns) := by show s ∈ ns; rw [← hs, HY.out]; exact HGD.out
        have HI : Hid (idx ns s = some k) := idx_first (by rw [← hs, HY.out]) HKL.out HNE.out
        clear hs
        go_wp2
        go_ret
        exact ⟨⟨_, rfl, fun _ => ⟨Int.natCast_nonneg k, by rw [HI.out]; rfl⟩, fun h => absurd HM.out h⟩, rfl⟩
      · have hb : (y.toList == s.toList) = false := by rw [str_eqb]; exact decide_eq_false hs
        have HS := Lib.hid hs
        clear hs
        go_wp2
        go_roundw
        case rel => exact ⟨k + 1, by omega, by go_num, trivial, fun j hj => by
          rcases Nat.lt_succ_iff_lt_or_eq.1 hj with h | h
          · exact HNE.out j h
          · rw [h, ← HY.out]; exact HS.out⟩
        case measure => simp [intOf]; omega
    · have hk2 : k = n := by omega
      have HM : Hid (s ∉ ns) := by
        intro hm
        obtain ⟨j, hj, e⟩ := List.mem_iff_getElem.1 hm
        refine HNE.out j (by rw [hk2, HN.out]; exact hj) ?_
        rw [List.getD_eq_getElem?_getD, List.getElem?_eq_getElem hj]
        exact e
      clear hk2
      go_wp2
      go_ret
      exact ⟨⟨_, rfl, fun h => absurd h HM.out, fun _ => rfl⟩, rfl⟩
end Go.Proofs.Ytinonkakpgiblaa.Nam
