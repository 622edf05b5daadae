/- A book of names in memory. -/
import Derived.Test.YtinonkakpgiblaaNamPure
import Derived.Test.YtinonkakpgiblaaHeapMap
namespace Go.Proofs.Ytinonkakpgiblaa.Nam
open Go.RowKit Go.Proofs.YtinonkakpgiblaaW.PrintWords Go.Proofs.Ytinonkakpgiblaa.Base Go.Proofs.Ytinonkakpgiblaa.Pack
set_option linter.unusedVariables false
set_option linter.unusedSimpArgs false

def kfnd : Kd (Int × List Int) := Kd.pair (Kd.int .i64) (Kd.slice 3 (Kd.int .i64))
def FndV.x (f : FndV) : Int × List Int := (f.time, f.deps.map fun n : Nat => (n : Int))
/-- What a book's second map holds. -/
def OutsAt (S : Nat → Prop) (w : World) (f2 : Nat → Option Value) (os : Nat → Option FndV) : Prop :=
  ∀ n, (os n = none ∧ f2 n = none) ∨ ∃ fd cs, os n = some fd ∧ f2 n = some (.agg cs.toArray) ∧ kfnd.M w 0 S fd.x cs
/-- A book at block g, all its blocks in S; it has taken at most c records. -/
structure Bk (S : Nat → Prop) (c : Nat) (w : World) (g : Nat) (b : BookV) : Prop where
  lt : ∀ k, S k → k < w.heap.size
  sg : S g
  good : Good b
  few : b.ns.length ≤ c
  short : ∀ s ∈ b.ns, s.size ≤ 100000
  ex : ∃ vn m1 m2 n2 f2, w.heap[g]? = some (.cells #[vn, .map (some m1), .map (some m2)] 69 (0, 0)) ∧ S m1 ∧ S m2 ∧ m1 ≠ m2 ∧ n2 ≤ c ∧
    Kd.string.R 9 w 0 S vn b.ns ∧ VMap 9 skey w m1 b.ns.length (fun s => (idx b.ns s).map fun n : Nat => .int .i64 (n : Int)) ∧ VMap 3 ikey w m2 n2 f2 ∧ OutsAt S w f2 b.os
theorem OutsAt.move {S : Nat → Prop} {w w' : World} {f2 : Nat → Option Value} {os : Nat → Option FndV} (h : OutsAt S w f2 os) (hm : ∀ k, S k → k < w.heap.size → w'.heap[k]? = w.heap[k]?) : OutsAt S w' f2 os := fun n => by
  rcases h n with h | ⟨fd, cs, h1, h2, h3⟩
  · exact .inl h
  · exact .inr ⟨fd, cs, h1, h2, Kd.M_step h3 hm⟩
theorem OutsAt.mono {S T : Nat → Prop} {w : World} {f2 : Nat → Option Value} {os : Nat → Option FndV} (h : OutsAt S w f2 os) (hs : ∀ k, S k → T k) : OutsAt T w f2 os := fun n => by
  rcases h n with h | ⟨fd, cs, h1, h2, h3⟩
  · exact .inl h
  · exact .inr ⟨fd, cs, h1, h2, kfnd.M_mono hs h3⟩
section
variable {S T : Nat → Prop} {c : Nat} {w w' : World} {g : Nat} {b : BookV}
theorem Bk.move (h : Bk S c w g b) (hm : ∀ k, S k → w'.heap[k]? = w.heap[k]?) : Bk S c w' g b := by
  obtain ⟨lt, sg, good, few, short, vn, m1, m2, n2, f2, h1, h2, h3, h4, h5, h6, h7, h8, h9⟩ := h
  refine ⟨fun k hk => ?_, sg, good, few, short, vn, m1, m2, n2, f2, (hm g sg).trans h1, h2, h3, h4, h5, Kd.R_move h6 hm, h7.block (hm _ h2), h8.block (hm _ h3), h9.move fun k hk _ => hm k hk⟩
  have h := lt k hk
  have e := hm k hk
  rw [Array.getElem?_eq_getElem h] at e
  exact (Array.getElem?_eq_some_iff.1 e).1
theorem Bk.foot (h : Bk S c w g b) (hf : Foot T w w') (hd : ∀ k, S k → ¬ T k) : Bk S c w' g b := h.move fun k hk => hf.block k (h.lt k hk) (hd k hk)
theorem Bk.below (h : Bk S c w g b) (hb : Below w.heap.size w w') : Bk S c w' g b := h.move fun k hk => hb.block k (h.lt k hk)
theorem Bk.mono (h : Bk S c w g b) (hs : ∀ k, S k → T k) (ht : ∀ k, T k → k < w.heap.size) : Bk T c w g b := by
  obtain ⟨lt, sg, good, few, short, vn, m1, m2, n2, f2, h1, h2, h3, h4, h5, h6, h7, h8, h9⟩ := h
  exact ⟨ht, hs _ sg, good, few, short, vn, m1, m2, n2, f2, h1, hs _ h2, hs _ h3, h4, h5, Kd.R_mono h6 hs, h7, h8, h9.mono hs⟩
theorem Bk.more {c' : Nat} (h : Bk S c w g b) (hc : c ≤ c') : Bk S c' w g b := by
  obtain ⟨lt, sg, good, few, short, vn, m1, m2, n2, f2, h1, h2, h3, h4, h5, h6⟩ := h
  exact ⟨lt, sg, good, by omega, short, vn, m1, m2, n2, f2, h1, h2, h3, h4, by omega, h6⟩
theorem Bk.drewN (h : Bk S c w g b) (n : Nat) : Bk S c (w.drewN n) g b := h.move fun _ _ => rfl
end
/-- The blocks of S, and those that came between. -/
def Sx (S : Nat → Prop) (w w' : World) (k : Nat) : Prop := S k ∨ (w.heap.size ≤ k ∧ k < w'.heap.size)

set_option maxHeartbeats 800000 in
/-- names.New. -/
theorem bnew_any (w : World) :
    Calls Try.prog 11 #[] w fun e w' => ∃ g, e = .returned (.pointer (some ⟨g, 0, none⟩)) ∧ Bk (fun k => w.heap.size ≤ k ∧ k < w'.heap.size) 0 w' g book0 ∧ Below w.heap.size w w' := by
  have hmm := @run_makeMap Try.prog
  go_enter Try.func11, Try.ntmps11
  go_wp2
  go_ret
  have e0 : (w.alloc (.map #[] 0)).heap.size = w.heap.size + 1 := by simp
  have e1 : ((w.alloc (.map #[] 0)).alloc (.map #[] 0)).heap.size = w.heap.size + 2 := by simp
  have h1 := VMap.made w 9 skey
  have h2 := VMap.made (w.alloc (.map #[] 0)) 3 ikey
  rw [e0] at h2
  obtain ⟨o, ho⟩ : ∃ o : Obj, o = .cells #[.slice none 0 0, .map (some w.heap.size), .map (some (w.heap.size + 1))] 69 (0, 0) := ⟨_, rfl⟩
  have hg := blk_new ((w.alloc (.map #[] 0)).alloc (.map #[] 0)) o
  rw [e1] at hg
  rw [← ho]
  have hz : (((w.alloc (.map #[] 0)).alloc (.map #[] 0)).alloc o).heap.size = w.heap.size + 3 := by simp
  refine ⟨_, rfl, ⟨fun k hk => by have := hk.2; exact this, ⟨by omega, by rw [hz]; omega⟩, good0, Nat.le_refl _, (fun s hs => by cases hs), .slice none 0 0, w.heap.size, w.heap.size + 1, 0, fun _ => none, ?_, ⟨by omega, by rw [hz]; omega⟩, ⟨by omega, by rw [hz]; omega⟩, by omega, Nat.le_refl _, Kd.R_nil _ _ _ _ _, ?_, ?_, fun n => .inl ⟨rfl, rfl⟩⟩, ?_⟩
  · rw [hg, ho]
  · exact ((h1.below (below_alloc (Below.refl _ _) _)).below (below_alloc (Below.refl _ _) _)).congr fun _ => rfl
  · exact h2.below (below_alloc (Below.refl _ _) _)
  · exact below_alloc (below_alloc (below_alloc (Below.refl _ _) _) _) _
end Go.Proofs.Ytinonkakpgiblaa.Nam
