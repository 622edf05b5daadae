/- A disk, and bytes of one's own beside it. -/
import Derived.Test.YtononoakdebjeaaDoorDk04
import Derived.Test.YtononoakdebjeaaDoorRecs
namespace Go.Proofs.YtononoakdebjeaaDoor.Dk
open Go.RowKit Go.Proofs.YtononoakdebjeaaDoorW.PrintWords Go.Proofs.YtononoakdebjeaaDoorW.PrintLast Go.Proofs.YtononoakdebjeaaDoor.Base Go.Proofs.YtononoakdebjeaaDoor.Path Go.Proofs.YtononoakdebjeaaDoor.Pack Go.Maps
set_option linter.unusedVariables false
set_option linter.unusedSimpArgs false
/-- A disk, and bytes of one's own beside it. -/
def DO (w0 : World) (c : Nat) (w : World) (g : Nat) (D : DiskV) (v : Value) (xs : List Int) : Prop := ∃ S, Dk S c w g D ∧ (∀ k, S k → w0.heap.size ≤ k) ∧ Ow w0 w v xs ∧ ∀ k, v.ownBlock = some k → ¬ S k
def DeedO (w0 : World) (c g : Nat) (D : DiskV) (v : Value) (xs : List Int) (ok : Bool) (body : DiskV → DiskV → Nat → Prop) (e : Ending) (w' : World) : Prop :=
  ∃ D' k, e = .returned (.int .i64 ((k : Nat) : Int)) ∧ DO w0 (c + 3) w' g D' v xs ∧ DeedR D ok body D' k
section
variable {w0 w w' : World} {c g : Nat} {D : DiskV} {v : Value} {xs : List Int}
theorem DO.more {c' : Nat} (h : DO w0 c w g D v xs) (hc : c ≤ c') : DO w0 c' w g D v xs := by
  obtain ⟨S, h1, h2⟩ := h
  exact ⟨S, h1.more hc, h2⟩
theorem DO.below (h : DO w0 c w g D v xs) (hb : Below w.heap.size w w') : DO w0 c w' g D v xs := by
  obtain ⟨S, h1, h2, h3, h4⟩ := h
  exact ⟨S, h1.below hb, h2, h3.step hb, h4⟩
theorem DO.ow (h : DO w0 c w g D v xs) : Ow w0 w v xs := by
  obtain ⟨S, h1, h2, h3, h4⟩ := h
  exact h3
theorem DO.wide (h : DO w0 c w g D v xs) : Below w0.heap.size w0 w := h.ow.below
theorem DO.start {z : Nat} (h : DQ w0.heap.size z c w g D) (hb : Below w0.heap.size w0 w) : DO w0 c w g D (.slice none 0 0) [] := by
  obtain ⟨S, h1, h2, _⟩ := h
  exact ⟨S, h1, fun k hk => (h2 k hk).1, Ow.nil hb, fun k hk => by cases hk⟩
theorem deedO_of {S : Nat → Prop} {ok : Bool} {body : DiskV → DiskV → Nat → Prop} {e : Ending} (hd : Dk S c w g D) (h2 : ∀ k, S k → w0.heap.size ≤ k) (h3 : Ow w0 w v xs) (h4 : ∀ k, v.ownBlock = some k → ¬ S k) (h : DeedP S c g D ok body w e w') : DeedO w0 c g D v xs ok body e w' := by
  obtain ⟨D', k, h1, hd', hr, hf⟩ := h
  refine ⟨D', k, h1, ⟨_, hd', fun q hq => hq.elim (h2 q) (fun h => Nat.le_trans h3.below.size h.1), ⟨own_move h3.own (fun q hq => hf.block q (own_lt h3.own q hq) (h4 q hq)), h3.below.trans (hf.below h2 h3.below.size)⟩, fun q hq hs => hs.elim (h4 q hq) (fun h => ?_)⟩, hr⟩
  have := own_lt h3.own q hq
  omega
theorem DO.append (s : ByteArray) (u : Value) (ys : List Int) (h : DO w0 c w g D v xs) (hs : s.size ≤ maxLen) (hu : Bs w0 u ys) (hl : ys.length ≤ 1000000) (hc : c ≤ 40000000) :
    Calls Tryd.prog 22 #[.pointer (some ⟨g, 0, none⟩), .string s, u] w (DeedO w0 c g D v xs (rightB s) (AppendR s ys)) := by
  obtain ⟨S, h1, h2, h3, h4⟩ := h
  exact (append_any S c g D s u ys w h1 hs ⟨hu.below h3.below, fun k hk hl => ⟨fun hs => by have := h2 k hs; have := bs_lt hu hk hl; omega, by have := bs_lt hu hk hl; have := h3.below.size; omega⟩⟩ hl hc).mono fun e w' h => deedO_of h1 h2 h3 h4 h
theorem DO.sync (s : ByteArray) (h : DO w0 c w g D v xs) (hs : s.size ≤ maxLen) (hc : c ≤ 40000000) :
    Calls Tryd.prog 23 #[.pointer (some ⟨g, 0, none⟩), .string s] w (DeedO w0 c g D v xs (rightB s) (ThereR s SyncR)) := by
  obtain ⟨S, h1, h2, h3, h4⟩ := h
  exact (sync_any S c g D s w h1 hs hc).mono fun e w' h => deedO_of h1 h2 h3 h4 h
theorem DO.syncDir (h : DO w0 c w g D v xs) (hc : c ≤ 40000000) :
    Calls Tryd.prog 24 #[.pointer (some ⟨g, 0, none⟩)] w (DeedO w0 c g D v xs true SyncDirR) := by
  obtain ⟨S, h1, h2, h3, h4⟩ := h
  exact (syncDir_any S c g D w h1 hc).mono fun e w' h => deedO_of h1 h2 h3 h4 h
theorem DO.read (s : ByteArray) (h : DO w0 c w g D v xs) (hs : s.size ≤ maxLen) : Calls Tryd.prog 13 #[.pointer (some ⟨g, 0, none⟩), .string s] w (ReadP D s w) := by
  obtain ⟨S, h1, _⟩ := h
  exact read_any S c g D s w h1 hs
theorem DO.stat (s : ByteArray) (h : DO w0 c w g D v xs) (hs : s.size ≤ maxLen) : Calls Tryd.prog 12 #[.pointer (some ⟨g, 0, none⟩), .string s] w (StatP D s w) := by
  obtain ⟨S, h1, _⟩ := h
  exact stat_any S c g D s w h1 hs
/-- A restart that keeps so much of each file; what was made behind w, ahead of it, stands. -/
theorem DO.restart (N : Nat) (dirN tail : Int) {W : World} {z : Nat} (h : DO w0 c w g D v xs) (hb : Below w.heap.size w W) (hz : w.heap.size ≤ z) (hx : W.heap[z]? = some (.cells #[.int .i64 tail] 3 (0, 0))) (hN : D.sure.length + D.pend.length ≤ N) (hd : -9223372036854775808 ≤ dirN ∧ dirN ≤ 9223372036854775807) (hc : c + N ≤ 10000000) :
    Calls Tryd.prog 25 #[.pointer (some ⟨g, 0, none⟩), .agg #[.int .i64 dirN, .slice (some ⟨z, 0, none⟩) 1 1]] W fun e w' => e = .returned (.tuple #[]) ∧ DO w0 (c + N + 1) w' g (restartV D dirN [tail]) v xs ∧ ∀ k, w.heap.size ≤ k → k < W.heap.size → w'.heap[k]? = W.heap[k]? := by
  obtain ⟨S, h1, h2, h3, h4⟩ := h
  have h3' := h3.step hb
  have hS : ∀ k, w.heap.size ≤ k → ¬ S k := fun k hk hs => by have := h1.lt k hs; omega
  refine (restart_any S c N g D dirN _ [tail] W (h1.below hb) hN (fun W2 hf => ⟨_, 1, rfl, rfl, by simp, fun _ => ⟨_, rfl, fun i hi => ?_⟩⟩) hd (by simp) hc).mono fun e w' ⟨e1, hd', hf⟩ => ⟨e1, ⟨_, hd', fun q hq => hq.elim (h2 q) (fun h => Nat.le_trans h3'.below.size h.1), ⟨own_move h3'.own (fun q hq => hf.block q (own_lt h3'.own q hq) (h4 q hq)), h3'.below.trans (hf.below h2 h3'.below.size)⟩, fun q hq hs => hs.elim (h4 q hq) (fun h => ?_)⟩, fun k hk hl => hf.block k hl (hS k hk)⟩
  · obtain rfl : i = 0 := by simp at hi; omega
    exact blk_cell ((hf.block z (blk_lt hx) (hS z hz)).trans hx) 0
  · have := own_lt h3'.own q hq
    omega
section
variable {ops : Array Oper} {rest : List Oper} {o : Oper} {a : Act} {Q : Exit → Act → World → Prop} {W : World}
/-- One's own bytes grow; the disk stands. -/
theorem app_do (hgd : o.guard = none) (s x : Operand) (t : TypeId)
    (ho : o.op = .call { callee := .builtin .append, args := #[s, x], argTypes := #[t, t] })
    (ht : Tryd.prog.underlying t = some (.slice 5))
    (v u : Value) (xs ys : List Int) (hs : a.eval s = v) (hx : a.eval x = u)
    (HO : DO w0 c W g D v xs) (HR : Bs W u ys) (hl : xs.length + ys.length ≤ 140737488355328)
    (h : ∀ v1 w1, DO w0 c w1 g D v1 (xs ++ ys) → wpList Tryd.prog ops Q rest (a.put o.dst v1) w1) :
    Held (wpList Tryd.prog ops Q (o :: rest) a W) := by
  obtain ⟨S, hd, h2, h3, h4⟩ := HO
  obtain ⟨A, cp, rfl, hc, hr⟩ := HR
  refine Held.out (print_append_row w0.heap.size hgd s x t 5 .u8 1 ho ht info_u8 (by decide) v xs ys A _ cp hs hx h3.own hr h3.below h3.below.size (by omega) ?_)
  intro v1 w1 q1 q2 q3 q4
  refine h v1 w1 ⟨S, hd.foot (Foot.of_grown (S := fun k => v.ownBlock = some k) q3 (fun k hk => hk)) (fun k hk ht => h4 k ht hk), h2, ⟨q1, q2⟩, fun k hk hs => ?_⟩
  rcases q4 with q4 | ⟨b, q4, q5⟩
  · exact h4 k (q4 ▸ hk) hs
  · rw [q4] at hk
    obtain rfl := Option.some.inj hk
    have := hd.lt _ hs
    omega
end
end
end Go.Proofs.YtononoakdebjeaaDoor.Dk
