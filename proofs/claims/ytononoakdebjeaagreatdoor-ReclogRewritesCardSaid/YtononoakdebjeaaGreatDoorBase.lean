/- Words for bytes in memory: what is read, what is owned, and appends; a goal that the walk leaves alone. -/
import Derived.Test.YtononoakdebjeaaGreatDoorProg
import Derived.Below
import Derived.Lib.Hide
import Derived.WalkKit
import Derived.KernelRfl
import Derived.RowKit3
import Derived.Deep.LoopGhost
import Derived.Deep.QuietTactic
import Derived.BigQuiet
import Derived.WideLaws
import Derived.WalkLawsBesides
import Derived.WalkSpells
import Derived.Outline
import Derived.Test.YtononoakdebjeaaGreatDoorWWords
import Derived.Lib.SlBytesConst
import Derived.Test.YtononoakdebjeaaGreatDoorProg
namespace Go.Proofs.YtononoakdebjeaaGreatDoor.Base
open Go.RowKit Go.Proofs.YtononoakdebjeaaGreatDoorW.PrintWords
set_option linter.unusedVariables false
set_option linter.unusedSimpArgs false

/-- A goal that the walk leaves alone. -/
def Held (p : Prop) : Prop := p
theorem Held.of {p : Prop} (h : Held p) : p := h
theorem Held.out {p : Prop} (h : p) : Held p := h
theorem ret_int {k : IntKind} {a b : Int} (h : a = b) : Ending.returned (.int k a) = .returned (.int k b) := by rw [h]

/-- v reads as the bytes xs. -/
def Bs (w : World) (v : Value) (xs : List Int) : Prop := ∃ A c, v = .slice A xs.length c ∧ xs.length ≤ c ∧ ReadsInt w .u8 A xs.length xs
theorem Bs.below {w w1 : World} {v : Value} {xs : List Int} (h : Bs w v xs) (hb : Below w.heap.size w w1) : Bs w1 v xs := by
  obtain ⟨A, c, h1, h2, h3⟩ := h
  exact ⟨A, c, h1, h2, h3.below hb⟩
theorem Bs.of_own {w : World} {base n : Nat} {e : TypeId} {v : Value} {xs : List Int} (h : w.ownsRow base e 1 v n (nums .u8 xs)) (hn : n = xs.length) : Bs w v xs := by
  obtain ⟨A, c, rfl, hr⟩ := own_reads h
  subst hn
  exact ⟨A, c, rfl, own_le h, hr⟩
theorem Bs.nil (w : World) : Bs w (.slice none 0 0) [] := ⟨none, 0, rfl, by simp, rfl, by simp, fun h => absurd h (Nat.lt_irrefl 0)⟩
theorem Bs.lit (W : World) (e : TypeId) (xs : List Int) (hm : xs.length ≤ 9223372036854775807) : Bs (W.alloc (.cells (nums .u8 xs).toArray e)) (.slice (some ⟨W.heap.size, 0, none⟩) xs.length xs.length) xs :=
  Bs.of_own (own_lit W W.heap.size e .u8 xs (Nat.le_refl _) hm) rfl
theorem at_nat {w : World} {k : IntKind} {A : Option Addr} {n : Nat} {xs : List Int} (h : ReadsInt w k A n xs) (i : Nat) (h1 : i < n) : ∃ ad, A = some ad ∧ w.cell? (ad.add i) = some (.int k (rd xs i)) := by
  obtain ⟨ad, e, hc⟩ := h.at_ i (by omega) (by omega)
  rw [Int.toNat_natCast] at hc
  exact ⟨ad, e, hc⟩

/-- A literal of a constant string: its block bears a mark behind its last cell. -/
theorem Bs.mark (W : World) (e : TypeId) (xs : List Int) (n : Nat) (hn : n = xs.length) (hm : xs.length ≤ 9223372036854775807) (fr : Nat × Nat) :
    Bs (W.alloc (.cells (nums .u8 xs).toArray e fr)) (.slice (some ⟨W.heap.size, 0, none⟩) n n) xs := by
  subst hn
  refine ⟨_, _, rfl, Nat.le_refl _, rfl, hm, fun _ => ⟨_, rfl, fun i hi => ?_⟩⟩
  rw [add_plain, cell_of_row _ W.heap.size i _ e fr (heap_alloc_new W _)]
  simp [nums, List.getElem?_eq_getElem hi, List.getD_eq_getElem?_getD]

theorem Bs.mark1 (W : World) (o : Obj) (e : TypeId) (xs : List Int) (n : Nat) (hn : n = xs.length) (hm : xs.length ≤ 9223372036854775807) (fr : Nat × Nat) :
    Bs ((W.alloc o).alloc (.cells (nums .u8 xs).toArray e fr)) (.slice (some ⟨W.heap.size + 1, 0, none⟩) n n) xs := by
  have h := Bs.mark (W.alloc o) e xs n hn hm fr
  simpa using h
theorem conv_one {P : Program} (w : World) (t e : TypeId) (o : Obj) (C : Array Value) (n c : Nat) (ht : P.underlying t = some (.slice e)) (he : P.underlying e = some (.int .u8)) :
    (convert t t (.slice (some ⟨w.heap.size + 1, 0, none⟩) n c)).run P ((w.alloc o).alloc (.cells C e)) = .ok (.slice (some ⟨w.heap.size + 1, 0, none⟩) n c) ((w.alloc o).alloc (.cells C e (C.size, C.size + 1))) := by
  have h := Lib.run_convert_bytes_const (P := P) (w.alloc o) t e C n c ht he
  simpa using h

theorem Bs.len {w : World} {v : Value} {xs : List Int} (h : Bs w v xs) : ∃ A c, v = .slice A xs.length c ∧ xs.length ≤ c ∧ xs.length ≤ 9223372036854775807 := by
  obtain ⟨A, c, h1, h2, h3⟩ := h
  exact ⟨A, c, h1, h2, h3.2.1⟩


theorem Bs.alloc {w : World} {v : Value} {xs : List Int} (h : Bs w v xs) (o : Obj) : Bs (w.alloc o) v xs := h.below (below_alloc (Below.refl _ _) o)
theorem Bs.drewN {w : World} {v : Value} {xs : List Int} (h : Bs w v xs) (n : Nat) : Bs (w.drewN n) v xs := h.below (pw_below_drewN (Below.refl _ _) n)

theorem info_u8 : (Tryz.prog.info? 5).map (fun i => (i.zero, i.size, i.bytes)) = some (some (.int .u8 0), 1, 1) := by kernel_rfl

/-- Since w0 the slice v has been made: it owns the bytes xs; what w0 had stands. -/
structure Ow (w0 w : World) (v : Value) (xs : List Int) : Prop where
  own : w.ownsRow w0.heap.size 5 1 v xs.length (nums .u8 xs)
  below : Below w0.heap.size w0 w
theorem Ow.slice {w0 w : World} {v : Value} {xs : List Int} (h : Ow w0 w v xs) : ∃ A n c, v = .slice A n c ∧ n = xs.length := by
  obtain ⟨A, c, h⟩ := own_slice h.own
  exact ⟨A, _, c, h, rfl⟩
theorem Ow.bs {w0 w : World} {v : Value} {xs : List Int} (h : Ow w0 w v xs) : Bs w v xs := Bs.of_own h.own rfl
theorem Ow.nil {w0 w : World} (h : Below w0.heap.size w0 w) : Ow w0 w (.slice none 0 0) [] := ⟨own_nil _ _ _ _, h⟩
theorem Ow.lit {w0 W : World} (h : Below w0.heap.size w0 W) (xs : List Int) (hm : xs.length ≤ 9223372036854775807) : Ow w0 (W.alloc (.cells (nums .u8 xs).toArray 5)) (.slice (some ⟨W.heap.size, 0, none⟩) xs.length xs.length) xs :=
  ⟨own_lit W w0.heap.size _ .u8 xs h.size hm, below_alloc h _⟩
theorem Ow.made {w0 W : World} (h : Below w0.heap.size w0 W) (m : Nat) (hm : m ≤ 9223372036854775807) : Ow w0 (W.alloc (.cells (madeCells #[.int .u8 0] m) 5)) (.slice (some ⟨W.heap.size, 0, none⟩) m m) (List.replicate m 0) :=
  ⟨by have := own_made W w0.heap.size 5 .u8 m h.size hm; rwa [List.length_replicate], below_alloc h _⟩
theorem Ow.step {w0 w w1 : World} {v : Value} {xs : List Int} (h : Ow w0 w v xs) (hb : Below w.heap.size w w1) : Ow w0 w1 v xs :=
  ⟨pw_own_below h.own hb, h.below.trans (hb.mono h.below.size)⟩
theorem Ow.drew {w0 w : World} {v : Value} {xs : List Int} (h : Ow w0 w v xs) : Ow w0 w.drew v xs := h.step (below_drew (Below.refl _ _))
theorem Ow.drewN {w0 w : World} {v : Value} {xs : List Int} (h : Ow w0 w v xs) (n : Nat) : Ow w0 (w.drewN n) v xs := h.step (pw_below_drewN (Below.refl _ _) n)
theorem Ow.alloc {w0 w : World} {v : Value} {xs : List Int} (h : Ow w0 w v xs) (o : Obj) : Ow w0 (w.alloc o) v xs := h.step (below_alloc (Below.refl _ _) o)
theorem Ow.lower {w0 w1 w : World} {v : Value} {xs : List Int} (h : Ow w1 w v xs) (hb : Below w0.heap.size w0 w1) : Ow w0 w v xs :=
  ⟨own_weaken h.own hb.size, hb.trans (h.below.mono hb.size)⟩

section
variable {P : Program} {ops : Array Oper} {rest : List Oper} {o : Oper} {a : Act} {Q : Exit → Act → World → Prop}
theorem app_bytes {w0 W : World} (hgd : o.guard = none) (s x : Operand) (t : TypeId)
    (ho : o.op = .call { callee := .builtin .append, args := #[s, x], argTypes := #[t, t] })
    (ht : Tryz.prog.underlying t = some (.slice 5))
    (v u : Value) (xs ys : List Int) (hs : a.eval s = v) (hx : a.eval x = u)
    (HO : Ow w0 W v xs) (HR : Bs W u ys) (hl : xs.length + ys.length ≤ 140737488355328)
    (h : ∀ v1 w1, Ow w0 w1 v1 (xs ++ ys) → W.grownBy w1 v.ownBlock → wpList Tryz.prog ops Q rest (a.put o.dst v1) w1) :
    Held (wpList Tryz.prog ops Q (o :: rest) a W) := by
  obtain ⟨A, c, rfl, hc, hr⟩ := HR
  refine Held.out (print_append_row w0.heap.size hgd s x t 5 .u8 1 ho ht info_u8 (by decide) v xs ys A _ c hs hx HO.own hr HO.below HO.below.size (by omega) ?_)
  intro v1 w1 h1 h2 h3 _
  exact h v1 w1 ⟨h1, h2⟩ h3
theorem app_byte {w0 W : World} (hgd : o.guard = none) (s x : Operand) (t : TypeId)
    (ho : o.op = .call { callee := .builtin .append, args := #[s, x], argTypes := #[t, t] })
    (ht : Tryz.prog.underlying t = some (.slice 5))
    (v : Value) (xs : List Int) (y : Int) (hs : a.eval s = v) (hx : a.eval x = .slice (some ⟨W.heap.size, 0, none⟩) 1 1)
    (HO : Ow w0 W v xs) (hl : xs.length + 1 ≤ 140737488355328)
    (h : ∀ v1 w1, Ow w0 w1 v1 (xs ++ [y]) → W.grownBy w1 v.ownBlock → wpList Tryz.prog ops Q rest (a.put o.dst v1) w1) :
    Held (wpList Tryz.prog ops Q (o :: rest) a (W.alloc (.cells #[.int .u8 y] 5))) := by
  refine Held.out (print_append_num w0.heap.size hgd s x t 5 .u8 1 ho ht info_u8 (by decide) v xs y hs hx HO.own HO.below HO.below.size (by omega) ?_)
  intro v1 w1 h1 h2 h3 _
  exact h v1 w1 ⟨h1, h2⟩ h3
/-- The same as a step of a region that draws. -/
theorem app_byte_step {K : Act → World → Prop} {E : Prop} {w0 W : World} (hgd : o.guard = none) (s x : Operand) (t : TypeId)
    (ho : o.op = .call { callee := .builtin .append, args := #[s, x], argTypes := #[t, t] })
    (ht : Tryz.prog.underlying t = some (.slice 5))
    (v : Value) (xs : List Int) (y : Int) (hs : a.eval s = v) (hx : a.eval x = .slice (some ⟨W.heap.size, 0, none⟩) 1 1)
    (HO : Ow w0 W v xs) (hl : xs.length + 1 ≤ 140737488355328)
    (h : ∀ v1 w1, Ow w0 w1 v1 (xs ++ [y]) → W.grownBy w1 v.ownBlock → K (a.put o.dst v1) w1) :
    if Region.wanted o (yielded ops a.tmps) = true then Oper.wp Tryz.prog o a (W.alloc (.cells #[.int .u8 y] 5)) K Q else E := by
  have hw : Region.wanted o (yielded ops a.tmps) = true := by simp [Region.wanted, hgd]
  rw [if_pos hw]
  have hK := step_append_cells (K := K) (Q := Q) (P := Tryz.prog) (ops := ops) (o := o) (a := a) w0.heap.size hw s x t 5 (.int .u8 0) 1 1 ho ht info_u8 rfl (by decide) (by decide) v xs.length (nums .u8 xs) [.int .u8 y] hs hx rfl (by simp [Value.oneCell']) HO.own HO.below HO.below.size (by omega)
    (fun v1 w1 h1 h2 h3 _ => h v1 w1 ⟨by simpa [nums] using h1, h2⟩ h3)
  rwa [if_pos hw] at hK
end
end Go.Proofs.YtononoakdebjeaaGreatDoor.Base
