/- Rows of numbers of the call's own; a run's times; the least of them. -/
import Derived.Test.YtehndlafbbpofaaRunBase
namespace Go.Proofs.Ytehndlafbbpofaa.Run
open Go.RowKit Go.Proofs.YtehndlafbbpofaaW.PrintWords Go.Proofs.Ytehndlafbbpofaa.Base Go.Proofs.Ytehndlafbbpofaa.Pack
set_option linter.unusedVariables false
set_option linter.unusedSimpArgs false

theorem info_int : (Try.prog.info? 3).map (fun i => (i.zero, i.size, i.bytes)) = some (some (.int .i64 0), 1, 8) := by kernel_rfl
/-- Since w0 the slice v has been made: it owns the numbers xs. -/
structure Oi (w0 w : World) (v : Value) (xs : List Int) : Prop where
  own : w.ownsRow w0.heap.size 3 1 v xs.length (nums .i64 xs)
  below : Below w0.heap.size w0 w
theorem Oi.slice {w0 w : World} {v : Value} {xs : List Int} (h : Oi w0 w v xs) : ∃ A n c, v = .slice A n c ∧ n = xs.length := by
  obtain ⟨A, c, h⟩ := own_slice h.own
  exact ⟨A, _, c, h, rfl⟩
theorem Oi.nil {w0 w : World} (h : Below w0.heap.size w0 w) : Oi w0 w (.slice none 0 0) [] := ⟨own_nil _ _ _ _, h⟩
theorem Oi.lit {w0 W : World} (h : Below w0.heap.size w0 W) (xs : List Int) (hm : xs.length ≤ 9223372036854775807) : Oi w0 (W.alloc (.cells (nums .i64 xs).toArray 3)) (.slice (some ⟨W.heap.size, 0, none⟩) xs.length xs.length) xs :=
  ⟨own_lit W w0.heap.size _ .i64 xs h.size hm, below_alloc h _⟩
theorem Oi.step {w0 w w1 : World} {v : Value} {xs : List Int} (h : Oi w0 w v xs) (hb : Below w.heap.size w w1) : Oi w0 w1 v xs :=
  ⟨pw_own_below h.own hb, h.below.trans (hb.mono h.below.size)⟩
theorem Oi.fs {w0 w : World} {v : Value} {xs : List Int} (h : Oi w0 w v xs) : Fs w v xs := by
  obtain ⟨A, c, e, hr⟩ := own_reads h.own
  subst e
  exact ⟨A, c, rfl, own_le h.own, hr⟩
section
variable {ops : Array Oper} {rest : List Oper} {o : Oper} {a : Act} {Q : Exit → Act → World → Prop}
theorem app_nums {w0 W : World} (hgd : o.guard = none) (s x : Operand) (t : TypeId)
    (ho : o.op = .call { callee := .builtin .append, args := #[s, x], argTypes := #[t, t] })
    (ht : Try.prog.underlying t = some (.slice 3))
    (v u : Value) (xs ys : List Int) (hs : a.eval s = v) (hx : a.eval x = u)
    (HO : Oi w0 W v xs) (HR : Fs W u ys) (hl : xs.length + ys.length ≤ 1000000)
    (h : ∀ v1 w1, Oi w0 w1 v1 (xs ++ ys) → W.grownBy w1 v.ownBlock → wpList Try.prog ops Q rest (a.put o.dst v1) w1) :
    Held (wpList Try.prog ops Q (o :: rest) a W) := by
  obtain ⟨A, c, rfl, hc, hr⟩ := HR
  refine Held.out (print_append_row w0.heap.size hgd s x t 3 .i64 8 ho ht info_int (by decide) v xs ys A _ c hs hx HO.own hr HO.below HO.below.size (by omega) ?_)
  intro v1 w1 h1 h2 h3 _
  exact h v1 w1 ⟨h1, h2⟩ h3
theorem app_num {w0 W : World} (hgd : o.guard = none) (s x : Operand) (t : TypeId)
    (ho : o.op = .call { callee := .builtin .append, args := #[s, x], argTypes := #[t, t] })
    (ht : Try.prog.underlying t = some (.slice 3))
    (v : Value) (xs : List Int) (y : Int) (hs : a.eval s = v) (hx : a.eval x = .slice (some ⟨W.heap.size, 0, none⟩) 1 1)
    (HO : Oi w0 W v xs) (hl : xs.length + 1 ≤ 1000000)
    (h : ∀ v1 w1, Oi w0 w1 v1 (xs ++ [y]) → W.grownBy w1 v.ownBlock → wpList Try.prog ops Q rest (a.put o.dst v1) w1) :
    Held (wpList Try.prog ops Q (o :: rest) a (W.alloc (.cells #[.int .i64 y] 3))) := by
  refine Held.out (print_append_num w0.heap.size hgd s x t 3 .i64 8 ho ht info_int (by decide) v xs y hs hx HO.own HO.below HO.below.size (by omega) ?_)
  intro v1 w1 h1 h2 h3 _
  exact h v1 w1 ⟨h1, h2⟩ h3
end

def lesser (x y : Int) : Int := if y < x then y else x
def leastOf (xs : List Int) : Int := xs.tail.foldl lesser (xs.getD 0 0)
set_option maxHeartbeats 800000 in
theorem min_any (v : Value) (xs : List Int) (w : World) (h : Fs w v xs) (hp : 0 < xs.length) :
    Calls Try.prog 37 #[v] w fun e w' => e = .returned (.int .i64 (leastOf xs)) ∧ w = w' := by
  obtain ⟨A, c, rfl, hc, hr⟩ := h
  have hm := hr.2.1
  have R := Lib.hid hr
  obtain ⟨ad, e1, hcell0⟩ := at_nat hr 0 hp
  have c0 : w.cell? ad = some (.int .i64 (rd xs 0)) := by simpa [Addr.add] using hcell0
  subst e1
  clear hr
  go_enter Try.func37, Try.ntmps37
  go_wp2
  go_loop [3, 4] (fun m i => ∃ (k : Nat) (x : Int), 1 ≤ k ∧ k ≤ xs.length ∧ i = .int .i64 k ∧ m = .int .i64 x ∧ Hid (x = (xs.tail.take (k - 1)).foldl lesser (xs.getD 0 0))) (fun _ i => xs.length - (intOf i).toNat)
  case atStart => exact ⟨1, _, by omega, by omega, rfl, rfl, rfl⟩
  case round =>
    obtain ⟨k, x, hk1, hk, rfl, rfl, HX⟩ := hrel
    by_cases l1 : k < xs.length
    · obtain ⟨ad', e1, hcell⟩ := at_nat R.out k l1
      cases e1
      have HN : Hid (lesser x (rd xs k) = (xs.tail.take (k + 1 - 1)).foldl lesser (xs.getD 0 0)) := by
        show _ = _
        have ht : k - 1 < xs.tail.length := by rw [List.length_tail]; omega
        rw [show k + 1 - 1 = (k - 1) + 1 from by omega, List.take_add_one, List.getElem?_eq_getElem ht, Option.toList_some, List.foldl_append, ← HX.out]
        simp only [List.foldl_cons, List.foldl_nil]
        congr 1
        rw [List.getElem_tail]
        unfold rd
        rw [Int.toNat_natCast, List.getD_eq_getElem?_getD]
        simp only [show k - 1 + 1 = k from by omega]
        rw [List.getElem?_eq_getElem l1]; rfl
      go_wp2
      go_round
      case rel => exact ⟨k + 1, _, by omega, by omega, by go_num, rfl, HN.out⟩
      case measure => simp [intOf]; omega
    · have hk2 : k = xs.length := by omega
      have HY : Hid (x = leastOf xs) := by
        show _ = _
        rw [HX.out, hk2, List.take_of_length_le (by rw [List.length_tail]; omega)]; rfl
      clear hk2
      go_wp2
      go_ret
      exact ⟨ret_int HY.out, rfl⟩
end Go.Proofs.Ytehndlafbbpofaa.Run
