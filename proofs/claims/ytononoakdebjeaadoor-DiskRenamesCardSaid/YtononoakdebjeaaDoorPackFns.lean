/- The contracts of U32, U64, Text of package pack, and of the chapter's example. -/
import Derived.Test.YtononoakdebjeaaDoorPackWalk
namespace Go.Proofs.YtononoakdebjeaaDoor.Pack
open Go.RowKit Go.Proofs.YtononoakdebjeaaDoorW.PrintWords Go.Proofs.YtononoakdebjeaaDoor.Base
set_option linter.unusedVariables false
set_option linter.unusedSimpArgs false

section
variable {ops : Array Oper} {rest : List Oper} {o : Oper} {a : Act} {Q : Exit → Act → World → Prop}
theorem app_str {w0 W : World} (hgd : o.guard = none) (s x : Operand) (t u : TypeId)
    (ho : o.op = .call { callee := .builtin .append, args := #[s, x], argTypes := #[t, u] })
    (ht : Tryd.prog.underlying t = some (.slice 5)) (hu : Tryd.prog.underlying u = some .string)
    (v : Value) (xs : List Int) (y : ByteArray) (hs : a.eval s = v) (hx : a.eval x = .string y)
    (HO : Ow w0 W v xs) (hl : xs.length + y.size ≤ 140737488355328)
    (h : ∀ v1 w1, Ow w0 w1 v1 (xs ++ bytesOf y) → W.grownBy w1 v.ownBlock → wpList Tryd.prog ops Q rest (a.put o.dst v1) w1) :
    Held (wpList Tryd.prog ops Q (o :: rest) a W) := by
  refine Held.out (print_append_str (P := Tryd.prog) w0.heap.size hgd s x t u 5 ho ht hu info_u8 v xs y hs hx HO.own HO.below HO.below.size hl ?_)
  intro v1 w1 h1 h2 h3
  exact h v1 w1 ⟨h1, h2⟩ h3
end

theorem u32_any (v : Value) (xs : List Int) (n : Int) (w : World) (hv : Bs w v xs) (hl : xs.length ≤ 140737488000000) (n0 : 0 ≤ n) (n1 : n < 4294967296) :
    Calls Tryd.prog 73 #[v, .int .u32 n] w fun e w' => ∃ v', e = .returned v' ∧ Ow w w' v' (xs ++ leBytes n 4) := by
  have HV := Lib.hid hv
  clear hv
  go_enter Tryd.func73, Tryd.ntmps73
  go_wp2_with fail
  refine (put32_any _ _ _ 4 _ HV.out hl (by omega) n0 n1).mono ?_
  rintro e w1 ⟨v1, rfl, o1⟩
  have O1 := Lib.hid o1
  clear o1
  go_wp2
  go_ret
  exact ⟨_, rfl, O1.out⟩
/-- string(b). -/
theorem str_of {w : World} {v : Value} {xs : List Int} (h : Bs w v xs) : (convert 22 9 v).run Tryd.prog w = .ok (.string (strOfNums xs)) w := by
  obtain ⟨A, c, rfl, _, hr⟩ := h
  exact string_of_reads Tryd.underlying22 Tryd.underlying5 Tryd.underlying9 hr

end Go.Proofs.YtononoakdebjeaaDoor.Pack
