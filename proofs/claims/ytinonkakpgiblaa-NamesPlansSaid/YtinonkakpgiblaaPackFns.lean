/- The contracts of U32, U64, Text of package pack, and of the chapter's example. -/
import Derived.Test.YtinonkakpgiblaaPackWalk
namespace Go.Proofs.Ytinonkakpgiblaa.Pack
open Go.RowKit Go.Proofs.YtinonkakpgiblaaW.PrintWords Go.Proofs.Ytinonkakpgiblaa.Base
set_option linter.unusedVariables false
set_option linter.unusedSimpArgs false

section
variable {ops : Array Oper} {rest : List Oper} {o : Oper} {a : Act} {Q : Exit → Act → World → Prop}
theorem app_str {w0 W : World} (hgd : o.guard = none) (s x : Operand) (t u : TypeId)
    (ho : o.op = .call { callee := .builtin .append, args := #[s, x], argTypes := #[t, u] })
    (ht : Try.prog.underlying t = some (.slice 5)) (hu : Try.prog.underlying u = some .string)
    (v : Value) (xs : List Int) (y : ByteArray) (hs : a.eval s = v) (hx : a.eval x = .string y)
    (HO : Ow w0 W v xs) (hl : xs.length + y.size ≤ 140737488355328)
    (h : ∀ v1 w1, Ow w0 w1 v1 (xs ++ bytesOf y) → W.grownBy w1 v.ownBlock → wpList Try.prog ops Q rest (a.put o.dst v1) w1) :
    Held (wpList Try.prog ops Q (o :: rest) a W) := by
  refine Held.out (print_append_str (P := Try.prog) w0.heap.size hgd s x t u 5 ho ht hu info_u8 v xs y hs hx HO.own HO.below HO.below.size hl ?_)
  intro v1 w1 h1 h2 h3
  exact h v1 w1 ⟨h1, h2⟩ h3
end

theorem u32_any (v : Value) (xs : List Int) (n : Int) (w : World) (hv : Bs w v xs) (hl : xs.length ≤ 140737488000000) (n0 : 0 ≤ n) (n1 : n < 4294967296) :
    Calls Try.prog 33 #[v, .int .u32 n] w fun e w' => ∃ v', e = .returned v' ∧ Ow w w' v' (xs ++ leBytes n 4) := by
  have HV := Lib.hid hv
  clear hv
  go_enter Try.func33, Try.ntmps33
  go_wp2_with fail
  refine (put32_any _ _ _ 4 _ HV.out hl (by omega) n0 n1).mono ?_
  rintro e w1 ⟨v1, rfl, o1⟩
  have O1 := Lib.hid o1
  clear o1
  go_wp2
  go_ret
  exact ⟨_, rfl, O1.out⟩
theorem u64_any (v : Value) (xs : List Int) (n : Int) (w : World) (hv : Bs w v xs) (hl : xs.length ≤ 140737488000000) (n0 : 0 ≤ n) (n1 : n < 18446744073709551616) :
    Calls Try.prog 34 #[v, .int .u64 n] w fun e w' => ∃ v', e = .returned v' ∧ Ow w w' v' (xs ++ leBytes n 8) := by
  have HV := Lib.hid hv
  clear hv
  go_enter Try.func34, Try.ntmps34
  go_wp2_with fail
  refine (put64_any _ _ _ 8 _ HV.out hl (by omega) n0 n1).mono ?_
  rintro e w1 ⟨v1, rfl, o1⟩
  have O1 := Lib.hid o1
  clear o1
  go_wp2
  go_ret
  exact ⟨_, rfl, O1.out⟩

set_option maxHeartbeats 800000 in
theorem text_any (v : Value) (xs : List Int) (s : ByteArray) (w : World) (hv : Bs w v xs) (hl : xs.length ≤ 140737488000000) (hs : s.size ≤ 65535) :
    Calls Try.prog 32 #[v, .string s] w fun e w' => ∃ v', e = .returned (.tuple #[v', .int .i64 0]) ∧ Ow w w' v' (xs ++ textBytes s) := by
  have HV := Lib.hid hv
  clear hv
  go_enter Try.func32, Try.ntmps32
  go_wp2_with fail
  refine (put16_any _ _ _ 2 _ HV.out hl (by omega) (by omega) (by omega)).mono ?_
  rintro e w1 ⟨v1, rfl, o1⟩
  have O1 := Lib.hid o1
  clear o1
  have hl2 : (xs ++ leBytes s.size 2).length + s.size ≤ 140737488355328 := by rw [List.length_append, leBytes_length]; omega
  go_wp2_with (at_builtin; refine Held.of ?_)
  refine app_str rfl (.tmp 13) (.tmp 14) 46 9 rfl Try.underlying46 Try.underlying9 _ (xs ++ leBytes s.size 2) s rfl rfl O1.out hl2 ?_
  intro v3 w3 o3 _
  rw [List.append_assoc] at o3
  have O3 := Lib.hid o3
  clear o3
  go_wp2
  go_ret2
  exact ⟨_, rfl, O3.out⟩
theorem text_long (v : Value) (s : ByteArray) (w : World) (hm : s.size ≤ 9223372036854775807) (hs : 65535 < s.size) :
    Calls Try.prog 32 #[v, .string s] w fun e w' => e = .returned (.tuple #[.slice none 0 0, .int .i64 3]) ∧ w = w' := by
  go_enter Try.func32, Try.ntmps32
  go_wp2
  go_ret2
  exact ⟨rfl, rfl⟩

/-- string(b). -/
theorem str_of {w : World} {v : Value} {xs : List Int} (h : Bs w v xs) : (convert 46 9 v).run Try.prog w = .ok (.string (strOfNums xs)) w := by
  obtain ⟨A, c, rfl, _, hr⟩ := h
  exact string_of_reads Try.underlying46 Try.underlying5 Try.underlying9 hr

end Go.Proofs.Ytinonkakpgiblaa.Pack
