/- The walk of the law CrcMore. -/
import Derived.Test.YtokempdkfpbpmaaCrcLaws
namespace Go.Proofs.Ytokempdkfpbpmaa.Crc
open Go.RowKit Go.Proofs.YtokempdkfpbpmaaW.PrintWords Go.Proofs.Ytokempdkfpbpmaa.Base
set_option linter.unusedVariables false
set_option linter.unusedSimpArgs false

theorem moreOf_app (r : Int) (xs ys : List Int) (h1 : Bytes xs) (h2 : Bytes ys) (hr : ∃ b, r = U b) : moreOf (moreOf r xs) ys = moreOf r (xs ++ ys) := by
  obtain ⟨b, rfl⟩ := hr
  have h3 : Bytes (xs ++ ys) := fun x hx => (List.mem_append.1 hx).elim (h1 x) (h2 x)
  rw [more_U b xs h1, more_U _ ys h2, more_U b _ h3]
  have e : ∀ x : BitVec 32, F ^^^ (F ^^^ x) = x := fun x => by rw [← BitVec.xor_assoc, BitVec.xor_self, BitVec.zero_xor]
  rw [e]
  unfold bitsOf
  rw [List.flatMap_append, List.foldl_append]
theorem moreOf_nil (r : Int) (hr : ∃ b, r = U b) : moreOf r [] = r := by
  obtain ⟨b, rfl⟩ := hr
  rw [more_U b [] (by intro x hx; cases hx)]
  have e : ∀ x : BitVec 32, F ^^^ (F ^^^ x) = x := fun x => by rw [← BitVec.xor_assoc, BitVec.xor_self, BitVec.zero_xor]
  exact congrArg U (e b)
theorem sumOf_U (xs : List Int) (h : Bytes xs) : ∃ b, sumOf xs = U b := ⟨_, sum_U xs h⟩
theorem Bytes.append {xs ys : List Int} (h1 : Bytes xs) (h2 : Bytes ys) : Bytes (xs ++ ys) := fun x hx => (List.mem_append.1 hx).elim (h1 x) (h2 x)
theorem more3 (xs ys zs : List Int) (h1 : Bytes xs) (h2 : Bytes ys) (h3 : Bytes zs) : moreOf (moreOf (sumOf xs) ys) zs = sumOf (xs ++ ys ++ zs) := by
  have u0 : ∃ b, (0 : Int) = U b := ⟨0#32, rfl⟩
  show moreOf (moreOf (moreOf 0 xs) ys) zs = moreOf 0 _
  rw [moreOf_app 0 xs ys h1 h2 u0, moreOf_app 0 _ zs (h1.append h2) h3 u0]

set_option maxHeartbeats 1600000 in
theorem CrcMore_any (v1 v2 v3 : Value) (xs ys zs : List Int) (w : World) (h1 : Bs w v1 xs) (h2 : Bs w v2 ys) (h3 : Bs w v3 zs) (b1 : Bytes xs) (b2 : Bytes ys) (b3 : Bytes zs) :
    Calls Try.prog 4 #[v1, v2, v3] w fun e w' => e = .returned (.bool true) ∧ Below w.heap.size w w' := by
  have P1 := Lib.hid (more3 xs ys zs b1 b2 b3)
  have P2 := Lib.hid (moreOf_nil (sumOf xs) (sumOf_U xs b1))
  have P3 : Hid (moreOf 0 xs = sumOf xs) := rfl
  have hn := Lib.hid (Bs.nil)
  obtain ⟨A1, c1, rfl, hc1, hm1⟩ := h1.len
  obtain ⟨A2, c2, rfl, hc2, hm2⟩ := h2.len
  obtain ⟨A3, c3, rfl, hc3, hm3⟩ := h3.len
  have R1 := Lib.hid h1
  have R2 := Lib.hid h2
  have R3 := Lib.hid h3
  clear h1 h2 h3
  by_cases g1 : xs.length ≤ 1000
  · by_cases g2 : ys.length ≤ 1000
    · by_cases g3 : zs.length ≤ 1000
      · have HE := Lib.hid (Ow.lit (Below.refl w.heap.size w) [] (by simp))
        go_enter Try.func4, Try.ntmps4
        go_wp2_with (at_builtin; refine Held.of ?_)
        refine app_bytes rfl (.tmp 21) (.tmp 22) 22 rfl Try.underlying22 _ _ [] xs rfl rfl HE.out (R1.out.alloc _) (by (try simp only [List.length_append, List.length_nil, List.length_cons]); omega) ?_
        clear HE
        intro va w1 o1 _
        rw [List.nil_append] at o1
        obtain ⟨Aa, na, ca, rfl, hna⟩ := o1.slice
        have Hna := Lib.hid hna
        clear hna
        have O1 := Lib.hid o1
        clear o1
        go_wp2_with (at_builtin; refine Held.of ?_)
        refine app_bytes rfl (.tmp 23) (.tmp 24) 22 rfl Try.underlying22 _ _ xs ys rfl rfl O1.out (R2.out.below O1.out.below) (by (try simp only [List.length_append, List.length_nil, List.length_cons]); omega) ?_
        clear O1
        intro va w2 o1 _
        obtain ⟨Ab, nb, cb, rfl, hna⟩ := o1.slice
        have Hnb := Lib.hid hna
        clear hna
        have O2 := Lib.hid o1
        clear o1
        go_wp2_with (at_builtin; refine Held.of ?_)
        refine app_bytes rfl (.tmp 25) (.tmp 26) 22 rfl Try.underlying22 _ _ (xs ++ ys) zs rfl rfl O2.out (R3.out.below O2.out.below) (by (try simp only [List.length_append, List.length_nil, List.length_cons]); omega) ?_
        clear O2
        intro va w3 o1 _
        obtain ⟨Ac, nc, cc, rfl, hna⟩ := o1.slice
        have Hnc := Lib.hid hna
        clear hna
        have O3 := Lib.hid o1
        clear o1
        go_wp2_with fail
        refine (sum_any _ _ _ (R1.out.below O3.out.below)).mono ?_
        rintro e w' ⟨rfl, rfl⟩
        go_wp2_with fail
        refine (more_any _ _ _ _ (R2.out.below O3.out.below)).mono ?_
        rintro e w' ⟨rfl, rfl⟩
        go_wp2_with fail
        refine (more_any _ _ _ _ (R3.out.below O3.out.below)).mono ?_
        rintro e w' ⟨rfl, rfl⟩
        rw [P1.out]
        go_wp2_with fail
        refine (sum_any _ _ _ O3.out.bs).mono ?_
        rintro e w' ⟨rfl, rfl⟩
        go_wp2_with fail
        refine (more_any _ _ _ _ (R1.out.below O3.out.below)).mono ?_
        rintro e w' ⟨rfl, rfl⟩
        rw [P3.out]
        go_wp2_with fail
        refine (sum_any _ _ _ (R1.out.below O3.out.below)).mono ?_
        rintro e w' ⟨rfl, rfl⟩
        go_wp2_with fail
        refine (sum_any _ _ _ (R1.out.below O3.out.below)).mono ?_
        rintro e w' ⟨rfl, rfl⟩
        go_wp2_with fail
        refine (more_any _ _ _ _ (hn.out _)).mono ?_
        rintro e w' ⟨rfl, rfl⟩
        rw [P2.out]
        go_wp2_with fail
        refine (sum_any _ _ _ (R1.out.below O3.out.below)).mono ?_
        rintro e w' ⟨rfl, rfl⟩
        go_wp2_with fail
        refine (awake_any _).mono ?_
        rintro e w' ⟨rfl, hb⟩
        go_wp2_with fail
        go_ret
        exact ⟨rfl, O3.out.below.trans (hb.mono O3.out.below.size)⟩
      · go_enter Try.func4, Try.ntmps4
        go_wp2
        go_ret
        exact ⟨rfl, Below.refl _ _⟩
    · go_enter Try.func4, Try.ntmps4
      go_wp2
      go_ret
      exact ⟨rfl, Below.refl _ _⟩
  · go_enter Try.func4, Try.ntmps4
    go_wp2
    go_ret
    exact ⟨rfl, Below.refl _ _⟩
end Go.Proofs.Ytokempdkfpbpmaa.Crc
