/- bellowslaw13.awake (walk). -/
import Derived.Test.YtifbkojapfighaaGrMans
namespace Go.Proofs.Ytifbkojapfighaa.Gr
open Go.RowKit Go.Proofs.YtifbkojapfighaaW.PrintWords Go.Proofs.YtifbkojapfighaaW.PrintLast Go.Proofs.Ytifbkojapfighaa.Base Go.Maps
set_option linter.unusedVariables false
set_option linter.unusedSimpArgs false
abbrev sa : ByteArray := ⟨#[97]⟩
abbrev sb : ByteArray := ⟨#[98]⟩
abbrev sc : ByteArray := ⟨#[99]⟩
abbrev s0 : ByteArray := ⟨#[]⟩
def man0 : ManV := ⟨[⟨[sc], [sb], [], [], s0, s0⟩, ⟨[sb], [sa], [], [], s0, s0⟩], []⟩
theorem man0_tiny : tinyB man0 = true := by decide
theorem man0_nodup : (allOuts man0.edges).Nodup := by decide
theorem man0_ahead : aheadV man0.edges = [[1], []] := by decide
theorem man0_order : orderV [[1], []] (List.range 2) = [1, 0] := by decide
theorem man0_made : madeF (makerOf man0.edges) [sc] = [0] := by decide
theorem man0_good : ∀ t ∈ [sc], goodT man0.edges t := fun t ht => by
  rw [List.mem_singleton.1 ht]
  exact .inr (by decide)
theorem man0_reach {l : List Nat} (h : IsReach [[1], []] [0] l) : l = [0, 1] := by
  refine rise_ext (r := fun a b : Nat => a < b) (fun a => Nat.lt_irrefl a) (fun a b h1 h2 => Nat.lt_asymm h1 h2) l _ h.up (by decide) fun n => ?_
  rw [h.mem]
  constructor
  · intro hr
    induction hr with
    | base n hn => rw [List.mem_singleton.1 hn]; decide
    | step n k _ hk ih =>
      have h2 : n = 0 ∨ n = 1 := by simpa using ih
      rcases h2 with rfl | rfl
      · have h3 : k ∈ [1] := hk
        rw [List.mem_singleton.1 h3]; decide
      · have h3 : k ∈ ([] : List Nat) := hk
        cases h3
  · intro hn
    have h2 : n = 0 ∨ n = 1 := by simpa using hn
    rcases h2 with rfl | rfl
    · exact .base 0 (by decide)
    · exact .step 0 1 (.base 0 (by decide)) (by decide)
set_option maxRecDepth 10000 in
set_option maxHeartbeats 1600000 in
theorem awake_any (w : World) : Calls Try.prog 14 #[] w fun e w' => e = .returned (.bool true) ∧ Below w.heap.size w w' := by
  obtain ⟨x, hx⟩ : ∃ x, w.heap.size = x := ⟨_, rfl⟩
  obtain ⟨os, hos⟩ : ∃ os : List Obj, os = [.cells #[.string sc] 9, .cells #[.string sb] 9, .cells #[.string sb] 9, .cells #[.string sa] 9,
    .cells #[.slice (some ⟨x, 0, none⟩) 1 1, .slice (some ⟨x + 1, 0, none⟩) 1 1, .slice none 0 0, .slice none 0 0, .string s0, .string s0, .slice (some ⟨x + 1 + 1, 0, none⟩) 1 1, .slice (some ⟨x + 1 + 1 + 1, 0, none⟩) 1 1, .slice none 0 0, .slice none 0 0, .string s0, .string s0] 44] := ⟨_, rfl⟩
  obtain ⟨w1, hw1⟩ : ∃ w1, w1 = lay w os := ⟨_, rfl⟩
  have hb1 : Below w.heap.size w w1 := by rw [hw1]; exact lay_below _ _
  have hg : ∀ i, i < 5 → w1.heap[x + i]? = os[i]? := fun i hi => by rw [hw1, ← hx]; exact lay_get os w i (by rw [hos]; exact hi)
  have k0 := hg 0 (by decide)
  have k1 := hg 1 (by decide)
  have k2 := hg 2 (by decide)
  have k3 := hg 3 (by decide)
  have k4 := hg 4 (by decide)
  rw [hos] at k0 k1 k2 k3 k4
  have HE : Hid (Ez w1 (.slice (some ⟨x + 1 + 1 + 1 + 1, 0, none⟩) 2 2) man0.edges) :=
    ez_at [((.slice (some ⟨x, 0, none⟩) 1 1, .slice (some ⟨x + 1, 0, none⟩) 1 1, .slice none 0 0, .slice none 0 0), ⟨[sc], [sb], [], [], s0, s0⟩), ((.slice (some ⟨x + 1 + 1, 0, none⟩) 1 1, .slice (some ⟨x + 1 + 1 + 1, 0, none⟩) 1 1, .slice none 0 0, .slice none 0 0), ⟨[sb], [sa], [], [], s0, s0⟩)] _ 2 _ rfl rfl rfl k4 (by decide) fun p hp => by
      rcases List.mem_cons.1 hp with rfl | hp
      · exact ⟨str_at k0, str_at k1, ss_nil _, ss_nil _⟩
      · rw [List.mem_singleton.1 hp]
        exact ⟨str_at k2, str_at k3, ss_nil _, ss_nil _⟩
  have HB1 := Lib.hid hb1
  have HW : Hid (w1 = lay w os) := hw1
  have HO := Lib.hid hos
  clear hb1 hg k0 k1 k2 k3 k4 hw1 hos
  go_enter Try.func14, Try.ntmps14
  go_wp2_with fail
  try rw [hx]
  have hww := HW.out.symm
  rw [HO.out] at hww
  unfold lay at hww
  simp only [List.foldl_cons, List.foldl_nil] at hww
  rw [hww]
  clear hww HW HO
  refine (new_any _ man0 w1 _ _ rfl HE.out (ss_nil _) (tiny_small man0_tiny).toSmallM).mono ?_
  rintro e w2 ⟨hres, hb2⟩
  have hnot : ¬ (orderV (aheadV man0.edges) (List.range man0.edges.length)).length < man0.edges.length := by decide
  rcases hres with ⟨rfl, hno⟩ | ⟨rfl, _, hlt⟩ | ⟨g, rfl, _, _, hgx⟩
  · exact absurd man0_nodup hno
  · exact absurd hlt hnot
  have HG : Hid (Gx w2 g man0) := hgx
  have HB2 := Lib.hid (HB1.out.trans (hb2.mono HB1.out.size))
  clear hb2 hnot hgx HE HB1
  obtain ⟨y, hy⟩ : ∃ y, w2.heap.size = y := ⟨_, rfl⟩
  obtain ⟨w3, hw3⟩ : ∃ w3, w3 = w2.alloc (.cells #[.string sc] 9) := ⟨_, rfl⟩
  have hX3 : w3.heap[y]? = some (.cells #[.string sc] 9 (0, 0)) := by rw [hw3, ← hy]; exact blk_new w2 _
  have hb3 : Below w2.heap.size w2 w3 := by rw [hw3]; exact below_alloc (Below.refl _ _) _
  have HS3 := Lib.hid (str_at hX3)
  have HG3 := Lib.hid (HG.out.below hb3)
  have HB3 := Lib.hid (HB2.out.trans (hb3.mono HB2.out.size))
  have HW3 := Lib.hid hw3
  have HY := Lib.hid hy
  clear hX3 hb3 hw3 hy
  go_wp2_with fail
  try rw [HY.out]
  have hww := HW3.out.symm
  rw [hww]
  clear hww HW3 HY
  refine (plan_any g man0 _ [sc] w3 HG3.out (tiny_small man0_tiny) HS3.out (fun s hs => by rw [List.mem_singleton.1 hs]; decide) (by decide)).mono ?_
  rintro e w4 ⟨hres, hb4⟩
  rcases hres with ⟨rfl, hno⟩ | ⟨v4, l, rfl, _, hl, hr4⟩
  · exact absurd man0_good hno
  rw [man0_made, man0_ahead] at hl
  rw [man0_ahead, man0_reach hl, show [0, 1] = List.range 2 from by decide, man0_order] at hr4
  have HR4 := Lib.hid (Ir.is hr4)
  have HB4 := Lib.hid (HB3.out.trans (hb4.mono HB3.out.size))
  obtain ⟨A4, c4, e4⟩ := Kd.R_slice hr4
  subst e4
  clear hb4 hl hr4
  obtain ⟨y, hy⟩ : ∃ y, w4.heap.size = y := ⟨_, rfl⟩
  obtain ⟨w5, hw5⟩ : ∃ w5, w5 = w4.alloc (.cells #[.int .i64 1, .int .i64 0] 3) := ⟨_, rfl⟩
  have hX5 : w5.heap[y]? = some (.cells #[.int .i64 ((1 : Nat) : Int), .int .i64 ((0 : Nat) : Int)] 3 (0, 0)) := by rw [hw5, ← hy]; exact blk_new w4 _
  have hb5 : Below w4.heap.size w4 w5 := by rw [hw5]; exact below_alloc (Below.refl _ _) _
  have HI5 := Lib.hid (ints2_at hX5)
  have HR5 := Lib.hid (HR4.out.below hb5)
  have HB5 := Lib.hid (HB4.out.trans (hb5.mono HB4.out.size))
  have HW5 := Lib.hid hw5
  have HY := Lib.hid hy
  clear hX5 hb5 hw5 hy
  go_wp2_with fail
  try rw [HY.out]
  have hww := HW5.out.symm
  rw [hww]
  clear hww HW5 HY
  refine (numbers_any _ _ [1, 0] [1, 0] w5 HR5.out HI5.out).mono ?_
  rintro e w6 ⟨rfl, hb6⟩
  have HB6 := Lib.hid (HB5.out.trans (hb6.mono HB5.out.size))
  clear hb6
  rw [show decide ([1, 0] = [1, 0]) = true from rfl]
  go_wp2
  go_ret
  exact ⟨rfl, HB6.out⟩
end Go.Proofs.Ytifbkojapfighaa.Gr
