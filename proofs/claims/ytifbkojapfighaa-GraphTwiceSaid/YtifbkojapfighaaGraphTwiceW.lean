/- bellowslaw13.GraphTwice (walk). -/
import Derived.Test.YtifbkojapfighaaGrAwake
namespace Go.Proofs.Ytifbkojapfighaa.Gr
open Go.RowKit Go.Proofs.YtifbkojapfighaaW.PrintWords Go.Proofs.YtifbkojapfighaaW.PrintLast Go.Proofs.Ytifbkojapfighaa.Base Go.Maps
set_option linter.unusedVariables false
set_option linter.unusedSimpArgs false
def man3 : ManV := ⟨[⟨[sa], [sa], [], [], s0, s0⟩, ⟨[sb], [sa], [], [], s0, s0⟩, ⟨[sb], [], [], [], s0, s0⟩], []⟩
def man1 : ManV := ⟨[⟨[sa, sa], [sa], [], [], s0, s0⟩], []⟩
def manc : ManV := ⟨[⟨[sa], [sa], [], [], s0, s0⟩], []⟩
theorem man3_tiny : tinyB man3 = true := by decide
theorem man1_tiny : tinyB man1 = true := by decide
theorem manc_tiny : tinyB manc = true := by decide
theorem man3_twice : ¬ (allOuts man3.edges).Nodup := by decide
theorem man1_twice : ¬ (allOuts man1.edges).Nodup := by decide
theorem manc_once : (allOuts manc.edges).Nodup := by decide
theorem manc_ring : (orderV (aheadV manc.edges) (List.range manc.edges.length)).length < manc.edges.length := by decide
set_option maxRecDepth 10000 in
set_option maxHeartbeats 4000000 in
theorem twice_any (b : Bool) (w : World) : Calls Try.prog 4 #[.bool b] w fun e w' => e = .returned (.bool true) ∧ Below w.heap.size w w' := by
  obtain ⟨x, hx⟩ : ∃ x, w.heap.size = x := ⟨_, rfl⟩
  cases b with
  | false =>
    obtain ⟨os, hos⟩ : ∃ os : List Obj, os = [.cells #[.string sa] 9,
          .cells #[.string sa] 9,
          .cells #[.string sb] 9,
          .cells #[.string sa] 9,
          .cells #[.string sb] 9,
          .cells #[.slice (some ⟨x, 0, none⟩) 1 1, .slice (some ⟨x + 1, 0, none⟩) 1 1, .slice none 0 0, .slice none 0 0, .string s0, .string s0, .slice (some ⟨x + 1 + 1, 0, none⟩) 1 1, .slice (some ⟨x + 1 + 1 + 1, 0, none⟩) 1 1, .slice none 0 0, .slice none 0 0, .string s0, .string s0, .slice (some ⟨x + 1 + 1 + 1 + 1, 0, none⟩) 1 1, .slice none 0 0, .slice none 0 0, .slice none 0 0, .string s0, .string s0] 44,
          .cells #[.slice (some ⟨x + 1 + 1 + 1 + 1 + 1, 0, none⟩) 3 3, .slice none 0 0] 33] := ⟨_, rfl⟩
    obtain ⟨W1, hw1⟩ : ∃ w1, w1 = lay w os := ⟨_, rfl⟩
    have hb1 : Below w.heap.size w W1 := by rw [hw1]; exact lay_below _ _
    have hg : ∀ i, i < 7 → W1.heap[x + i]? = os[i]? := fun i hi => by rw [hw1, ← hx]; exact lay_get os w i (by rw [hos]; exact hi)
    have k0 := hg 0 (by decide)
    have k1 := hg 1 (by decide)
    have k2 := hg 2 (by decide)
    have k3 := hg 3 (by decide)
    have k4 := hg 4 (by decide)
    have k5 := hg 5 (by decide)
    have k6 := hg 6 (by decide)
    rw [hos] at k0 k1 k2 k3 k4 k5 k6
    have HE1 : Hid (Ez W1 (.slice (some ⟨x + 1 + 1 + 1 + 1 + 1, 0, none⟩) 3 3) man3.edges) :=
      ez_at [((.slice (some ⟨x, 0, none⟩) 1 1, .slice (some ⟨x + 1, 0, none⟩) 1 1, .slice none 0 0, .slice none 0 0), ⟨[sa], [sa], [], [], s0, s0⟩), ((.slice (some ⟨x + 1 + 1, 0, none⟩) 1 1, .slice (some ⟨x + 1 + 1 + 1, 0, none⟩) 1 1, .slice none 0 0, .slice none 0 0), ⟨[sb], [sa], [], [], s0, s0⟩), ((.slice (some ⟨x + 1 + 1 + 1 + 1, 0, none⟩) 1 1, .slice none 0 0, .slice none 0 0, .slice none 0 0), ⟨[sb], [], [], [], s0, s0⟩)] _ 3 _ rfl rfl rfl k5 (by decide) fun p hp => by
        rcases List.mem_cons.1 hp with rfl | hp
        · exact ⟨str_at k0, str_at k1, ss_nil _, ss_nil _⟩
        rcases List.mem_cons.1 hp with rfl | hp
        · exact ⟨str_at k2, str_at k3, ss_nil _, ss_nil _⟩
        rw [List.mem_singleton.1 hp]
        exact ⟨str_at k4, ss_nil _, ss_nil _, ss_nil _⟩
    have HB1 := Lib.hid hb1
    have HW : Hid (W1 = lay w os) := hw1
    have HO := Lib.hid hos
    clear hb1 hg k0 k1 k2 k3 k4 k5 k6 hw1 hos
    go_enter Try.func4, Try.ntmps4
    go_wp2_with fail
    try rw [hx]
    have hww := HW.out.symm
    rw [HO.out] at hww
    unfold lay at hww
    simp only [List.foldl_cons, List.foldl_nil] at hww
    rw [hww]
    clear hww HW HO hx os
    refine (new_any _ man3 W1 _ _ rfl HE1.out (ss_nil _) (tiny_small man3_tiny).toSmallM).mono ?_
    rintro e w2 ⟨hres, hb2⟩
    rcases hres with ⟨rfl, _⟩ | ⟨rfl, hno, _⟩ | ⟨g, rfl, hno, _⟩
    rotate_left
    · exact absurd hno man3_twice
    · exact absurd hno man3_twice
    have HB2 := Lib.hid (HB1.out.trans (hb2.mono HB1.out.size))
    clear hb2 HE1 HB1
    obtain ⟨y, hx⟩ : ∃ y, w2.heap.size = y := ⟨_, rfl⟩
    obtain ⟨os, hos⟩ : ∃ os : List Obj, os = [.cells #[.string sa] 9,
          .cells #[.string sa] 9,
          .cells #[.slice (some ⟨y, 0, none⟩) 1 1, .slice (some ⟨y + 1, 0, none⟩) 1 1, .slice none 0 0, .slice none 0 0, .string s0, .string s0] 44] := ⟨_, rfl⟩
    obtain ⟨W3, hw1⟩ : ∃ w1, w1 = lay w2 os := ⟨_, rfl⟩
    have hb1 : Below w2.heap.size w2 W3 := by rw [hw1]; exact lay_below _ _
    have hg : ∀ i, i < 3 → W3.heap[y + i]? = os[i]? := fun i hi => by rw [hw1, ← hx]; exact lay_get os w2 i (by rw [hos]; exact hi)
    have k0 := hg 0 (by decide)
    have k1 := hg 1 (by decide)
    have k2 := hg 2 (by decide)
    rw [hos] at k0 k1 k2
    have HE3 : Hid (Ez W3 (.slice (some ⟨y + 1 + 1, 0, none⟩) 1 1) manc.edges) :=
      ez_at [((.slice (some ⟨y, 0, none⟩) 1 1, .slice (some ⟨y + 1, 0, none⟩) 1 1, .slice none 0 0, .slice none 0 0), ⟨[sa], [sa], [], [], s0, s0⟩)] _ 1 _ rfl rfl rfl k2 (by decide) fun p hp => by
        rw [List.mem_singleton.1 hp]
        exact ⟨str_at k0, str_at k1, ss_nil _, ss_nil _⟩
    have HB3 := Lib.hid (HB2.out.trans (hb1.mono HB2.out.size))
    have HW : Hid (W3 = lay w2 os) := hw1
    have HO := Lib.hid hos
    have HX := Lib.hid hx
    clear hb1 hg k0 k1 k2 hw1 hos hx
    go_wp2_with fail
    try rw [HX.out]
    have hww := HW.out.symm
    rw [HO.out] at hww
    unfold lay at hww
    simp only [List.foldl_cons, List.foldl_nil] at hww
    rw [hww]
    clear hww HW HO HX os
    refine (new_any _ manc W3 _ _ rfl HE3.out (ss_nil _) (tiny_small manc_tiny).toSmallM).mono ?_
    rintro e w4 ⟨hres, hb4⟩
    rcases hres with ⟨rfl, hno⟩ | ⟨rfl, _, _⟩ | ⟨g, rfl, _, hno, _⟩
    · exact absurd manc_once hno
    rotate_left
    · exact absurd manc_ring hno
    have HB4 := Lib.hid (HB3.out.trans (hb4.mono HB3.out.size))
    clear hb4 HE3 HB3 HB2
    go_wp2_with fail
    refine (awake_any _).mono ?_
    rintro e w5 ⟨rfl, hb5⟩
    have HB5 := Lib.hid (HB4.out.trans (hb5.mono HB4.out.size))
    clear hb5
    go_wp2
    go_ret
    exact ⟨rfl, HB5.out⟩
  | true =>
    obtain ⟨os, hos⟩ : ∃ os : List Obj, os = [.cells #[.string sa] 9,
          .cells #[.string sa] 9,
          .cells #[.string sb] 9,
          .cells #[.string sa] 9,
          .cells #[.string sb] 9,
          .cells #[.slice (some ⟨x, 0, none⟩) 1 1, .slice (some ⟨x + 1, 0, none⟩) 1 1, .slice none 0 0, .slice none 0 0, .string s0, .string s0, .slice (some ⟨x + 1 + 1, 0, none⟩) 1 1, .slice (some ⟨x + 1 + 1 + 1, 0, none⟩) 1 1, .slice none 0 0, .slice none 0 0, .string s0, .string s0, .slice (some ⟨x + 1 + 1 + 1 + 1, 0, none⟩) 1 1, .slice none 0 0, .slice none 0 0, .slice none 0 0, .string s0, .string s0] 44,
          .cells #[.slice (some ⟨x + 1 + 1 + 1 + 1 + 1 + 1 + 1 + 1 + 1, 0, none⟩) 1 1, .slice none 0 0] 33,
          .cells #[.string sa, .string sa] 9,
          .cells #[.string sa] 9,
          .cells #[.slice (some ⟨x + 1 + 1 + 1 + 1 + 1 + 1 + 1, 0, none⟩) 2 2, .slice (some ⟨x + 1 + 1 + 1 + 1 + 1 + 1 + 1 + 1, 0, none⟩) 1 1, .slice none 0 0, .slice none 0 0, .string s0, .string s0] 44] := ⟨_, rfl⟩
    obtain ⟨W1, hw1⟩ : ∃ w1, w1 = lay w os := ⟨_, rfl⟩
    have hb1 : Below w.heap.size w W1 := by rw [hw1]; exact lay_below _ _
    have hg : ∀ i, i < 10 → W1.heap[x + i]? = os[i]? := fun i hi => by rw [hw1, ← hx]; exact lay_get os w i (by rw [hos]; exact hi)
    have k0 := hg 0 (by decide)
    have k1 := hg 1 (by decide)
    have k2 := hg 2 (by decide)
    have k3 := hg 3 (by decide)
    have k4 := hg 4 (by decide)
    have k5 := hg 5 (by decide)
    have k6 := hg 6 (by decide)
    have k7 := hg 7 (by decide)
    have k8 := hg 8 (by decide)
    have k9 := hg 9 (by decide)
    rw [hos] at k0 k1 k2 k3 k4 k5 k6 k7 k8 k9
    have HE1 : Hid (Ez W1 (.slice (some ⟨x + 1 + 1 + 1 + 1 + 1 + 1 + 1 + 1 + 1, 0, none⟩) 1 1) man1.edges) :=
      ez_at [((.slice (some ⟨x + 1 + 1 + 1 + 1 + 1 + 1 + 1, 0, none⟩) 2 2, .slice (some ⟨x + 1 + 1 + 1 + 1 + 1 + 1 + 1 + 1, 0, none⟩) 1 1, .slice none 0 0, .slice none 0 0), ⟨[sa, sa], [sa], [], [], s0, s0⟩)] _ 1 _ rfl rfl rfl k9 (by decide) fun p hp => by
        rw [List.mem_singleton.1 hp]
        exact ⟨str2_at k7, str_at k8, ss_nil _, ss_nil _⟩
    have HB1 := Lib.hid hb1
    have HW : Hid (W1 = lay w os) := hw1
    have HO := Lib.hid hos
    clear hb1 hg k0 k1 k2 k3 k4 k5 k6 k7 k8 k9 hw1 hos
    go_enter Try.func4, Try.ntmps4
    go_wp2_with fail
    try rw [hx]
    have hww := HW.out.symm
    rw [HO.out] at hww
    unfold lay at hww
    simp only [List.foldl_cons, List.foldl_nil] at hww
    rw [hww]
    clear hww HW HO hx os
    refine (new_any _ man1 W1 _ _ rfl HE1.out (ss_nil _) (tiny_small man1_tiny).toSmallM).mono ?_
    rintro e w2 ⟨hres, hb2⟩
    rcases hres with ⟨rfl, _⟩ | ⟨rfl, hno, _⟩ | ⟨g, rfl, hno, _⟩
    rotate_left
    · exact absurd hno man1_twice
    · exact absurd hno man1_twice
    have HB2 := Lib.hid (HB1.out.trans (hb2.mono HB1.out.size))
    clear hb2 HE1 HB1
    obtain ⟨y, hx⟩ : ∃ y, w2.heap.size = y := ⟨_, rfl⟩
    obtain ⟨os, hos⟩ : ∃ os : List Obj, os = [.cells #[.string sa] 9,
          .cells #[.string sa] 9,
          .cells #[.slice (some ⟨y, 0, none⟩) 1 1, .slice (some ⟨y + 1, 0, none⟩) 1 1, .slice none 0 0, .slice none 0 0, .string s0, .string s0] 44] := ⟨_, rfl⟩
    obtain ⟨W3, hw1⟩ : ∃ w1, w1 = lay w2 os := ⟨_, rfl⟩
    have hb1 : Below w2.heap.size w2 W3 := by rw [hw1]; exact lay_below _ _
    have hg : ∀ i, i < 3 → W3.heap[y + i]? = os[i]? := fun i hi => by rw [hw1, ← hx]; exact lay_get os w2 i (by rw [hos]; exact hi)
    have k0 := hg 0 (by decide)
    have k1 := hg 1 (by decide)
    have k2 := hg 2 (by decide)
    rw [hos] at k0 k1 k2
    have HE3 : Hid (Ez W3 (.slice (some ⟨y + 1 + 1, 0, none⟩) 1 1) manc.edges) :=
      ez_at [((.slice (some ⟨y, 0, none⟩) 1 1, .slice (some ⟨y + 1, 0, none⟩) 1 1, .slice none 0 0, .slice none 0 0), ⟨[sa], [sa], [], [], s0, s0⟩)] _ 1 _ rfl rfl rfl k2 (by decide) fun p hp => by
        rw [List.mem_singleton.1 hp]
        exact ⟨str_at k0, str_at k1, ss_nil _, ss_nil _⟩
    have HB3 := Lib.hid (HB2.out.trans (hb1.mono HB2.out.size))
    have HW : Hid (W3 = lay w2 os) := hw1
    have HO := Lib.hid hos
    have HX := Lib.hid hx
    clear hb1 hg k0 k1 k2 hw1 hos hx
    go_wp2_with fail
    try rw [HX.out]
    have hww := HW.out.symm
    rw [HO.out] at hww
    unfold lay at hww
    simp only [List.foldl_cons, List.foldl_nil] at hww
    rw [hww]
    clear hww HW HO HX os
    refine (new_any _ manc W3 _ _ rfl HE3.out (ss_nil _) (tiny_small manc_tiny).toSmallM).mono ?_
    rintro e w4 ⟨hres, hb4⟩
    rcases hres with ⟨rfl, hno⟩ | ⟨rfl, _, _⟩ | ⟨g, rfl, _, hno, _⟩
    · exact absurd manc_once hno
    rotate_left
    · exact absurd manc_ring hno
    have HB4 := Lib.hid (HB3.out.trans (hb4.mono HB3.out.size))
    clear hb4 HE3 HB3 HB2
    go_wp2_with fail
    refine (awake_any _).mono ?_
    rintro e w5 ⟨rfl, hb5⟩
    have HB5 := Lib.hid (HB4.out.trans (hb5.mono HB4.out.size))
    clear hb5
    go_wp2
    go_ret
    exact ⟨rfl, HB5.out⟩
end Go.Proofs.Ytifbkojapfighaa.Gr
