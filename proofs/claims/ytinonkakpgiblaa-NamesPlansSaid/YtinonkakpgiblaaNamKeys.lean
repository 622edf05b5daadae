/- maps.Keys over a book's outputs: the round is told that what has come is a key (walks). -/
import Derived.RangeFuncNested
import Derived.RangeFuncBound
import Derived.RangeFuncCalls
import Derived.RangeFuncLeaves
import Derived.Shelf.Abstract
import Derived.Shelf.RegionOpen
import Derived.Lib.SlKeysI
import Derived.RangeFuncSeq
import Derived.RangeFuncStops
import Derived.RangeFuncKeeps
import Derived.Sort.MapsRangeIn
import Derived.Sort.KeysCollected
import Derived.WalkKit
import Derived.OwnWalkIn
import Derived.TacticsInMore
import Derived.RegionIn
import Derived.LoopNIn
import Derived.LoopIn
import Derived.Test.YtinonkakpgiblaaHeapMap
namespace Go.Proofs.Ytinonkakpgiblaa.Nam
open Go.RowKit Go.Proofs.YtinonkakpgiblaaW.PrintWords Go.Proofs.Ytinonkakpgiblaa.Base Go.Maps Go.Sort Go.Shelf
set_option linter.unusedVariables false
set_option linter.unusedSimpArgs false
attribute [local go_sem] Oper.semAt_some

/-- The keys of a map of numbers. -/
abbrev KeyOf (f : Nat → Option Value) := { k : Nat // (f k).isSome = true }
def kenc {f : Nat → Option Value} (k : KeyOf f) : Value := .int .i64 (k.1 : Int)
/-- All keys have come, each once. -/
def AllKeys (f : Nat → Option Value) (ss : List (KeyOf f)) : Prop := (ss.map fun k => k.1).Nodup ∧ ∀ k, (f k).isSome = true → k ∈ ss.map fun k => k.1
def intOfKey {f : Nat → Option Value} (k : KeyOf f) : Int := (k.1 : Int)
set_option maxRecDepth 100000 in
set_option maxHeartbeats 1000000 in
theorem keys_any (F : Fence) (n : Nat) (hF : F.fn 40) (hro : F.round = none) (mb : Option Nat) (w : World) :
    CallsIn F n Try.prog 40 #[.map mb] w fun e w' => e = .returned (.func (.func 62) #[] #[.pointer (some ⟨w.heap.size, 0, none⟩)]) ∧ w' = w.alloc (.cells #[.map mb] 67) := by
  refine callsIn_of_wp Try.func40 rfl hF ?_ hro
  simp only [Try.ntmps40, List.size_toArray, List.length_cons, List.length_nil, Nat.reduceAdd, Nat.reduceSub, Array.replicate_succ, Array.replicate_zero, List.push_toArray, List.append_toArray, List.nil_append, List.cons_append]
  gi_wp2
  go_ret
  exact ⟨rfl, rfl⟩
set_option maxRecDepth 100000 in
set_option maxHeartbeats 1000000 in
theorem keysS_any (F : Fence) (n : Nat) (hF : F.fn 62) (hro : F.round = none) (hn : 1 ≤ n) (l Bm b nn : Nat) (f : Nat → Option Value) (J Jx : List (KeyOf f) → World → Prop)
    (hY : ∀ pre x W, J pre W → pre.length < nn → YieldAt F (n - 1) Try.prog l #[kenc x] W fun e W' =>
      (e = .returned (.bool true) ∧ J (pre ++ [x]) W' ∧ KeepsWalks W W') ∨ (e = .returned (.bool false) ∧ Jx (pre ++ [x]) W'))
    (W : World) (hJ : AbidesFrom W.heap.size J) (hm : W.cell? ⟨Bm, 0, none⟩ = some (.map (some b))) (hown : VMap 3 ikey W b nn f) (h0 : J [] W) :
    CallsIn F n Try.prog 62 #[.func (.yield l) #[] #[], .pointer (some ⟨Bm, 0, none⟩)] W fun e W' => (∃ v, e = .returned v) ∧
      ((∃ ss, (AllKeys f ss ∧ ss.length ≤ nn) ∧ J ss W') ∨ (∃ pre, True ∧ Jx pre W')) := by
  obtain ⟨D0, hD, hsz, hhas, hat0, hkeys⟩ := hown
  have HH := Lib.hid hhas
  have HK := Lib.hid hkeys
  have HS := Lib.hid hsz
  clear hhas hkeys hat0 hsz
  refine callsIn_of_wp Try.func62 rfl hF ?_ hro
  simp only [Try.ntmps62, List.size_toArray, List.length_cons, List.length_nil, Nat.reduceAdd, Nat.reduceSub, Array.replicate_succ, Array.replicate_zero, List.push_toArray, List.append_toArray, List.nil_append, List.cons_append]
  gi_wp2_with (first
    | (gi_at_range; refine wpListIn_range_own _ rfl _ 67 rfl 3 82 (int_keyed Try.underlying3) Try.underlying67 _ b nn _ rfl hD ?_; intro w0 hrg0 hg0 hs0)
    | gi_in)
  go_frame
  gi_loopw [3] (fun _ wr => ∃ (left : Lit → Bool) (cnt : Nat) (ss : List (KeyOf f)), wr.ranges Try.prog 3 VH b W.heap.size nn D0 left cnt ∧ ss.length + cnt ≤ nn ∧ CollectedI D0 left (ss.map intOfKey) ∧ J ss wr)
    (fun _ wr => wr.rangeLeft b W.heap.size)
  case atStart =>
    exact ⟨_, _, [], hrg0, by rw [HS.out]; simp, CollectedI.start D0, hJ [] W w0 none h0 hg0 (fun r e => by cases e)⟩
  case round =>
    obtain ⟨left, cnt, ss, hrg, hcs, hC, hJs⟩ := hrel
    gi_wp2_with (first
      | (gi_at_next; refine wpListIn_next_ranges _ rfl _ rfl 3 (int_keyed Try.underlying3) VH encZ id (fun key kl hk => by obtain ⟨x, hx, _⟩ := Maps.keyOf_i64 Try.underlying3 hk; exact ⟨x, hx⟩) (fun v _ _ => ⟨v, rfl⟩) b W.heap.size nn _ _ _ rfl hrg ?_ ?_)
      | gi_in)
    · intro hc0 hl0
      gi_wp2
      go_end0
      refine ⟨⟨_, rfl⟩, .inl ⟨ss, ⟨⟨?_, fun k hk => ?_⟩, by omega⟩, hJs⟩⟩
      · have h := hC.1
        rw [List.nodup_iff_pairwise_ne, List.pairwise_map] at h ⊢
        exact h.imp fun hne e => hne (by unfold intOfKey; rw [e])
      · have h1 : has D0 (.int .i64 (k : Int)) = true := (HH.out k).trans hk
        have h2 := (hC.2 (k : Int)).2 ⟨h1, hl0 _⟩
        obtain ⟨q, hq, e⟩ := List.mem_map.1 h2
        unfold intOfKey at e
        exact List.mem_map.2 ⟨q, hq, by omega⟩
    · intro x c kl yd yp w2 cnt2 hkey hlk hv hat hrg2 hlt hg2 hs2 hen
      obtain ⟨x', ex, rfl, _⟩ := Maps.keyOf_i64 Try.underlying3 hkey
      obtain rfl : x = x' := encZ_inj ex
      obtain ⟨k, ek⟩ := HK.out _ (has_true_of_atKey hat)
      unfold ikey at ek
      injection ek with _ ek
      subst ek
      have hkf : (f k).isSome = true := (HH.out k).symm.trans (has_true_of_atKey hat)
      have hJ2 : J ss w2 := hJ ss wr w2 (some W.heap.size) hJs hg2 (fun r e => by cases e; exact ⟨Nat.le_refl _, hrg.iter_walk⟩)
      obtain ⟨fn, tmps, assign, body, hy, hR⟩ := hY ss ⟨k, hkf⟩ w2 hJ2 (by omega)
      simp only [kenc] at hy
      have hC2 := hC.step hlk hat
      clear hs2 ex
      gi_wp2
      refine hR.mono ?_
      rintro e W3 (⟨rfl, hJ3, hk3⟩ | ⟨rfl, hJx3⟩)
      · gi_wp2
        have hrg3 := hrg2.of_walks hk3
        go_roundw
        case rel => exact ⟨_, cnt2, ss ++ [⟨k, hkf⟩], hrg3, by simp; omega, by rw [List.map_append]; exact hC2, hJ3⟩
        case measure => rw [hrg3.left_eq, hrg.left_eq]; exact hlt
      · gi_wp2
        refine bodyPost_ret (results_none rfl _ _ _) rfl ?_
        exact ⟨⟨_, rfl⟩, .inr ⟨ss ++ [⟨k, hkf⟩], trivial, hJx3⟩⟩
/-- maps.Keys hands back a value that stops. -/
theorem keys_stops (F : Fence) (n : Nat) (hF : F.fn 62) (hro : F.round = none) (hn : 1 ≤ n) (Bm b nn : Nat) (f : Nat → Option Value) (w : World) (hBm : Bm < w.heap.size)
    (hm : w.cell? ⟨Bm, 0, none⟩ = some (.map (some b))) (hown : VMap 3 ikey w b nn f) :
    SeqStopsK F n Try.prog 62 #[.pointer (some ⟨Bm, 0, none⟩)] (fun x : KeyOf f => #[kenc x]) KeepsWalks (fun ss => AllKeys f ss ∧ ss.length ≤ nn) (fun _ => True) nn w := fun l J Jx W hW hJ _ hY h0 =>
  keysS_any F n hF hro hn l Bm b nn f J Jx hY W hJ ((hW.cell (p := ⟨Bm, 0, none⟩) hBm).trans hm) (hown.below hW) h0
end Go.Proofs.Ytinonkakpgiblaa.Nam
