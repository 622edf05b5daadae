/- The paths of a directory in their order: slices.Sorted(maps.Keys(..)). -/
import Derived.Test.YtononoakdebjeaaGreatDoorDkCutsAll
import Derived.Test.YtononoakdebjeaaGreatDoorDkIter
import Derived.Sort.KeysCollected
namespace Go.Proofs.YtononoakdebjeaaGreatDoor.Dk
open Go.RowKit Go.Proofs.YtononoakdebjeaaGreatDoorW.PrintWords Go.Proofs.YtononoakdebjeaaGreatDoorW.PrintLast Go.Proofs.YtononoakdebjeaaGreatDoor.Base Go.Proofs.YtononoakdebjeaaGreatDoor.Path Go.Maps Go.Sort
set_option linter.unusedVariables false
set_option linter.unusedSimpArgs false
theorem rise_ext {α : Type} {r : α → α → Prop} (hir : ∀ a, ¬ r a a) (has : ∀ a b, r a b → r b a → False) : ∀ (l m : List α), l.Pairwise r → m.Pairwise r → (∀ x, x ∈ l ↔ x ∈ m) → l = m
  | [], [], _, _, _ => rfl
  | [], b :: m, _, _, h => by have := (h b).2 (.head _); cases this
  | a :: l, [], _, _, h => by have := (h a).1 (.head _); cases this
  | a :: l, b :: m, hl, hm, h => by
    rw [List.pairwise_cons] at hl hm
    have e : a = b := by
      rcases List.mem_cons.1 ((h a).1 (.head _)) with e | h1
      · exact e
      · rcases List.mem_cons.1 ((h b).2 (.head _)) with e | h2
        · exact e.symm
        · exact (has a b (hl.1 b h2) (hm.1 a h1)).elim
    subst e
    refine congrArg (a :: ·) (rise_ext hir has l m hl.2 hm.2 fun x => ?_)
    constructor
    · intro hx
      rcases List.mem_cons.1 ((h x).1 (.tail _ hx)) with e | h1
      · exact (hir a (e ▸ hl.1 x hx)).elim
      · exact h1
    · intro hx
      rcases List.mem_cons.1 ((h x).2 (.tail _ hx)) with e | h1
      · exact (hir a (e ▸ hm.1 x hx)).elim
      · exact h1
theorem le_lt {a b : List UInt8} (h : a ≤ b) (hne : a ≠ b) : a < b := by
  by_cases e : a < b
  · exact e
  · exact absurd (List.le_antisymm h (List.not_lt.1 e)) hne
/-- A directory's paths, in their order. -/
def pathsL (L : Dir) : List (List UInt8) := L.map fun p => p.1.data.toList
theorem pathsL_up {L : Dir} (h : UpD L) : (pathsL L).Pairwise fun a b => a < b := by
  refine List.pairwise_map.2 (h.imp fun {a b} hab => ?_)
  rw [nlt_eq] at hab
  have h1 := of_decide_eq_true hab
  rw [ByteArray.toList_eq, ByteArray.toList_eq] at h1
  exact h1
theorem dir_keys {w : World} {m n : Nat} {L : Dir} {D0 : DataW Value} (hown : w.ownsMap Tryz.prog 9 VH m n D0) (hhas : ∀ s, Maps.has D0 (skey s) = ((look L s).map fptr).isSome) (hu : UpD L) {ss : List (List UInt8)} (hp : ss.Perm (strKeys D0)) :
    ss.mergeSort (fun x y => decide (x ≤ y)) = pathsL L := by
  obtain ⟨es, rfl, hr, hk⟩ := hown.canon (string_keyed Tryz.underlying9)
  obtain ⟨es', e', hkeys⟩ := hown.keysOf
  injection e' with e'
  subst e'
  have hstr : ∀ p ∈ es, ∃ x, p.1 = Lit.string x := by
    intro p hp
    obtain ⟨v, hv⟩ := hkeys p hp
    obtain ⟨x, _, e, _⟩ := keyOf_str Tryz.underlying9 hv
    exact ⟨x, e⟩
  have hap := apart_of_rising hr
  have hnd : (strKeys (DataW.map es)).Nodup := by
    show (es.map fun p => strOf p.1).Nodup
    refine List.pairwise_map.2 (hap.imp_of_mem fun {p q} hp' hq' hne e => hne ?_)
    obtain ⟨a, ha⟩ := hstr p hp'
    obtain ⟨c, hc⟩ := hstr q hq'
    rw [ha, hc] at e ⊢
    exact congrArg _ e
  have tr : ∀ a b c : List UInt8, decide (a ≤ b) = true → decide (b ≤ c) = true → decide (a ≤ c) = true := fun a b c h1 h2 => by simp only [decide_eq_true_eq] at *; exact List.le_trans h1 h2
  have tt : ∀ a b : List UInt8, (decide (a ≤ b) || decide (b ≤ a)) = true := fun a b => by simp only [Bool.or_eq_true, decide_eq_true_eq]; exact List.le_total a b
  have hq : (ss.mergeSort (fun x y => decide (x ≤ y))).Perm (strKeys (DataW.map es)) := (List.mergeSort_perm ss _).trans hp
  refine rise_ext (r := fun a b : List UInt8 => a < b) (fun a => List.lt_irrefl a) (fun a b h1 h2 => List.lt_asymm h1 h2) _ _ ?_ (pathsL_up hu) (fun x => ?_)
  · have h1 := List.pairwise_mergeSort tr tt ss
    have h2 : (ss.mergeSort (fun x y => decide (x ≤ y))).Nodup := hq.nodup_iff.2 hnd
    exact (h1.and h2).imp (fun {a b} hab => le_lt (of_decide_eq_true hab.1) hab.2)
  · have key : (look L ⟨x.toArray⟩).isSome = true ↔ x ∈ pathsL L := by
      unfold pathsL
      rw [List.mem_map]
      constructor
      · intro h
        obtain ⟨i, hi⟩ := Option.isSome_iff_exists.1 h
        exact ⟨_, look_mem hi, by simp⟩
      · rintro ⟨p, hp2, e⟩
        have e2 : (⟨x.toArray⟩ : ByteArray) = p.1 := by
          rw [← e]
        rw [e2, look_of_mem hu (i := p.2) hp2]
        rfl
    have hh := hhas ⟨x.toArray⟩
    rw [Option.isSome_map] at hh
    rw [hq.mem_iff, ← key, ← hh, has_eq, List.any_eq_true]
    show x ∈ es.map (fun p => strOf p.1) ↔ _
    rw [List.mem_map]
    constructor
    · rintro ⟨p, hp', rfl⟩
      obtain ⟨a, ha⟩ := hstr p hp'
      exact ⟨p, hp', by rw [ha]; simp [Lit.sameKey, strOf, skey]⟩
    · rintro ⟨p, hp', hs⟩
      obtain ⟨a, ha⟩ := hstr p hp'
      rw [ha] at hs
      exact ⟨p, hp', by rw [ha]; simpa [Lit.sameKey, strOf, skey] using hs⟩
/-- slices.Sorted(maps.Keys(m)): the paths of a directory. -/
theorem sorted_any (m : Nat) (L : Dir) (w : World) (h : DirAt w m L) (hu : UpD L) (hl : L.length ≤ 1000000000) :
    Calls Tryz.prog 42 #[.func (.func 69) #[] #[.pointer (some ⟨w.heap.size, 0, none⟩)]] (w.alloc (.cells #[.map (some m)] 76)) fun e w' => ∃ v, e = .returned v ∧
      w'.ownsRow (w.heap.size + 1) 9 1 v L.length ((pathsL L).map encS) ∧ Below (w.heap.size + 1) (w.alloc (.cells #[.map (some m)] 76)) w' := by
  obtain ⟨D0, hD, hsz, hhas, _⟩ := h
  refine (callsIn_wide.1 (Tryz.slices_Sorted_keys_42_43 m L.length D0 VH w hD (by rw [hsz]; simp only [maxLen]; omega) (by rw [hsz]; omega))).mono ?_
  rintro e w2 ⟨v2, ss, rfl, hss, hrow, _, hb2⟩
  have hk := dir_keys hD hhas hu hss
  have hl2 : ss.length = L.length := by
    have h1 := congrArg List.length hk
    rw [List.length_mergeSort] at h1
    rw [h1]
    unfold pathsL
    rw [List.length_map]
  rw [hk, hl2, World.size_alloc] at hrow
  rw [World.size_alloc] at hb2
  exact ⟨v2, rfl, hrow, hb2⟩
theorem keys_call (m : Nat) (w : World) : Calls Tryz.prog 43 #[.map (some m)] w fun e w' => e = .returned (.func (.func 69) #[] #[.pointer (some ⟨w.heap.size, 0, none⟩)]) ∧ w' = w.alloc (.cells #[.map (some m)] 76) :=
  callsIn_wide.1 (Tryz.maps_Keys_43 (some m) w)
end Go.Proofs.YtononoakdebjeaaGreatDoor.Dk
