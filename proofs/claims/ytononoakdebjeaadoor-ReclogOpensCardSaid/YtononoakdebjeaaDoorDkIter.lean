/- slices.Sorted(maps.Keys(m)) at this dump: contracts laid by the kit's tools lay-iter and lay-plain. -/
import Derived.Shelf.SlIter.Nil
import Derived.Shelf.SortM.Plain
import Derived.Shelf.SortM.SortNone
import Derived.Ground.GgzProg
import Derived.Ground.SlgmProg
import Derived.Test.YtononoakdebjeaaDoorProg
namespace Go.Proofs
open Go.RowKit Go.Maps Go.Sort Go.Shelf
def Tryd.keys58_ren : Go.Shelf.Ren := ⟨fun | 7 => 58 | 10 => 79 | n => n, fun | 23 => 65 | 26 => 9 | 3 => 80 | 28 => 98 | 0 => 0 | 27 => 97 | 33 => 103 | 4 => 4 | n => n, fun | n => n⟩
theorem Tryd.keys58 : Go.Proofs.SlLaysZ.n7 Tryd.prog Tryd.keys58_ren := {
  mixed := by kernel_rfl
  f7 := ⟨Tryd.f58.name, by decide, Tryd.func58.trans (congrArg some (by kernel_rfl))⟩
  f10 := ⟨Tryd.f79.name, by decide, Tryd.func79.trans (congrArg some (by kernel_rfl))⟩
  t0 := Tryd.underlying0
  a0 := Tryd.isAgg0
  z0 := Tryd.sizeOf0
  v0 := Tryd.zeroValue0
  t4 := Tryd.underlying4
  a4 := Tryd.isAgg4
  z4 := Tryd.sizeOf4
  v4 := Tryd.zeroValue4
  t23 := Tryd.underlying65
  a23 := Tryd.isAgg65
  z23 := Tryd.sizeOf65
  v23 := Tryd.zeroValue65
  t26 := Tryd.underlying9
  a26 := Tryd.isAgg9
  z26 := Tryd.sizeOf9
  v26 := Tryd.zeroValue9
  t27 := Tryd.underlying97
  a27 := Tryd.isAgg97
  z27 := Tryd.sizeOf97
  v27 := Tryd.zeroValue97
  t28 := Tryd.underlying98
  a28 := Tryd.isAgg98
  z28 := Tryd.sizeOf98
  v28 := Tryd.zeroValue98
  t33 := Tryd.underlying103
  a33 := Tryd.isAgg103
  z33 := Tryd.sizeOf103
  v33 := Tryd.zeroValue103 }
def Tryd.sorted57_ren : Go.Shelf.Ren := ⟨fun | 6 => 57 | 8 => 77 | 9 => 78 | 11 => 86 | 13 => 88 | 12 => 87 | 23 => 108 | 24 => 109 | 14 => 99 | 15 => 100 | 16 => 101 | 17 => 102 | 18 => 103 | 19 => 104 | 20 => 105 | 21 => 106 | 22 => 107 | 25 => 117 | 26 => 118 | 27 => 119 | 28 => 120 | 29 => 121 | 30 => 122 | 31 => 129 | n => n, fun | 26 => 9 | 28 => 98 | 24 => 95 | 0 => 0 | 3 => 3 | 37 => 123 | 48 => 78 | 50 => 76 | 4 => 4 | 40 => 135 | 39 => 134 | 45 => 139 | 5 => 5 | 9 => 9 | 51 => 154 | 55 => 158 | 57 => 165 | 58 => 166 | 33 => 103 | n => n, fun | n => n⟩
theorem Tryd.sorted57 : Go.Proofs.SlLaysZ.n6 Tryd.prog Tryd.sorted57_ren := {
  mixed := by kernel_rfl
  f6 := ⟨Tryd.f57.name, by decide, Tryd.func57.trans (congrArg some (by kernel_rfl))⟩
  f8 := ⟨Tryd.f77.name, by decide, Tryd.func77.trans (congrArg some (by kernel_rfl))⟩
  f11 := ⟨Tryd.f86.name, by decide, Tryd.func86.trans (congrArg some (by kernel_rfl))⟩
  t0 := Tryd.underlying0
  a0 := Tryd.isAgg0
  z0 := Tryd.sizeOf0
  v0 := Tryd.zeroValue0
  t24 := Tryd.underlying95
  a24 := Tryd.isAgg95
  z24 := Tryd.sizeOf95
  v24 := Tryd.zeroValue95
  t26 := Tryd.underlying9
  a26 := Tryd.isAgg9
  z26 := Tryd.sizeOf9
  v26 := Tryd.zeroValue9
  t28 := Tryd.underlying98
  a28 := Tryd.isAgg98
  z28 := Tryd.sizeOf98
  v28 := Tryd.zeroValue98
  i26 := by kernel_rfl }
def Tryd.sort78_ren : Go.Shelf.Ren := ⟨fun | 6 => 78 | 8 => 88 | 9 => 87 | 19 => 108 | 20 => 109 | 21 => 99 | 22 => 100 | 23 => 101 | 24 => 102 | 25 => 103 | 26 => 104 | 27 => 105 | 28 => 106 | 29 => 107 | 36 => 117 | 31 => 118 | 32 => 119 | 37 => 120 | 38 => 121 | 39 => 122 | 41 => 129 | n => n, fun | 27 => 95 | 29 => 9 | 3 => 3 | 32 => 123 | 26 => 95 | 0 => 0 | 44 => 78 | 46 => 76 | 4 => 4 | 36 => 135 | 35 => 134 | 41 => 139 | 5 => 5 | 9 => 9 | 53 => 154 | 57 => 158 | 63 => 165 | 64 => 166 | n => n, fun | n => n⟩
theorem Tryd.sort78 : Go.Proofs.SlLaysM.n6 Tryd.prog Tryd.sort78_ren := {
  mixed := by kernel_rfl
  f6 := ⟨Tryd.f78.name, by decide, Tryd.func78.trans (congrArg some (by kernel_rfl))⟩
  f8 := Tryd.func88.trans (congrArg some (by kernel_rfl))
  f9 := ⟨Tryd.f87.name, by decide, Tryd.func87.trans (congrArg some (by kernel_rfl))⟩
  f19 := Tryd.func108.trans (congrArg some (by kernel_rfl))
  f20 := Tryd.func109.trans (congrArg some (by kernel_rfl))
  f21 := ⟨Tryd.f99.name, by decide, Tryd.func99.trans (congrArg some (by kernel_rfl))⟩
  f22 := ⟨Tryd.f100.name, by decide, Tryd.func100.trans (congrArg some (by kernel_rfl))⟩
  f23 := ⟨Tryd.f101.name, by decide, Tryd.func101.trans (congrArg some (by kernel_rfl))⟩
  f24 := ⟨Tryd.f102.name, by decide, Tryd.func102.trans (congrArg some (by kernel_rfl))⟩
  f25 := ⟨Tryd.f103.name, by decide, Tryd.func103.trans (congrArg some (by kernel_rfl))⟩
  f26 := ⟨Tryd.f104.name, by decide, Tryd.func104.trans (congrArg some (by kernel_rfl))⟩
  f27 := ⟨Tryd.f105.name, by decide, Tryd.func105.trans (congrArg some (by kernel_rfl))⟩
  f28 := ⟨Tryd.f106.name, by decide, Tryd.func106.trans (congrArg some (by kernel_rfl))⟩
  f29 := ⟨Tryd.f107.name, by decide, Tryd.func107.trans (congrArg some (by kernel_rfl))⟩
  f31 := Tryd.func118.trans (congrArg some (by kernel_rfl))
  f32 := Tryd.func119.trans (congrArg some (by kernel_rfl))
  f36 := ⟨Tryd.f117.name, by decide, Tryd.func117.trans (congrArg some (by kernel_rfl))⟩
  f37 := ⟨Tryd.f120.name, by decide, Tryd.func120.trans (congrArg some (by kernel_rfl))⟩
  f38 := ⟨Tryd.f121.name, by decide, Tryd.func121.trans (congrArg some (by kernel_rfl))⟩
  f39 := ⟨Tryd.f122.name, by decide, Tryd.func122.trans (congrArg some (by kernel_rfl))⟩
  f41 := ⟨Tryd.f129.name, by decide, Tryd.func129.trans (congrArg some (by kernel_rfl))⟩
  t0 := Tryd.underlying0
  a0 := Tryd.isAgg0
  z0 := Tryd.sizeOf0
  v0 := Tryd.zeroValue0
  t3 := Tryd.underlying3
  a3 := Tryd.isAgg3
  z3 := Tryd.sizeOf3
  v3 := Tryd.zeroValue3
  t4 := Tryd.underlying4
  a4 := Tryd.isAgg4
  z4 := Tryd.sizeOf4
  v4 := Tryd.zeroValue4
  t5 := Tryd.underlying5
  a5 := Tryd.isAgg5
  z5 := Tryd.sizeOf5
  v5 := Tryd.zeroValue5
  t9 := Tryd.underlying9
  a9 := Tryd.isAgg9
  z9 := Tryd.sizeOf9
  v9 := Tryd.zeroValue9
  t26 := Tryd.underlying95
  a26 := Tryd.isAgg95
  z26 := Tryd.sizeOf95
  v26 := Tryd.zeroValue95
  t27 := Tryd.underlying95
  a27 := Tryd.isAgg95
  z27 := Tryd.sizeOf95
  v27 := Tryd.zeroValue95
  t29 := Tryd.underlying9
  a29 := Tryd.isAgg9
  z29 := Tryd.sizeOf9
  v29 := Tryd.zeroValue9
  t32 := Tryd.underlying123
  a32 := Tryd.isAgg123
  z32 := Tryd.sizeOf123
  v32 := Tryd.zeroValue123
  t35 := Tryd.underlying134
  a35 := Tryd.isAgg134
  z35 := Tryd.sizeOf134
  v35 := Tryd.zeroValue134
  t36 := Tryd.underlying135
  a36 := Tryd.isAgg135
  z36 := Tryd.sizeOf135
  v36 := Tryd.zeroValue135
  t41 := Tryd.underlying139
  a41 := Tryd.isAgg139
  z41 := Tryd.sizeOf139
  v41 := Tryd.zeroValue139
  t44 := Tryd.underlying78
  a44 := Tryd.isAgg78
  z44 := Tryd.sizeOf78
  v44 := Tryd.zeroValue78
  t46 := Tryd.underlying76
  a46 := Tryd.isAgg76
  z46 := Tryd.sizeOf76
  v46 := Tryd.zeroValue76
  t53 := Tryd.underlying154
  a53 := Tryd.isAgg154
  z53 := Tryd.sizeOf154
  v53 := Tryd.zeroValue154
  t57 := Tryd.underlying158
  a57 := Tryd.isAgg158
  z57 := Tryd.sizeOf158
  v57 := Tryd.zeroValue158
  t63 := Tryd.underlying165
  a63 := Tryd.isAgg165
  z63 := Tryd.sizeOf165
  v63 := Tryd.zeroValue165
  t64 := Tryd.underlying166
  a64 := Tryd.isAgg166
  z64 := Tryd.sizeOf166
  v64 := Tryd.zeroValue166 }
theorem Tryd.sorts57 (m : Nat) : AnyZ.SortsIn Tryd.prog Tryd.sorted57_ren Fence.wide m :=
  ⟨fun blk off cap ss W hH hblk hsz => callsIn_wide.2 (AnyM.slices_Sort_string Tryd.sort78 blk off cap ss W hH hblk hsz),
   fun p cap W => callsIn_wide.2 (AnyM.slices_Sort_string_none Tryd.sort78 p cap W)⟩

theorem Tryd.maps_Keys_58 (mb : Option Nat) (W : World) : CallsIn Fence.wide 5 Tryd.prog 58 #[.map mb] W fun e w' => e = .returned (.func (.func 79) #[] #[.pointer (some ⟨W.heap.size, 0, none⟩)]) ∧ w' = W.alloc (.cells #[.map mb] 65) :=
  AnyZ.keys_in Tryd.keys58 Fence.wide 5 trivial rfl mb W

set_option maxHeartbeats 1000000 in
theorem Tryd.slices_Sorted_keys_57_58 {H : Type} (b nn : Nat) (D0 : DataW H) (R : Value → Option (DataW H × List MemPlace)) (w : World) (hown : w.ownsMap Tryd.prog 9 R b nn D0) (hmax : Maps.size D0 ≤ maxLen) (hbytes : Maps.size D0 * 16 ≤ 140737488355328) :
    CallsIn Fence.wide 5 Tryd.prog 57 #[.func (.func 79) #[] #[.pointer (some ⟨w.heap.size, 0, none⟩)]] (w.alloc (.cells #[.map (some b)] 65)) fun e w' => ∃ (v : Value) (ss : List (List UInt8)), e = .returned v ∧ ss.Perm (strKeys D0) ∧
      w'.ownsRow (w.alloc (.cells #[.map (some b)] 65)).heap.size 9 1 v ss.length ((ss.mergeSort (fun x y => decide (x ≤ y))).map encStr) ∧ (v = .slice none 0 0 ↔ ss = []) ∧ Below (w.alloc (.cells #[.map (some b)] 65)).heap.size (w.alloc (.cells #[.map (some b)] 65)) w' := by
  have hbl := hown.lt
  have hseq : SeqGives Fence.wide 2 Tryd.prog 79 #[.pointer (some ⟨w.heap.size, 0, none⟩)] encStr (fun ss => ss.Perm (strKeys D0)) (Maps.size D0) (w.alloc (.cells #[.map (some b)] 65)) :=
    AnyZ.keys_gives (ρ := Tryd.keys58_ren) { Tryd.keys58 with } Fence.wide _ trivial rfl (by omega) w.heap.size b nn D0 _ (by simp) (by simp) (by
      obtain ⟨es, clock, hb, Ft, hs, hD⟩ := hown
      exact ⟨es, clock, (Below.heap_alloc _ _ b hbl).trans hb, Ft, hs, hD⟩)
  exact AnyZ.sorted_in Tryd.sorted57 Fence.wide 5 trivial trivial trivial trivial rfl (by omega) (Tryd.sorts57 _) (enters_of Tryd.func78 (by kernel_rfl) rfl) 79 #[.pointer (some ⟨w.heap.size, 0, none⟩)] trivial (enters_of Tryd.func79 (by kernel_rfl) rfl) _ _ hmax hbytes _ hseq

set_option maxHeartbeats 1000000 in
theorem Tryd.slices_Sorted_keys_nil_57_58 (w : World) :
    CallsIn Fence.wide 5 Tryd.prog 57 #[.func (.func 79) #[] #[.pointer (some ⟨w.heap.size, 0, none⟩)]] (w.alloc (.cells #[.map none] 65)) fun e w' => ∃ (v : Value) (ss : List (List UInt8)), e = .returned v ∧ ss = [] ∧
      w'.ownsRow (w.alloc (.cells #[.map none] 65)).heap.size 9 1 v ss.length ((ss.mergeSort (fun x y => decide (x ≤ y))).map encStr) ∧ (v = .slice none 0 0 ↔ ss = []) ∧ Below (w.alloc (.cells #[.map none] 65)).heap.size (w.alloc (.cells #[.map none] 65)) w' := by
  have hseq : SeqGives Fence.wide 2 Tryd.prog 79 #[.pointer (some ⟨w.heap.size, 0, none⟩)] encStr (fun ss : List (List UInt8) => ss = []) 0 (w.alloc (.cells #[.map none] 65)) :=
    AnyZ.keys_gives_nil (ρ := Tryd.keys58_ren) { Tryd.keys58 with } Fence.wide _ trivial rfl w.heap.size _ (by simp) (by simp)
  exact AnyZ.sorted_in Tryd.sorted57 Fence.wide 5 trivial trivial trivial trivial rfl (by omega) (Tryd.sorts57 _) (enters_of Tryd.func78 (by kernel_rfl) rfl) 79 #[.pointer (some ⟨w.heap.size, 0, none⟩)] trivial (enters_of Tryd.func79 (by kernel_rfl) rfl) _ 0 (Nat.zero_le _) (by omega) _ hseq

end Go.Proofs
