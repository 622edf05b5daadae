/- disk.fresh (walk). -/
import Derived.Test.YtononoakdebjeaaGreatDoorDkTurnsAll
import Derived.Test.YtononoakdebjeaaGreatDoorDkClone
namespace Go.Proofs.YtononoakdebjeaaGreatDoor.Dk
open Go.RowKit Go.Proofs.YtononoakdebjeaaGreatDoorW.PrintWords Go.Proofs.YtononoakdebjeaaGreatDoorW.PrintLast Go.Proofs.YtononoakdebjeaaGreatDoor.Base Go.Maps
set_option linter.unusedVariables false
set_option linter.unusedSimpArgs false
/-- Bytes that lie apart from the blocks of S. -/
def BsO (S : Nat → Prop) (w : World) (v : Value) (xs : List Int) : Prop := Bs w v xs ∧ ∀ k, v.ownBlock = some k → 0 < xs.length → ¬ S k ∧ k < w.heap.size
theorem add_block (ad : Addr) (i : Nat) : (ad.add i).block = ad.block := by
  unfold Addr.add
  split <;> rfl
theorem bs_lt {w : World} {v : Value} {xs : List Int} (h : Bs w v xs) {k : Nat} (hk : v.ownBlock = some k) (hl : 0 < xs.length) : k < w.heap.size := by
  obtain ⟨A, c, rfl, _, _, _, h3⟩ := h
  obtain ⟨ad, rfl, h4⟩ := h3 hl
  have h5 := h4 0 hl
  have hk : ad.block = k := Option.some.inj hk
  have e := add_block ad 0
  by_cases hlt : k < w.heap.size
  · exact hlt
  · exfalso
    have h6 : w.heap[(ad.add 0).block]? = none := by rw [e, hk]; exact Array.getElem?_eq_none (by omega)
    unfold World.cell? at h5
    rw [h6] at h5
    cases h5
theorem bs_blk {w w' : World} {v : Value} {xs : List Int} (h : Bs w v xs) (hk : ∀ k, v.ownBlock = some k → 0 < xs.length → w'.heap[k]? = w.heap[k]?) : Bs w' v xs := by
  obtain ⟨A, c, rfl, h1, h2, h2', h3⟩ := h
  refine ⟨A, c, rfl, h1, h2, h2', fun hl => ?_⟩
  obtain ⟨ad, rfl, h4⟩ := h3 hl
  refine ⟨ad, rfl, fun i hi => ?_⟩
  have e := add_block ad i
  rw [← h4 i hi]
  have h5 := hk ad.block rfl hl
  unfold World.cell?
  rw [e, h5]
theorem BsO.foot {S T : Nat → Prop} {w w' : World} {v : Value} {xs : List Int} (h : BsO S w v xs) (hf : Foot T w w') (hT : ∀ k, T k → k < w.heap.size → S k) : BsO S w' v xs :=
  ⟨bs_blk h.1 fun k hk hl => hf.block k (h.2 k hk hl).2 (fun ht => (h.2 k hk hl).1 (hT k ht (h.2 k hk hl).2)), fun k hk hl => ⟨(h.2 k hk hl).1, Nat.lt_of_lt_of_le (h.2 k hk hl).2 hf.size⟩⟩
theorem BsO.below {S : Nat → Prop} {w w' : World} {v : Value} {xs : List Int} (h : BsO S w v xs) (hb : Below w.heap.size w w') : BsO S w' v xs := h.foot (T := S) (Foot.of_below hb) (fun _ h _ => h)
theorem has_turns {D : DiskV} {ch : ChV} {j : Nat} (h : Has (turnsV D ch) j) : Has D j ∨ ch.dst = some j := by
  rcases h with ⟨s, hs⟩ | ⟨s, hs⟩ | ⟨d, hd, he⟩
  · rcases mem_chDo hs with h | h
    · exact .inl (.inl ⟨s, h⟩)
    · exact .inr h.2
  · exact .inl (.inr (.inl ⟨s, hs⟩))
  · rcases List.mem_append.1 hd with h | h
    · exact .inl (.inr (.inr ⟨d, h, he⟩))
    · rw [List.mem_singleton.1 h] at he
      exact .inr he
theorem OkD.turns {c : Nat} {D : DiskV} (h : OkD c D) {ch : ChV} (h1 : ch.name.size ≤ maxLen) (h2 : ch.gone.size ≤ maxLen) (h3 : ch.name ≠ noName → ch.dst.isSome = true)
    (hf : ∀ i, ch.dst = some i → (D.fs i).b.length ≤ 65536 ∧ (D.fs i).sure ≤ (D.fs i).b.length ∧ 1 ≤ (D.fs i).time ∧ (D.fs i).time < D.clock) : OkD (c + 1) (turnsV D ch) := by
  refine ⟨h.quota, h.clock1, Nat.le_succ_of_le h.clock, Nat.le_succ_of_le h.deeds, h.armed, h.up, ?_, ?_, h.names, ?_, ?_⟩
  · show chDo D.dir ch = _
    rw [h.dirE]
    exact (List.foldl_append (f := chDo) (b := D.sure) (l := D.pend) (l' := [ch])).symm ▸ rfl
  · have := h.few
    show D.sure.length + (D.pend ++ [ch]).length ≤ c + 1
    rw [List.length_append, List.length_singleton]
    omega
  · intro d hd
    rcases List.mem_append.1 hd with hd | hd
    · exact h.chs d hd
    · rw [List.mem_singleton.1 hd]
      exact ⟨h1, h2, h3⟩
  · intro i hi
    rcases has_turns hi with hi | hi
    · exact h.file i hi
    · exact hf i hi
theorem ow_R {w w' : World} {v : Value} {xs : List Int} (h : Ow w w' v xs) : (Kd.int .u8).R 5 w' 0 (fun k => w.heap.size ≤ k ∧ k < w'.heap.size) v xs := by
  have h1 : (Kd.int .u8).R 5 w' w.heap.size (fun _ => True) v xs := kd_int_R h.own (fun _ _ => trivial)
  exact Kd.R_mono (Kd.R_lower (Kd.R_bound h1) (Nat.zero_le _)) (fun k hk => ⟨hk.2.1, hk.2.2.1⟩)
theorem R_blk {S : Nat → Prop} {w : World} {v : Value} {xs : List Int} (h : Dat S w v xs) {k : Nat} (hk : dblk v = some k) : S k := by
  rcases h with h | ⟨q, cs, rfl, hs, _⟩
  · exact h.1 k hk
  · have : q = k := Option.some.inj hk
    exact this ▸ hs
theorem has_more {D : DiskV} {fs : Nat → FileV} {k : Nat} {j : Nat} (h : Has (tickV { D with fs := fs }) j) : Has D j := h
theorem upd_other {fs : Nat → FileV} {i j : Nat} {f : FileV} (h : j ≠ i) : upd fs i f j = fs j := by unfold upd; rw [if_neg h]
theorem upd_same {fs : Nat → FileV} {i : Nat} {f : FileV} : upd fs i f i = f := by unfold upd; rw [if_pos rfl]
/-- The files of a disk that turns, a new one among them. -/
theorem Dk.withFile {S : Nat → Prop} {c g i : Nat} {D : DiskV} {w : World} (h : Dk S c w g D) (hi : ¬ Has D i) (f : FileV) : Dk S c w g { D with fs := upd D.fs i f } := by
  have hh : ∀ j, Has { D with fs := upd D.fs i f } j → Has D j := fun j hj => hj
  have e : ∀ j, Has D j → upd D.fs i f j = D.fs j := fun j hj => upd_other (fun e => hi (e ▸ hj))
  obtain ⟨lt, sg, ok, ex, ⟨dv, h8, h9⟩⟩ := h
  refine ⟨lt, sg, ⟨ok.quota, ok.clock1, ok.clock, ok.deeds, ok.armed, ok.up, ok.dirE, ok.few, ok.names, ok.chs, fun j hj => ?_⟩, ex, ⟨dv, fun j hj => ?_, fun j q k hj hq => h9 j q k (hh j hj) (hh q hq)⟩⟩
  · show (upd D.fs i f j).b.length ≤ 65536 ∧ (upd D.fs i f j).sure ≤ (upd D.fs i f j).b.length ∧ 1 ≤ (upd D.fs i f j).time ∧ (upd D.fs i f j).time < D.clock
    rw [e j (hh j hj)]
    exact ok.file j (hh j hj)
  · show S j ∧ w.heap[j]? = some (.cells #[dv j, .int .i64 ((upd D.fs i f j).sure : Int), .int .i64 ((upd D.fs i f j).time : Int)] 74 (0, 0)) ∧ Dat S w (dv j) (upd D.fs i f j).b
    rw [e j (hh j hj)]
    exact h8 j (hh j hj)
theorem sx_trans {S : Nat → Prop} {a b c : World} {k : Nat} (h : Sx (Sx S a b) b c k) (h1 : a.heap.size ≤ b.heap.size) (h2 : b.heap.size ≤ c.heap.size) : Sx S a c k := by
  rcases h with (h | h) | h
  · exact .inl h
  · exact .inr ⟨h.1, by omega⟩
  · exact .inr ⟨by omega, h.2⟩
theorem foot_sx {S : Nat → Prop} {a b b' c : World} (h : Foot S a b) (k : Foot (Sx S a b') b c) : Foot S a c :=
  ((h.mono (T := Sx S a b') (fun _ _ hk => .inl hk)).trans k).mono (fun q hq hk => hk.elim id (fun h => by omega))
/-- The files behind a new one. -/
theorem FilesAt.fresh {S : Nat → Prop} {D : DiskV} {s : ByteArray} {xs : List Int} {dv : Nat → Value} {w w4 : World} {v2 : Value} {i : Nat} (h : FilesAt S w4 D dv) (hS : ∀ k, S k → k < w.heap.size) (hi : w.heap.size ≤ i)
    (hb : w4.heap[i]? = some (.cells #[v2, .int .i64 0, .int .i64 (D.clock : Int)] 74 (0, 0))) (hd : (Kd.int .u8).R 5 w4 0 (fun k => w.heap.size ≤ k ∧ k < w4.heap.size) v2 xs) (hz : w.heap.size ≤ w4.heap.size) :
    FilesAt (Sx S w w4) w4 (turnsV (tickV { D with fs := upd D.fs i ⟨xs, 0, D.clock⟩ }) ⟨s, some i, noName⟩) (fun j => if j = i then v2 else dv j) := by
  have hno : ¬ Has D i := fun hh => by have := hS i (h.1 i hh).1; omega
  have hH : ∀ j, Has (turnsV (tickV { D with fs := upd D.fs i ⟨xs, 0, D.clock⟩ }) ⟨s, some i, noName⟩) j → Has D j ∨ j = i := fun j hj => by
    rcases has_turns hj with hj | hj
    · exact .inl hj
    · exact .inr (Option.some.inj hj).symm
  have hil : i < w4.heap.size := (Array.getElem?_eq_some_iff.1 hb).1
  refine ⟨fun j hj => ?_, fun j q k hj hq hne h1 h2 => ?_⟩
  · show Sx S w w4 j ∧ w4.heap[j]? = some (.cells #[if j = i then v2 else dv j, .int .i64 ((upd D.fs i ⟨xs, 0, D.clock⟩ j).sure : Int), .int .i64 ((upd D.fs i ⟨xs, 0, D.clock⟩ j).time : Int)] 74 (0, 0)) ∧ Dat (Sx S w w4) w4 (if j = i then v2 else dv j) (upd D.fs i ⟨xs, 0, D.clock⟩ j).b
    rcases hH j hj with hj | rfl
    · have e : j ≠ i := fun e => hno (e ▸ hj)
      rw [if_neg e, upd_other e]
      obtain ⟨a, b, d⟩ := h.1 j hj
      exact ⟨.inl a, b, d.mono fun _ hk => .inl hk⟩
    · rw [if_pos rfl, upd_same]
      exact ⟨.inr ⟨hi, hil⟩, hb, .inl (Kd.R_mono hd fun _ hk => .inr hk)⟩
  · simp only at h1 h2
    rcases hH j hj with hj | rfl
    · have e : j ≠ i := fun e => hno (e ▸ hj)
      rw [if_neg e] at h1
      have l1 := hS k (R_blk (h.1 j hj).2.2 h1)
      rcases hH q hq with hq | rfl
      · have e : q ≠ i := fun e => hno (e ▸ hq)
        rw [if_neg e] at h2
        exact h.2 j q k hj hq hne h1 h2
      · rw [if_pos rfl] at h2
        have := (hd.1 k h2).1
        omega
    · rw [if_pos rfl] at h1
      have l1 := (hd.1 k h1).1
      rcases hH q hq with hq | rfl
      · have e : q ≠ j := fun e => hno (e ▸ hq)
        rw [if_neg e] at h2
        have := hS k (R_blk (h.1 q hq).2.2 h2)
        omega
      · exact hne rfl
set_option maxRecDepth 100000 in
set_option maxHeartbeats 4000000 in
theorem fresh_any (S : Nat → Prop) (c g : Nat) (D : DiskV) (s : ByteArray) (v : Value) (xs : List Int) (w : World) (h : Dk S c w g D) (hs : s.size ≤ maxLen) (hv : BsO S w v xs) (hl : xs.length ≤ 1000000) (hc : c ≤ 50000000) :
    Calls Tryz.prog 35 #[.pointer (some ⟨g, 0, none⟩), .string s, v] w fun e w' => ∃ D' k, e = .returned (.int .i64 ((k : Nat) : Int)) ∧ Dk (Sx S w w') (c + 2) w' g D' ∧ FreshR s xs D D' k ∧ Foot S w w' := by
  obtain ⟨A, cp, rfl, hcp, hmx⟩ := hv.1.len
  obtain ⟨n, hn⟩ : ∃ n, n = xs.length := ⟨_, rfl⟩
  rw [← hn] at hv hcp hmx ⊢
  have H := Lib.hid h
  have HV := Lib.hid hv
  have HN := Lib.hid hn
  have HS := Lib.hid hs
  have hnl : n ≤ 1000000 := by omega
  obtain ⟨q, hq⟩ : ∃ q, q = fitsV D s n := ⟨_, rfl⟩
  have HQ := Lib.hid hq
  clear h hv hn hs hl
  go_enter Tryz.func35, Tryz.ntmps35
  go_wp2_with fail
  refine (fits_any S c g D s n w H.out HS.out (by omega) (by omega)).mono ?_
  rintro e w1 ⟨rfl, b1⟩
  have HB1 := Lib.hid b1
  clear b1
  rw [← hq]
  by_cases q0 : q = 0
  · have hq0 : ((q : Int) == 0) = true := by rw [q0]; rfl
    have HQ0 := Lib.hid q0
    clear q0 hq
    go_wp2_with fail
    refine (cloneB_any _ xs w1 (HV.out.1.below HB1.out) (by rw [← HN.out]; omega)).mono ?_
    rintro e w2 ⟨v2, rfl, o2⟩
    obtain ⟨A2, n2, c2, rfl, hn2⟩ := o2.slice
    have HO2 := Lib.hid o2
    have HB2 := Lib.hid (HB1.out.trans (o2.below.mono HB1.out.size))
    clear o2 hn2
    go_wp2_with fail
    refine (tick_any S c g D w2 (H.out.below HB2.out) (by omega)).mono ?_
    rintro e w3 ⟨rfl, d3, f3, z3, k3⟩
    have HD3 := Lib.hid d3
    have HF3 := Lib.hid f3
    have HZ3 := Lib.hid z3
    have HK3 := Lib.hid k3
    clear d3 f3 z3 k3
    go_wp2_with fail
    obtain ⟨i, hi⟩ : ∃ i, w3.heap.size = i := ⟨_, rfl⟩
    obtain ⟨w4, hw4⟩ : ∃ w4, w4 = w3.alloc (.cells #[.slice A2 n2 c2, .int .i64 0, .int .i64 (D.clock : Int)] 74) := ⟨_, rfl⟩
    rw [← hw4]
    try rw [hi]
    have hb4 : Below w3.heap.size w3 w4 := by rw [hw4]; exact below_alloc (Below.refl _ _) _
    have hX : w4.heap[i]? = some (.cells #[.slice A2 n2 c2, .int .i64 0, .int .i64 (D.clock : Int)] 74 (0, 0)) := by rw [hw4, ← hi]; exact blk_new w3 _
    have hwi : w.heap.size ≤ i := by have h1 := HB2.out.size; have h2 := HZ3.out; omega
    have hw24 : w2.heap.size ≤ w4.heap.size := by have h2 := HZ3.out; have := hb4.size; omega
    have hf4 : Foot S w w4 := ((Foot.of_below HB2.out).trans HF3.out).trans (Foot.of_below hb4)
    have hd4 := HD3.out.below hb4
    have hno : ¬ Has (tickV D) i := fun hh => by
      obtain ⟨dv, hdv, _⟩ := hd4.fl
      have := H.out.lt i (hdv i hh).1
      omega
    have hR : (Kd.int .u8).R 5 w4 0 (fun k => w.heap.size ≤ k ∧ k < w4.heap.size) (.slice A2 n2 c2) xs := by
      have h1 := Kd.R_move (ow_R HO2.out) (w1 := w4) (fun k hk => by
        have h2 := HB1.out.size
        have h3 : k ≠ g := fun e => by have := H.out.lt g H.out.sg; omega
        rw [hb4.block k (by have := HZ3.out; omega), HK3.out k h3])
      exact Kd.R_mono h1 (fun k hk => ⟨by have := HB1.out.size; omega, by omega⟩)
    obtain ⟨D3, hD3⟩ : ∃ D3, D3 = tickV { D with fs := upd D.fs i ⟨xs, 0, D.clock⟩ } := ⟨_, rfl⟩
    have hdk : Dk S (c + 1) w4 g D3 := by rw [hD3]; exact hd4.withFile hno ⟨xs, 0, D.clock⟩
    have hdk4 : Dk (Sx S w w4) (c + 1) w4 g D3 := hdk.mono (fun k hk => .inl hk) (fun k hk => hk.elim (fun h => Nat.lt_of_lt_of_le (H.out.lt k h) hf4.size) (·.2))
    obtain ⟨dv, hfl⟩ := (hd4 : Dk S (c + 1) w4 g (tickV D)).fl
    have hfl' : FilesAt S w4 D dv := hfl
    have hflf : FilesAt (Sx S w w4) w4 (turnsV D3 ⟨s, some i, noName⟩) (fun j => if j = i then .slice A2 n2 c2 else dv j) := by rw [hD3]; exact hfl'.fresh H.out.lt hwi hX hR hf4.size
    have hxl : xs.length ≤ 65536 := by
      have h1 := HQ.out
      rw [HQ0.out, fitsV_eq, HN.out] at h1
      by_cases h2 : 65536 < xs.length
      · rw [if_pos (.inl h2)] at h1
        omega
      · omega
    have hok : OkD (c + 1 + 1) (turnsV D3 ⟨s, some i, noName⟩) := by
      refine hdk.ok.turns HS.out (by show (0 : Nat) ≤ _; exact Nat.zero_le _) (fun _ => rfl) (fun j hj => ?_)
      have e : j = i := (Option.some.inj hj).symm
      subst e
      rw [hD3]
      show (upd D.fs j ⟨xs, 0, D.clock⟩ j).b.length ≤ 65536 ∧ (upd D.fs j ⟨xs, 0, D.clock⟩ j).sure ≤ (upd D.fs j ⟨xs, 0, D.clock⟩ j).b.length ∧ 1 ≤ (upd D.fs j ⟨xs, 0, D.clock⟩ j).time ∧ (upd D.fs j ⟨xs, 0, D.clock⟩ j).time < D.clock + 1
      rw [upd_same]
      exact ⟨hxl, Nat.zero_le _, H.out.ok.clock1, Nat.lt_succ_self _⟩
    have HF4 := Lib.hid hf4
    have HNO : Hid (¬ Has D i) := hno
    have HDE := Lib.hid hD3
    have HLE : Hid (c + 1 ≤ 100000000) := by show _ ≤ _; omega
    clear hd4 hdk hfl hfl' hR hX hb4 hw24 hno hw4 hi hxl hD3
    refine (turns_any (Sx S w w4) (c + 1) g D3 ⟨s, some i, noName⟩ _ w4 hdk4 hflf hok HLE.out).mono ?_
    rintro e w5 ⟨rfl, d5, f5⟩
    have HD5 := Lib.hid d5
    have HF5 := Lib.hid (foot_sx HF4.out f5)
    have HSZ : Hid (w4.heap.size ≤ w5.heap.size) := f5.size
    clear d5 f5 hdk4 hflf hok
    go_wp2
    go_ret
    refine ⟨turnsV D3 ⟨s, some i, noName⟩, 0, rfl, HD5.out.mono (fun k hk => sx_trans hk HF4.out.size HSZ.out) (fun k hk => hk.elim (fun h => Nat.lt_of_lt_of_le (H.out.lt k h) HF5.out.size) (·.2)), .inr ?_, HF5.out⟩
    rw [← HN.out]
    exact ⟨by rw [← HQ.out]; exact HQ0.out, rfl, i, HNO.out, by rw [HDE.out]⟩
  · have hq0 : ((q : Int) == 0) = false := by rw [beq_eq_false_iff_ne]; omega
    have HQ0 := Lib.hid q0
    clear q0 hq
    go_wp2
    go_ret
    refine ⟨D, q, rfl, ((H.out.below HB1.out).mono (fun k hk => .inl hk) (fun k hk => hk.elim (fun h => Nat.lt_of_lt_of_le (H.out.lt k h) HB1.out.size) (·.2))).more (by omega), .inl ?_, Foot.of_below HB1.out⟩
    rw [← HN.out]
    exact ⟨by rw [← HQ.out]; exact HQ0.out, rfl, HQ.out⟩
end Go.Proofs.YtononoakdebjeaaGreatDoor.Dk
