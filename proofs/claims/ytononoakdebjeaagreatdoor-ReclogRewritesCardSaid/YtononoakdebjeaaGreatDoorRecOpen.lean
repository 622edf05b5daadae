/- reclog.Open over a disk (walk). -/
import Derived.Test.YtononoakdebjeaaGreatDoorRecLogAll
import Derived.Test.YtononoakdebjeaaGreatDoorRecScan
import Derived.Test.YtononoakdebjeaaGreatDoorDkNil
namespace Go.Proofs.YtononoakdebjeaaGreatDoor.Rec
open Go.RowKit Go.Proofs.YtononoakdebjeaaGreatDoorW.PrintWords Go.Proofs.YtononoakdebjeaaGreatDoorW.PrintLast Go.Proofs.YtononoakdebjeaaGreatDoor.Base Go.Proofs.YtononoakdebjeaaGreatDoor.Path Go.Proofs.YtononoakdebjeaaGreatDoor.Pack Go.Proofs.YtononoakdebjeaaGreatDoor.Dk Go.Maps
set_option linter.unusedVariables false
set_option linter.unusedSimpArgs false
/-! ### What Open does -/
/-- What is there of a name. -/
def bytesAt (D : DiskV) (s : ByteArray) : List Int := match Dk.look D.dir s with | some i => (D.fs i).b | none => []
def SpareR (s : ByteArray) (D D1 : DiskV) (k : Nat) : Prop :=
  ((D.down = true ∨ Dk.look D.dir s = none) ∧ D1 = D ∧ k = 0) ∨ (D.down = false ∧ (∃ i, Dk.look D.dir s = some i) ∧ DeedR D (rightB s) (ThereR s (RemoveR s)) D1 k)
def OpenB (kd : Int) (nm : ByteArray) (D D' : DiskV) (k : Nat) (rs : List (List Int)) : Prop :=
  (D.down = true ∧ D' = D ∧ k = 8) ∨ (D.down = false ∧ (scanRes kd (bytesAt D nm)).2.2 ≠ 0 ∧ D' = D ∧ k = 9) ∨
  (D.down = false ∧ (scanRes kd (bytesAt D nm)).2.2 = 0 ∧ rs = (scanRes kd (bytesAt D nm)).1 ∧
    (((scanRes kd (bytesAt D nm)).2.1 = 0 ∧ DeedR D (rightB nm) (FreshR nm (headBytes kd)) D' k) ∨
     ((scanRes kd (bytesAt D nm)).2.1 ≠ 0 ∧ (scanRes kd (bytesAt D nm)).2.1 < (bytesAt D nm).length ∧ DeedR D (rightB nm) (ThereR nm (CutR ((scanRes kd (bytesAt D nm)).2.1 : Nat))) D' k) ∨
     ((scanRes kd (bytesAt D nm)).2.1 ≠ 0 ∧ ¬ (scanRes kd (bytesAt D nm)).2.1 < (bytesAt D nm).length ∧ D' = D ∧ k = 0)))
def OpenR (kd : Int) (nm : ByteArray) (D D' : DiskV) (k : Nat) (rs : List (List Int)) : Prop :=
  ∃ D1 k1, SpareR (newName nm) D D1 k1 ∧ ((k1 ≠ 0 ∧ D' = D1 ∧ k = k1) ∨ (k1 = 0 ∧ OpenB kd nm D1 D' k rs))
def OpenP (w0 : World) (T : Nat → Prop) (c g : Nat) (nm : ByteArray) (kd : Int) (D : DiskV) (w : World) (e : Ending) (w' : World) : Prop :=
  ∃ D' k rs, ∃ U : Nat → Prop, (∀ q, U q → w.heap.size ≤ q) ∧ DU w0 (fun q => T q ∨ U q) (c + 6) w' g D' ∧ Kpt T w w' ∧ OpenR kd nm D D' k rs ∧
    ((k ≠ 0 ∧ e = .returned (.tuple #[.pointer none, .slice none 0 0, .int .i64 ((k : Nat) : Int)])) ∨
     (k = 0 ∧ ∃ l v, e = .returned (.tuple #[.pointer (some ⟨l, 0, none⟩), v, .int .i64 0]) ∧ LogAt U w' l g nm kd ∧ RU U w' v rs))
theorem open_nil (nm : ByteArray) (kd : Int) (w : World) (hs : nm.size ≤ 1000) :
    Calls Tryz.prog 26 #[.pointer none, .string nm, .int .u8 kd] w fun e w' => e = .returned (.tuple #[.pointer none, .slice none 0 0, .int .i64 8]) ∧ Below w.heap.size w w' := by
  go_enter Tryz.func26, Tryz.ntmps26
  go_wp2_with fail
  refine (stat_nil _ _).mono ?_
  rintro e w1 ⟨rfl, b1⟩
  have B1 := Lib.hid b1
  clear b1
  go_wp2_with fail
  refine (read_nil _ _).mono ?_
  rintro e w2 ⟨rfl, rfl⟩
  have HB : Hid (Below w.heap.size w (w1.alloc (.cells #[.int .i64 0, .int .i64 0] 36))) := below_alloc ((below_alloc (Below.refl w.heap.size w) _).trans (B1.out.mono (by simp))) _
  go_wp2
  go_ret3
  exact ⟨rfl, HB.out⟩
/-! ### Plain facts -/
theorem scanRes_err (kd : Int) (xs : List Int) : (scanRes kd xs).2.2 = 0 ∨ (scanRes kd xs).2.2 = 9 := by
  unfold scanRes
  split
  · exact .inl rfl
  · split
    · exact .inl rfl
    · exact .inr rfl
theorem scanEnd_le (n : Nat) : ∀ rest : List Int, rest.length ≤ n → scanEnd rest ≤ rest.length := by
  induction n with
  | zero =>
    intro rest h
    rw [scanEnd_bad (fun hg => by have := hg.1; omega)]
    exact Nat.zero_le _
  | succ n ih =>
    intro rest h
    by_cases hg : good rest
    · rw [scanEnd_good hg]
      have h1 := ih (rest.drop (8 + sizeAt rest)) (by rw [List.length_drop]; omega)
      rw [List.length_drop] at h1
      have := hg.2.2.1
      omega
    · rw [scanEnd_bad hg]
      exact Nat.zero_le _
theorem scanRes_end (kd : Int) (xs : List Int) : (scanRes kd xs).2.1 ≤ xs.length := by
  unfold scanRes
  split
  · exact Nat.zero_le _
  · split
    · rename_i h1 h2
      have hl := congrArg List.length h2
      rw [List.length_take, show (headBytes kd).length = 8 from rfl] at hl
      have h := scanEnd_le _ (xs.drop 8) (Nat.le_refl _)
      rw [List.length_drop] at h
      show 8 + scanEnd (xs.drop 8) ≤ _
      omega
    · exact Nat.zero_le _
theorem newName_ne (nm : ByteArray) : newName nm ≠ nm := fun h => by
  have h := congrArg ByteArray.size h
  unfold newName at h
  rw [ByteArray.size_append] at h
  have h : nm.size + 4 = nm.size := h
  omega
theorem newName_no (nm : ByteArray) : newName nm ≠ noName := fun h => by
  have h := congrArg ByteArray.size h
  unfold newName at h
  rw [ByteArray.size_append] at h
  have h : nm.size + 4 = 0 := h
  omega
theorem remove_look {D D' : DiskV} {x s : ByteArray} {k : Nat} (hu : UpD D.dir) (hx : x ≠ noName) (h : ThereR x (RemoveR x) D D' k) (hs : s ≠ x) : Dk.look D'.dir s = Dk.look D.dir s ∧ D'.fs = D.fs := by
  unfold ThereR at h
  split at h
  · obtain ⟨rfl, _⟩ := h
    exact ⟨rfl, rfl⟩
  · obtain ⟨rfl, _⟩ := h
    refine ⟨?_, rfl⟩
    show Dk.look (chDo D.dir ⟨noName, none, x⟩) s = _
    unfold chDo
    simp only [if_true]
    rw [if_neg hx, look_delD hu, if_neg hs]
theorem spare_look {D D1 : DiskV} {nm : ByteArray} {k : Nat} (hu : UpD D.dir) (h : SpareR (newName nm) D D1 k) : Dk.look D1.dir nm = Dk.look D.dir nm ∧ D1.fs = D.fs := by
  rcases h with ⟨_, rfl, _⟩ | ⟨_, _, h⟩
  · exact ⟨rfl, rfl⟩
  · rcases h with ⟨_, rfl, _⟩ | ⟨_, _, rfl, _⟩ | ⟨_, _, ⟨_, rfl, _⟩ | ⟨_, h⟩⟩
    · exact ⟨rfl, rfl⟩
    · exact ⟨rfl, rfl⟩
    · exact ⟨rfl, rfl⟩
    · exact remove_look (D := countV D) hu (newName_no nm) h (fun e => newName_ne nm e.symm)
theorem spare_bytes {D D1 : DiskV} {nm : ByteArray} {k : Nat} (hu : UpD D.dir) (h : SpareR (newName nm) D D1 k) : bytesAt D1 nm = bytesAt D nm := by
  obtain ⟨h1, h2⟩ := spare_look hu h
  unfold bytesAt
  rw [h1, h2]
theorem spare_up {D D1 : DiskV} {s : ByteArray} {k : Nat} (h : SpareR s D D1 k) (h1 : D1.down = false) : D.down = false := by
  rcases h with ⟨_, rfl, _⟩ | ⟨h, _⟩
  · exact h1
  · exact h
theorem bytesAt_len {c : Nat} {D : DiskV} (h : OkD c D) (s : ByteArray) : (bytesAt D s).length ≤ 65536 := by
  unfold bytesAt
  split
  · rename_i i hi
    exact (h.file i (has_dir hi)).1
  · simp
/-- What Stat tells, as far as Open asks. -/
theorem statP_told {D : DiskV} {s : ByteArray} {w w' : World} {e : Ending} (h : StatP D s w e w') : ∃ z y e1 : Int, e = .returned (.tuple #[.agg #[.int .i64 z, .int .i64 y], .int .i64 e1]) ∧ Below w.heap.size w w' ∧ ((e1 ≠ 0 ∧ (D.down = true ∨ Dk.look D.dir s = none)) ∨ (e1 = 0 ∧ D.down = false ∧ ∃ i, Dk.look D.dir s = some i)) := by
  obtain ⟨hb, ⟨h1, h⟩ | ⟨h1, h2, h⟩ | ⟨h1, i, h2, h⟩⟩ := h
  · exact ⟨_, _, _, h, hb, .inl ⟨by decide, .inl h1⟩⟩
  · exact ⟨_, _, _, h, hb, .inl ⟨by decide, .inr h2⟩⟩
  · exact ⟨_, _, _, h, hb, .inr ⟨rfl, h1, i, h2⟩⟩
theorem readP_told {D : DiskV} {s : ByteArray} {w w' : World} {e : Ending} (h : ReadP D s w e w') : (D.down = true ∧ e = .returned (.tuple #[.slice none 0 0, .int .i64 8]) ∧ Below w.heap.size w w') ∨ (D.down = false ∧ ∃ v, ∃ e1 : Int, (e1 = 0 ∨ e1 = 6) ∧ e = .returned (.tuple #[v, .int .i64 e1]) ∧ Ow w w' v (bytesAt D s)) := by
  rcases h with h | ⟨h1, h2, h, hb⟩ | ⟨h1, i, v, h2, h, ho⟩
  · exact .inl h
  · refine .inr ⟨h1, _, 6, .inr rfl, h, ?_⟩
    unfold bytesAt
    rw [h2]
    exact Ow.nil hb
  · refine .inr ⟨h1, v, 0, .inl rfl, h, ?_⟩
    unfold bytesAt
    rw [h2]
    exact ho
section
variable {w0 w w' w6 : World} {T U : Nat → Prop} {c g x k : Nat} {D D1 D' : DiskV} {nm : ByteArray} {kd : Int} {v : Value} {rs : List (List Int)}
theorem open_bad (h : DU w0 (fun q => T q ∨ U q) (c + 3) w' g D') (hU : ∀ q, U q → w.heap.size ≤ q) (hT : Kpt T w w') (hs : SpareR (newName nm) D D1 0) (hk : k ≠ 0) (hr : OpenB kd nm D1 D' k rs) :
    OpenP w0 T c g nm kd D w (.returned (.tuple #[.pointer none, .slice none 0 0, .int .i64 ((k : Nat) : Int)])) w' :=
  ⟨D', k, rs, U, hU, h.more (by omega), hT, ⟨D1, 0, hs, .inr ⟨rfl, hr⟩⟩, .inl ⟨hk, rfl⟩⟩
/-- What stands when the file has been scanned. -/
structure OpenM (w0 : World) (T U : Nat → Prop) (c g x : Nat) (nm : ByteArray) (kd : Int) (D D1 : DiskV) (v : Value) (rs : List (List Int)) (w w6 : World) : Prop where
  du : DU w0 (fun q => T q ∨ U q) (c + 3) w6 g D1
  new : ∀ q, U q → w.heap.size ≤ q
  log : LogAt U w6 x g nm kd
  row : RU U w6 v rs
  kept : Kpt T w w6
  spare : SpareR (newName nm) D D1 0
theorem OpenM.bad (h : OpenM w0 T U c g x nm kd D D1 v rs w w6) (h2 : DU w0 (fun q => T q ∨ U q) (c + 6) w' g D') (ht : Kpt (fun q => T q ∨ U q) w6 w') (hk : k ≠ 0) {rs' : List (List Int)} (hr : OpenB kd nm D1 D' k rs') :
    OpenP w0 T c g nm kd D w (.returned (.tuple #[.pointer none, .slice none 0 0, .int .i64 ((k : Nat) : Int)])) w' :=
  ⟨D', k, rs', U, h.new, h2, h.kept.trans (ht.sub fun q hq => .inl hq), ⟨D1, 0, h.spare, .inr ⟨rfl, hr⟩⟩, .inl ⟨hk, rfl⟩⟩
theorem OpenM.good (h : OpenM w0 T U c g x nm kd D D1 v rs w w6) (h2 : DU w0 (fun q => T q ∨ U q) (c + 6) w' g D') (ht : Kpt (fun q => T q ∨ U q) w6 w') (hr : OpenB kd nm D1 D' 0 rs) :
    OpenP w0 T c g nm kd D w (.returned (.tuple #[.pointer (some ⟨x, 0, none⟩), v, .int .i64 0])) w' :=
  ⟨D', 0, rs, U, h.new, h2, h.kept.trans (ht.sub fun q hq => .inl hq), ⟨D1, 0, h.spare, .inr ⟨rfl, hr⟩⟩, .inr ⟨rfl, x, v, rfl, h.log.kpt (ht.sub fun q hq => .inr hq), h.row.kpt (ht.sub fun q hq => .inr hq)⟩⟩
end
set_option maxRecDepth 100000 in
set_option maxHeartbeats 4000000 in
theorem open_any (w0 : World) (T : Nat → Prop) (c g : Nat) (D : DiskV) (nm : ByteArray) (kd : Int) (w : World) (h : DU w0 T c w g D) (hs : nm.size ≤ 1000) (k0 : 0 ≤ kd) (k1 : kd < 256) (hB : D.down = false → Bytes (bytesAt D nm)) (hc : c ≤ 1000000) :
    Calls Tryz.prog 26 #[.pointer (some ⟨g, 0, none⟩), .string nm, .int .u8 kd] w (OpenP w0 T c g nm kd D w) := by
  obtain ⟨x, hx⟩ : ∃ x, w.heap.size = x := ⟨_, rfl⟩
  obtain ⟨W1, hW1⟩ : ∃ W, W = w.alloc (.cells #[.pointer (some ⟨g, 0, none⟩), .string nm, .int .u8 kd] 95) := ⟨_, rfl⟩
  have b1 : Below w.heap.size w W1 := by rw [hW1]; exact below_alloc (Below.refl _ _) _
  have hl1 : W1.heap[x]? = some (logO g nm kd) := by rw [hW1]; exact alloc_at w _ hx
  have H1 : Hid (DU w0 (fun q => T q ∨ q = x) c W1 g D) := h.add b1 (fun q hq => by
    rw [hq]
    exact ⟨by omega, blk_lt hl1⟩)
  have HK0 : Hid (Kpt T w W1) := h.kpt b1
  have HUP := Lib.hid h.ok.dirUp
  have HBY := Lib.hid hB
  have HL1 := Lib.hid hl1
  have HB1 := Lib.hid b1
  have hn4 : (nm ++ (⟨#[46, 110, 101, 119]⟩ : ByteArray)).size ≤ maxLen := by rw [ByteArray.size_append]; simp only [maxLen]; show nm.size + 4 ≤ _; omega
  have hns : nm.size ≤ maxLen := by simp only [maxLen]; omega
  have HST := Lib.hid (H1.out.stat (nm ++ ⟨#[46, 110, 101, 119]⟩) hn4)
  have HW1 := Lib.hid hW1
  have HN4 := Lib.hid hn4
  have HNS := Lib.hid hns
  have HX := Lib.hid hx
  clear h hB b1 hl1 hW1 hn4 hns
  go_enter Tryz.func26, Tryz.ntmps26
  go_wp2_with fail
  rw [← HW1.out]
  --S1
  refine HST.out.mono ?_
  rintro e w2 hp
  obtain ⟨z, y, e1, rfl, b2, hp⟩ := statP_told hp
  have HP := Lib.hid hp
  have HB2 := Lib.hid b2
  clear hp b2
  go_upto_if 30 with fail
  obtain ⟨W3, hW3⟩ : ∃ W, W = w2.alloc (.cells #[.int .i64 z, .int .i64 y] 36) := ⟨_, rfl⟩
  have b3 : Below W1.heap.size W1 W3 := by rw [hW3]; exact below_alloc HB2.out _
  rw [← hW3]
  have H3 : Hid (DU w0 (fun q => T q ∨ q = x) c W3 g D) := H1.out.below b3
  have HK3 : Hid (Kpt T w W3) := HK0.out.trans ((H1.out.kpt b3).sub fun q hq => .inl hq)
  have HL3 : Hid (W3.heap[x]? = some (logO g nm kd)) := (b3.block x (blk_lt HL1.out)).trans HL1.out
  clear hW3 b3 HST HW1 hx
  go_cut [12] from 31 (fun s12 wx => ∃ D1, Hid (DU w0 (fun q => T q ∨ q = x) (c + 3) wx g D1) ∧ Hid (SpareR (newName nm) D D1 0) ∧ Hid (Kpt (fun q => T q ∨ q = x) W3 wx))
  case first =>
    rcases HP.out with ⟨q1, q2⟩ | ⟨rfl, q2, q3⟩
    · have d1 : (e1 == 0) = false := by rw [beq_eq_false_iff_ne]; exact q1
      have HQ : Hid (SpareR (newName nm) D D 0) := .inl ⟨q2, rfl, rfl⟩
      clear q1 q2
      go_wp2
      go_meet
      case rel => exact ⟨D, Lib.hid (H3.out.more (by omega)), HQ, Lib.hid Kpt.refl⟩
    · have HQ := Lib.hid (And.intro q2 q3)
      have HRM := Lib.hid (H3.out.remove (nm ++ ⟨#[46, 110, 101, 119]⟩) HN4.out (by omega))
      clear q2 q3
      go_wp2_with fail
      refine HRM.out.mono ?_
      rintro e w4 ⟨D1, k1, rfl, h4, r4, t4⟩
      have HS : Hid (SpareR (newName nm) D D1 k1) := .inr ⟨HQ.out.1, HQ.out.2, r4⟩
      have H4 := Lib.hid h4
      have HT4 := Lib.hid t4
      clear h4 r4 t4
      by_cases g1 : k1 = 0
      · subst g1
        go_wp2
        go_meet
        case rel => exact ⟨D1, H4, HS, HT4⟩
      · have d1 : ((k1 : Int) == 0) = false := by rw [beq_eq_false_iff_ne]; omega
        have HG := Lib.hid g1
        clear g1
        go_wp2
        go_ret3
        exact ⟨D1, k1, [], fun q => q = x, fun q hq => by rw [hq, HX.out]; exact Nat.le_refl _, H4.out.more (by omega), HK3.out.trans (HT4.out.sub fun q hq => .inl hq), ⟨D1, k1, HS.out, .inl ⟨HG.out, rfl, rfl⟩⟩, .inl ⟨HG.out, rfl⟩⟩
  case rest =>
    obtain ⟨D1, H4, HS, HT4⟩ := hcut
    have HRD := Lib.hid (H4.out.read nm HNS.out)
    have HBA : Hid (bytesAt D1 nm = bytesAt D nm) := spare_bytes HUP.out HS.out
    have HLN : Hid ((bytesAt D1 nm).length ≤ 65536) := bytesAt_len H4.out.ok nm
    have HXL : Hid (w.heap.size ≤ wc.heap.size) := by
      have h : x < wc.heap.size := H4.out.lt (.inr rfl)
      have h2 := HX.out
      show _ ≤ _
      omega
    have HT0 : Hid (Kpt T w wc) := HK3.out.trans (HT4.out.sub fun q hq => .inl hq)
    have HL4 : Hid (wc.heap[x]? = some (logO g nm kd)) := (HT4.out x (.inr rfl)).trans HL3.out
    clear HT4 HL3 HK3 H3 HK0 H1 HP HB2 HUP HL1 HB1
    go_wp2_with fail
    refine HRD.out.mono ?_
    rintro e w5 hp
    rcases readP_told hp with ⟨q1, rfl, q2⟩ | ⟨q1, v5, e5, q2, rfl, q3⟩
    · have HQ1 := Lib.hid q1
      have HQ2 := Lib.hid q2
      clear q1 q2 hp HRD
      go_wp2
      go_ret3
      exact open_bad (U := fun q => q = x) (H4.out.below HQ2.out) (fun q hq => by rw [hq, HX.out]; exact Nat.le_refl _) (HT0.out.trans ((H4.out.kpt HQ2.out).sub fun q hq => .inl hq)) HS.out (k := 8) (by decide) (rs := []) (.inl ⟨HQ1.out, rfl, rfl⟩)
    · have HQ1 := Lib.hid q1
      have HO5 := Lib.hid q3
      obtain ⟨A5, n5, c5, rfl, hn5⟩ := q3.slice
      have HN5 := Lib.hid hn5
      clear q1 q3 hp HRD hn5
      have HQ25 := Lib.hid q2
      clear q2
      go_upto_region 8 with fail
      go_cut [49] from 44 (fun s49 wx => s49 = .bool false ∧ w5 = wx)
      case first =>
        rcases HQ25.out with rfl | rfl
        · go_wp2
          go_meet
          case rel => exact ⟨rfl, rfl⟩
        · go_wp2
          go_meet
          case rel => exact ⟨rfl, rfl⟩
      case rest =>
        obtain ⟨rfl, rfl⟩ := hcut
        have HSC := Lib.hid (scan_any kd _ (bytesAt D1 nm) w5 HO5.out.bs (by rw [HBA.out]; exact HBY.out (spare_up HS.out HQ1.out)) (by have := HLN.out; omega) k0 k1)
        go_wp2_with fail
        refine HSC.out.mono ?_
        rintro e w6 ⟨vr, rfl, r6⟩
        obtain ⟨A6, n6, c6, rfl, hn6⟩ := r6.slice
        obtain ⟨rs, en, er, hsr⟩ : ∃ rs en er, scanRes kd (bytesAt D1 nm) = (rs, en, er) := ⟨_, _, _, rfl⟩
        rw [hsr] at r6
        simp only [hsr]
        have HSR := Lib.hid hsr
        have hm : OpenM w0 T (fun q => q = x ∨ (w5.heap.size ≤ q ∧ q < w6.heap.size)) c g x nm kd D D1 (.slice A6 n6 c6) rs w w6 := by
          have hx5 : w.heap.size ≤ w5.heap.size := Nat.le_trans HXL.out HO5.out.below.size
          have h5 := H4.out.below HO5.out.below
          have hk5 := H4.out.kpt HO5.out.below
          have h6 := h5.add (U := fun q => w5.heap.size ≤ q ∧ q < w6.heap.size) r6.below (fun q hq => hq)
          have hl5 := (hk5 x (.inr rfl)).trans HL4.out
          refine ⟨h6.sub (fun q hq => by rcases hq with hq | hq | hq; exact .inl (.inl hq); exact .inl (.inr hq); exact .inr hq), fun q hq => ?_, ⟨.inl rfl, (r6.below.block x (blk_lt hl5)).trans hl5⟩, (RU.of_recs r6).sub (fun q hq => .inr hq), (HT0.out.trans (hk5.sub fun q hq => .inl hq)).trans ((h5.kpt r6.below).sub fun q hq => .inl hq), HS.out⟩
          rcases hq with hq | hq
          · rw [hq, HX.out]; exact Nat.le_refl _
          · omega
        have HM := Lib.hid hm
        have HER : Hid (er = 0 ∨ er = 9) := by have h := scanRes_err kd (bytesAt D1 nm); rw [hsr] at h; exact h
        have hen : en ≤ 100000 := by have h := scanRes_end kd (bytesAt D1 nm); rw [hsr] at h; have := HLN.out; simp only at h; omega
        clear hm hsr hn6 r6 HSC
        rcases HER.out with rfl | rfl
        · by_cases g1 : en = 0
          · subst g1
            have HHD := Lib.hid (head_any kd w6)
            go_wp2_with fail
            refine HHD.out.mono ?_
            rintro e w7 ⟨v7, rfl, o7⟩
            obtain ⟨A7, n7, c7, rfl, hn7⟩ := o7.slice
            have d7 := HM.out.du.ow o7
            have HWR := Lib.hid ((d7.1.write nm _ (headBytes kd) HNS.out d7.2 (by simp [headBytes]) (by omega)))
            have HK7 := Lib.hid (HM.out.du.kpt o7.below)
            clear o7 hn7 d7 HHD
            go_wp2_with fail
            refine HWR.out.mono ?_
            rintro e w8 ⟨D', k, rfl, h8, r8, t8⟩
            clear HWR
            by_cases g2 : k = 0
            · subst g2
              have HF := Lib.hid (HM.out.good (h8.sub (fun q hq => .inl hq) |>.more (by omega)) (HK7.out.trans (t8.sub fun q hq => .inl hq)) (.inr (.inr ⟨HQ1.out, by rw [HSR.out], by rw [HSR.out], .inl ⟨by rw [HSR.out], r8⟩⟩)))
              clear h8 r8 t8
              go_wp2
              go_ret3
              exact HF.out
            · have d2 : ((k : Int) == 0) = false := by rw [beq_eq_false_iff_ne]; omega
              have HF := Lib.hid (HM.out.bad (h8.sub (fun q hq => .inl hq) |>.more (by omega)) (HK7.out.trans (t8.sub fun q hq => .inl hq)) g2 (.inr (.inr ⟨HQ1.out, by rw [HSR.out], rfl, .inl ⟨by rw [HSR.out], r8⟩⟩)))
              clear h8 r8 t8 g2
              go_wp2
              go_ret3
              exact HF.out
          · by_cases g3 : en < n5
            · have HCT := Lib.hid (HM.out.du.cut nm (en : Int) HNS.out (by omega) (by omega))
              have d1 : ((en : Int) == 0) = false := by rw [beq_eq_false_iff_ne]; omega
              have d3 : decide ((en : Int) < (n5 : Int)) = true := decide_eq_true (by omega)
              have d4 : decide (en < n5) = true := decide_eq_true g3
              have HG : Hid (en ≠ 0 ∧ en < (bytesAt D1 nm).length) := ⟨g1, by rw [← HN5.out]; exact g3⟩
              clear g1 g3
              go_wp2_with fail
              refine HCT.out.mono ?_
              rintro e w8 ⟨D', k, rfl, h8, r8, t8⟩
              clear HCT
              by_cases g2 : k = 0
              · subst g2
                have HF := Lib.hid (HM.out.good (h8.sub (fun q hq => hq) |>.more (by omega)) (t8) (.inr (.inr ⟨HQ1.out, by rw [HSR.out], by rw [HSR.out], .inr (.inl ⟨by rw [HSR.out]; exact HG.out.1, by rw [HSR.out]; exact HG.out.2, by rw [HSR.out]; exact r8⟩)⟩)))
                clear h8 r8 t8
                go_wp2
                go_ret3
                exact HF.out
              · have d2 : ((k : Int) == 0) = false := by rw [beq_eq_false_iff_ne]; omega
                have HF := Lib.hid (HM.out.bad (h8.sub (fun q hq => hq) |>.more (by omega)) (t8) g2 (.inr (.inr ⟨HQ1.out, by rw [HSR.out], rfl, .inr (.inl ⟨by rw [HSR.out]; exact HG.out.1, by rw [HSR.out]; exact HG.out.2, by rw [HSR.out]; exact r8⟩)⟩)))
                clear h8 r8 t8 g2
                go_wp2
                go_ret3
                exact HF.out
            · have d1 : ((en : Int) == 0) = false := by rw [beq_eq_false_iff_ne]; omega
              have d3 : decide ((en : Int) < (n5 : Int)) = false := decide_eq_false (by omega)
              have d4 : decide (en < n5) = false := decide_eq_false g3
              have HG : Hid (en ≠ 0 ∧ ¬ en < (bytesAt D1 nm).length) := ⟨g1, by rw [← HN5.out]; exact g3⟩
              have HF := Lib.hid (HM.out.good (HM.out.du.more (by omega)) Kpt.refl (.inr (.inr ⟨HQ1.out, by rw [HSR.out], by rw [HSR.out], .inr (.inr ⟨by rw [HSR.out]; exact HG.out.1, by rw [HSR.out]; exact HG.out.2, rfl, rfl⟩)⟩)))
              clear g1 g3
              go_wp2
              go_ret3
              exact HF.out
        · have HF := Lib.hid (HM.out.bad (HM.out.du.more (by omega)) Kpt.refl (k := 9) (by decide) (rs' := []) (.inr (.inl ⟨HQ1.out, by rw [HSR.out]; exact (by decide : (9 : Int) ≠ 0), rfl, rfl⟩)))
          go_wp2
          go_ret3
          exact HF.out
end Go.Proofs.YtononoakdebjeaaGreatDoor.Rec
