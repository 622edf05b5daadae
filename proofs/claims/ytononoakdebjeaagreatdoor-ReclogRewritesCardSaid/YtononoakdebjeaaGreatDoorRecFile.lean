/- A file of frames: what is made of records, and what is scanned of it. -/
import Derived.Test.YtononoakdebjeaaGreatDoorRecWalk
import Derived.Test.YtononoakdebjeaaGreatDoorCut
namespace Go.Proofs.YtononoakdebjeaaGreatDoor.Rec
open Go.RowKit Go.Proofs.YtononoakdebjeaaGreatDoorW.PrintWords Go.Proofs.YtononoakdebjeaaGreatDoor.Base Go.Proofs.YtononoakdebjeaaGreatDoor.Pack
set_option linter.unusedVariables false
set_option linter.unusedSimpArgs false

def frames (ps : List (List Int)) : List Int := ps.flatMap frameBytes
def fileBytes (k : Int) (ps : List (List Int)) : List Int := headBytes k ++ frames ps
/-- Few and short records, of bytes. -/
structure Light (ps : List (List Int)) : Prop where
  few : ps.length ≤ 30
  short : ∀ p ∈ ps, p.length ≤ 500
def AllBytes (ps : List (List Int)) : Prop := ∀ p ∈ ps, Bytes p
theorem frameBytes_length (q : List Int) : (frameBytes q).length = q.length + 8 := by
  unfold frameBytes; rw [List.length_append, List.length_append, leBytes_length, leBytes_length]; omega
theorem frameBytes_bytes {q : List Int} (h : Bytes q) : Bytes (frameBytes q) := ((leBytes_bytes _ _).append (leBytes_bytes _ _)).append h
theorem frames_bytes {ps : List (List Int)} (h : AllBytes ps) : Bytes (frames ps) := by
  intro x hx
  obtain ⟨q, hq, hx⟩ := List.mem_flatMap.1 hx
  exact frameBytes_bytes (h q hq) x hx
theorem frames_length {ps : List (List Int)} (h : ∀ p ∈ ps, p.length ≤ 500) : (frames ps).length ≤ 508 * ps.length := by
  induction ps with
  | nil => simp [frames]
  | cons q ps ih =>
    have h1 := h q List.mem_cons_self
    have h2 := ih (fun p hp => h p (List.mem_cons_of_mem _ hp))
    unfold frames at h2 ⊢
    rw [List.flatMap_cons, List.length_append, frameBytes_length, List.length_cons]
    omega
theorem file_length {k : Int} {ps : List (List Int)} (h : Light ps) : (fileBytes k ps).length ≤ 16000 := by
  have h1 := frames_length h.short
  have h2 := h.few
  unfold fileBytes
  rw [List.length_append, show (headBytes k).length = 8 from rfl]
  omega
theorem file_bytes {k : Int} {ps : List (List Int)} (k0 : 0 ≤ k) (k1 : k < 256) (h : AllBytes ps) : Bytes (fileBytes k ps) := (headBytes_bytes k0 k1).append (frames_bytes h)
/-- A frame at the beginning. -/
theorem frame_at (q tail : List Int) (h : q.length ≤ 4096) : sizeAt (frameBytes q ++ tail) = q.length ∧ recAt (frameBytes q ++ tail) = q := by
  have e1 : (frameBytes q ++ tail).take 4 = Pack.leBytes q.length 4 := by
    unfold frameBytes
    rw [List.append_assoc, List.append_assoc, List.take_left' (leBytes_length _ _)]
  have e2 : (frameBytes q ++ tail).drop 8 = q ++ tail := by
    unfold frameBytes
    rw [List.append_assoc, List.drop_left' (by rw [List.length_append, leBytes_length, leBytes_length])]
  have hs : sizeAt (frameBytes q ++ tail) = q.length := by
    unfold sizeAt
    rw [e1, leVal_leBytes 4 _ (by omega) (by have : (256 : Int) ^ 4 = 4294967296 := rfl; omega)]; rfl
  refine ⟨hs, ?_⟩
  unfold recAt
  rw [hs, e2, List.take_left' rfl]
theorem frame_sum (q tail : List Int) (hb : Bytes q) : sumAt (frameBytes q ++ tail) = Crc.sumOf q := by
  have e3 : ((frameBytes q ++ tail).drop 4).take 4 = Pack.leBytes (Crc.sumOf q) 4 := by
    unfold frameBytes
    rw [List.append_assoc, List.append_assoc, List.drop_left' (leBytes_length _ _), List.take_left' (leBytes_length _ _)]
  have hr := sumOf_range q hb
  unfold sumAt
  rw [e3, leVal_leBytes 4 _ hr.1 (by have : (256 : Int) ^ 4 = 4294967296 := rfl; omega)]
theorem frame_good (q tail : List Int) (h : q.length ≤ 4096) (hb : Bytes q) : good (frameBytes q ++ tail) := by
  have h1 := frame_at q tail h
  have hl : (frameBytes q ++ tail).length = q.length + 8 + tail.length := by rw [List.length_append, frameBytes_length]
  refine ⟨by omega, by rw [h1.1]; exact h, by rw [h1.1]; omega, ?_⟩
  rw [h1.2, frame_sum q tail hb]
theorem scan_frame (q tail : List Int) (h : q.length ≤ 4096) (hb : Bytes q) :
    scanAll (frameBytes q ++ tail) = q :: scanAll tail ∧ scanEnd (frameBytes q ++ tail) = 8 + q.length + scanEnd tail := by
  have hg := frame_good q tail h hb
  have h1 := frame_at q tail h
  have hd : (frameBytes q ++ tail).drop (8 + q.length) = tail := List.drop_left' (by rw [frameBytes_length]; omega)
  constructor
  · rw [scanAll_good hg, h1.1, h1.2, hd]
  · rw [scanEnd_good hg, h1.1, hd]
theorem scan_frames (qs : List (List Int)) (tail : List Int) (h : ∀ q ∈ qs, q.length ≤ 4096) (hb : AllBytes qs) :
    scanAll (frames qs ++ tail) = qs ++ scanAll tail ∧ scanEnd (frames qs ++ tail) = (frames qs).length + scanEnd tail := by
  induction qs with
  | nil => simp [frames]
  | cons q qs ih =>
    obtain ⟨i1, i2⟩ := ih (fun p hp => h p (List.mem_cons_of_mem _ hp)) (fun p hp => hb p (List.mem_cons_of_mem _ hp))
    obtain ⟨j1, j2⟩ := scan_frame q (frames qs ++ tail) (h q List.mem_cons_self) (hb q List.mem_cons_self)
    have e : frames (q :: qs) ++ tail = frameBytes q ++ (frames qs ++ tail) := by simp [frames]
    have el : (frames (q :: qs)).length = 8 + q.length + (frames qs).length := by simp [frames, frameBytes_length]; omega
    rw [e, j1, j2, i1, i2, el]
    exact ⟨rfl, by omega⟩
/-- A frame that is cut short is no good one. -/
theorem cut_bad (q tail : List Int) (m : Nat) (h : q.length ≤ 4096) (hm : m < q.length + 8) : ¬ good ((frameBytes q ++ tail).take m) := by
  intro hg
  have hl : ((frameBytes q ++ tail).take m).length ≤ m := by rw [List.length_take]; omega
  have h8 := hg.1
  have hs : sizeAt ((frameBytes q ++ tail).take m) = sizeAt (frameBytes q ++ tail) := by
    unfold sizeAt
    rw [List.take_take, Nat.min_eq_left (by omega)]
  have h3 := hg.2.2.1
  rw [hs, (frame_at q tail h).1] at h3
  omega
theorem nil_bad : ¬ good [] := fun h => absurd h.1 (by simp)

/-- A place in a file: whole frames of the first n records end at pos. -/
def posOf (ps : List (List Int)) (n : Nat) : Nat := 8 + (frames (ps.take n)).length
theorem take_rec (ps : List (List Int)) (n : Nat) (h : n < ps.length) : ps.take (n + 1) = ps.take n ++ [ps.getD n []] := by
  rw [List.take_add_one, List.getElem?_eq_getElem h, List.getD_eq_getElem?_getD, List.getElem?_eq_getElem h]; rfl
theorem frames_snoc (ps : List (List Int)) (n : Nat) (h : n < ps.length) : frames (ps.take (n + 1)) = frames (ps.take n) ++ frameBytes (ps.getD n []) := by
  rw [take_rec ps n h]
  unfold frames
  rw [List.flatMap_append, List.flatMap_cons, List.flatMap_nil, List.append_nil]
theorem posOf_next (ps : List (List Int)) (n : Nat) (h : n < ps.length) : posOf ps (n + 1) = posOf ps n + (8 + (ps.getD n []).length) := by
  unfold posOf
  rw [frames_snoc ps n h, List.length_append, frameBytes_length]
  omega
theorem frames_split (ps : List (List Int)) (n : Nat) : frames ps = frames (ps.take n) ++ frames (ps.drop n) := by
  unfold frames
  rw [← List.flatMap_append, List.take_append_drop]
theorem posOf_all (k : Int) (ps : List (List Int)) : posOf ps ps.length = (fileBytes k ps).length := by
  unfold posOf fileBytes
  rw [List.take_length, List.length_append]; rfl
/-- What is scanned of a file that is cut. -/
theorem scan_cut (k : Int) (ps : List (List Int)) (n cut : Nat) (hL : Light ps) (hb : AllBytes ps) (hn : n ≤ ps.length) (h1 : posOf ps n ≤ cut) (h2 : n < ps.length → cut < posOf ps (n + 1)) (hc : cut ≤ (fileBytes k ps).length) :
    scanRes k ((fileBytes k ps).take cut) = (ps.take n, posOf ps n, 0) := by
  have h8 : 8 ≤ cut := by unfold posOf at h1; omega
  have e0 : ((fileBytes k ps).take cut).take 8 = headBytes k := by
    rw [List.take_take, Nat.min_eq_left h8]
    exact List.take_left' rfl
  have e1 : ((fileBytes k ps).take cut).drop 8 = (frames ps).take (cut - 8) := by
    rw [List.drop_take]
    congr 1
  rw [(scanRes_good e0).2, e1]
  have e2 : (frames ps).take (cut - 8) = frames (ps.take n) ++ (frames (ps.drop n)).take (cut - posOf ps n) := by
    rw [frames_split ps n, List.take_append]
    have hle : (frames (ps.take n)).length ≤ cut - 8 := by unfold posOf at h1; omega
    rw [List.take_of_length_le hle]
    congr 2
    unfold posOf; omega
  have hbad : ¬ good ((frames (ps.drop n)).take (cut - posOf ps n)) := by
    by_cases hlt : n < ps.length
    · have hd : ps.drop n = ps.getD n [] :: ps.drop (n + 1) := by
        rw [List.drop_eq_getElem_cons hlt, List.getD_eq_getElem?_getD, List.getElem?_eq_getElem hlt]; rfl
      have ef : frames (ps.drop n) = frameBytes (ps.getD n []) ++ frames (ps.drop (n + 1)) := by rw [hd]; simp [frames]
      have hq : (ps.getD n []).length ≤ 500 := by
        rw [List.getD_eq_getElem?_getD, List.getElem?_eq_getElem hlt]
        exact hL.short _ (List.getElem_mem hlt)
      rw [ef]
      have hp := posOf_next ps n hlt
      have := h2 hlt
      exact cut_bad _ _ _ (by omega) (by omega)
    · rw [List.drop_eq_nil_of_le (by omega)]
      simpa [frames] using nil_bad
  obtain ⟨s1, s2⟩ := scan_frames (ps.take n) ((frames (ps.drop n)).take (cut - posOf ps n)) (fun q hq => Nat.le_trans (hL.short q (List.mem_of_mem_take hq)) (by omega)) (fun q hq => hb q (List.mem_of_mem_take hq))
  rw [e2, s1, s2, scanAll_bad hbad, scanEnd_bad hbad, List.append_nil]
  rfl
theorem scan_cut_short (k : Int) (ps : List (List Int)) (cut : Nat) (h : cut < 8) : scanRes k ((fileBytes k ps).take cut) = ([], 0, 0) := by
  have hl : ((fileBytes k ps).take cut).length = cut := by
    rw [List.length_take]
    have : (fileBytes k ps).length = 8 + (frames ps).length := by unfold fileBytes; rw [List.length_append]; rfl
    omega
  refine scanRes_short (by omega) ?_
  rw [hl]
  unfold fileBytes
  rw [List.take_append_of_le_length (by show cut ≤ 8; omega)]

set_option maxHeartbeats 800000 in
theorem light_any (v : Value) (ps : List (List Int)) (w : World) (h : Rs w v ps) :
    Calls Tryz.prog 24 #[v] w fun e w' => ((e = .returned (.bool true) ∧ Light ps) ∨ e = .returned (.bool false)) ∧ w = w' := by
  obtain ⟨A, c, rfl, hc, hm, hr⟩ := h
  have R := Lib.hid hr
  clear hr
  by_cases g1 : ps.length ≤ 30
  · go_enter Tryz.func24, Tryz.ntmps24
    go_wp2
    go_loop [3] (fun i => ∃ k : Nat, k ≤ ps.length ∧ i = .int .i64 k ∧ Hid (∀ p ∈ ps.take k, p.length ≤ 500)) (fun i => ps.length - (intOf i).toNat)
    case atStart => exact ⟨0, by omega, rfl, fun p hp => by simp at hp⟩
    case round =>
      obtain ⟨k, hk, rfl, HS⟩ := hrel
      by_cases l1 : k < ps.length
      · obtain ⟨ad, e1, f1⟩ := R.out (by omega)
        subst e1
        obtain ⟨u, q1, b1⟩ := f1 k l1
        have hin := take_rec ps k l1
        have HIN := Lib.hid hin
        clear hin f1
        generalize ps.getD k [] = pk at b1 HIN
        obtain ⟨B1, n1, rfl, _, _⟩ := b1.len
        clear b1
        by_cases l2 : pk.length ≤ 500
        · go_wp2
          go_round
          case rel =>
            refine ⟨k + 1, by omega, by go_num, ?_⟩
            intro p hp
            rw [HIN.out] at hp
            rcases List.mem_append.1 hp with hp | hp
            · exact HS.out p hp
            · rw [List.mem_singleton.1 hp]; exact l2
          case measure => simp [intOf]; omega
        · go_wp2
          go_ret
          exact ⟨Or.inr rfl, rfl⟩
      · have hk2 : k = ps.length := by omega
        have HL : Hid (Light ps) := ⟨g1, by have := HS.out; rw [hk2, List.take_length] at this; exact this⟩
        clear hk2
        go_wp2
        go_ret
        exact ⟨Or.inl ⟨rfl, HL.out⟩, rfl⟩
  · go_enter Tryz.func24, Tryz.ntmps24
    go_wp2
    go_ret
    exact ⟨Or.inr rfl, rfl⟩

end Go.Proofs.YtononoakdebjeaaGreatDoor.Rec
