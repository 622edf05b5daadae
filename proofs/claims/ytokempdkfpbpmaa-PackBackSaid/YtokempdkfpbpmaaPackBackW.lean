/- The walk of the law PackBack. -/
import Derived.Test.YtokempdkfpbpmaaPackGet
import Derived.Test.YtokempdkfpbpmaaWLast
import Derived.Test.YtokempdkfpbpmaaArgs
namespace Go.Proofs.Ytokempdkfpbpmaa.Pack
open Go.RowKit Go.Proofs.YtokempdkfpbpmaaW.PrintWords Go.Proofs.YtokempdkfpbpmaaW.PrintLast Go.Proofs.Ytokempdkfpbpmaa.Base
set_option linter.unusedVariables false
set_option linter.unusedSimpArgs false

/-- What is put of texts, numbered from k on. -/
def puts : Nat → List ByteArray → List Int
  | _, [] => []
  | k, s :: l => textBytes s ++ leBytes k 4 ++ puts (k + 1) l
theorem puts_snoc (l : List ByteArray) (s : ByteArray) : ∀ k, puts k (l ++ [s]) = puts k l ++ textBytes s ++ leBytes ((k + l.length : Nat) : Int) 4 := by
  induction l with
  | nil => intro k; simp [puts]
  | cons a l ih =>
    intro k
    rw [List.cons_append, puts, ih, puts, List.length_cons]
    have e : k + 1 + l.length = k + (l.length + 1) := by omega
    rw [e]; simp
theorem puts_bytes (l : List ByteArray) : ∀ k, Bytes (puts k l) := by
  induction l with
  | nil => intro k; exact Bytes.nil
  | cons s l ih => intro k; exact ((textBytes_bytes s).append (leBytes_bytes _ _)).append (ih _)
theorem puts_length (l : List ByteArray) : ∀ k, (∀ s ∈ l, s.size ≤ 300) → (puts k l).length ≤ 306 * l.length := by
  induction l with
  | nil => intro k _; simp [puts]
  | cons s l ih =>
    intro k h
    have h1 := ih (k + 1) (fun x hx => h x (List.mem_cons_of_mem _ hx))
    have h2 := h s List.mem_cons_self
    rw [puts, List.length_append, List.length_append, textBytes_length, leBytes_length, List.length_cons]
    omega

theorem str_take (s : ByteArray) (rest : List Int) : strOfNums ((bytesOf s ++ rest).take s.size) = s := by
  rw [List.take_append_of_le_length (by rw [bytesOf_length]; omega), List.take_of_length_le (by rw [bytesOf_length]; omega), str_bytesOf]
theorem text_back (B g : Nat) (s : ByteArray) (rest : List Int) (w : World) (h : Rd B w g (textBytes s ++ rest) false) (hs : s.size ≤ 65535) (hb : Bytes rest) :
    Calls Try.prog 32 #[.pointer (some ⟨g, 0, none⟩)] w fun e w' => e = .returned (.string s) ∧ Rd B w' g rest false ∧ Only g w w' := by
  have e0 : textBytes s ++ rest = leBytes s.size 2 ++ (bytesOf s ++ rest) := by unfold textBytes; rw [List.append_assoc]
  have e1 : (textBytes s ++ rest).take 2 = leBytes s.size 2 := by
    rw [e0, List.take_append_of_le_length (by rw [leBytes_length]; omega), List.take_of_length_le (by rw [leBytes_length]; omega)]
  have e2 : (textBytes s ++ rest).drop 2 = bytesOf s ++ rest := by
    rw [e0, List.drop_append_of_le_length (by rw [leBytes_length]; omega), List.drop_of_length_le (by rw [leBytes_length]; omega), List.nil_append]
  have e3 : (leVal ((textBytes s ++ rest).take 2)).toNat = s.size := by
    rw [e1, leVal_leBytes 2 _ (by omega) (by show (s.size : Int) < 65536; omega)]; omega
  have hl : 2 ≤ (textBytes s ++ rest).length := by rw [List.length_append, textBytes_length]; omega
  have hl2 : (leVal ((textBytes s ++ rest).take 2)).toNat ≤ ((textBytes s ++ rest).drop 2).length := by rw [e3, e2, List.length_append, bytesOf_length]; omega
  refine (rtext_two B g _ w h hl ((textBytes_bytes s).append hb) hl2).mono ?_
  rintro e w' ⟨he, hr, ho⟩
  rw [e3, e2] at he hr
  rw [str_take] at he
  rw [List.drop_append_of_le_length (by rw [bytesOf_length]; omega), List.drop_of_length_le (by rw [bytesOf_length]; omega), List.nil_append] at hr
  exact ⟨he, hr, ho⟩
theorem u32_back (B g : Nat) (n : Int) (rest : List Int) (w : World) (h : Rd B w g (leBytes n 4 ++ rest) false) (n0 : 0 ≤ n) (n1 : n < 4294967296) (hb : Bytes rest) :
    Calls Try.prog 29 #[.pointer (some ⟨g, 0, none⟩)] w fun e w' => e = .returned (.int .u32 n) ∧ Rd B w' g rest false ∧ Only g w w' := by
  have e1 : (leBytes n 4 ++ rest).take 4 = leBytes n 4 := by
    rw [List.take_append_of_le_length (by rw [leBytes_length]; omega), List.take_of_length_le (by rw [leBytes_length]; omega)]
  have e2 : (leBytes n 4 ++ rest).drop 4 = rest := by
    rw [List.drop_append_of_le_length (by rw [leBytes_length]; omega), List.drop_of_length_le (by rw [leBytes_length]; omega), List.nil_append]
  refine (r32_ok B g _ w h (by rw [List.length_append, leBytes_length]; omega) ((leBytes_bytes n 4).append hb)).mono ?_
  rintro e w' ⟨he, hr, ho⟩
  rw [e1, leVal_leBytes 4 n n0 n1] at he
  rw [e2] at hr
  exact ⟨he, hr, ho⟩

set_option maxHeartbeats 3200000 in
theorem PackBack_any (v1 v3 : Value) (l : List ByteArray) (n : Int) (bs : List Int) (w : World) (h1 : Ss w v1 l) (h3 : Bs w v3 bs) (hb : Bytes bs) (hs : ∀ s ∈ l, s.size ≤ 9223372036854775807) (n0 : 0 ≤ n) (n1 : n < 18446744073709551616) :
    Calls Try.prog 13 #[v1, .int .u64 n, v3] w fun e w' => e = .returned (.bool true) ∧ Below w.heap.size w w' := by
  obtain ⟨A3, c3, rfl, hc3, hm3⟩ := h3.len
  have R3 := Lib.hid h3
  obtain ⟨A1, c1, rfl, hc1, hm1, r1⟩ := h1
  have R1 := Lib.hid (show Ss w (.slice A1 l.length c1) l from ⟨A1, c1, rfl, hc1, hm1, r1⟩)
  have HB := Lib.hid hb
  have HS := Lib.hid hs
  clear h3 r1 hb hs
  by_cases g1 : l.length ≤ 100
  · by_cases g2 : bs.length ≤ 300
    · have d1 : decide ((100 : Int) < (l.length : Int)) = false := decide_eq_false (by omega)
      have d2 : decide ((300 : Int) < (bs.length : Int)) = false := decide_eq_false (by omega)
      go_enter Try.func13, Try.ntmps13
      go_wp2_with fail
      refine (u64_any _ [] _ _ (Bs.nil _) (by simp) n0 n1).mono ?_
      rintro e w1 ⟨v, rfl, o1⟩
      rw [List.nil_append] at o1
      have O1 := Lib.hid o1
      clear o1
      go_wp2
      go_loopw [7, 8] (fun v i wr => ∃ k : Nat, k ≤ l.length ∧ i = .int .i64 k ∧ (∀ s ∈ l.take k, s.size ≤ 300) ∧ Ow w wr v (leBytes n 8 ++ puts 0 (l.take k))) (fun _ i _ => l.length - (intOf i).toNat)
      case atStart => exact ⟨0, Nat.zero_le _, rfl, fun s hs => by simp at hs, by simpa [puts] using O1.out⟩
      case round =>
        obtain ⟨k, hk, rfl, hsm, ho⟩ := hrel
        have O := Lib.hid ho
        have HSM := Lib.hid hsm
        clear ho hsm O1
        by_cases hlt : k < l.length
        · obtain ⟨s, hse⟩ : ∃ s, l.getD k ByteArray.empty = s := ⟨_, rfl⟩
          have hsl : l[k]? = some s := by rw [← hse, List.getD_eq_getElem?_getD, List.getElem?_eq_getElem hlt]; rfl
          obtain ⟨_, _, e0, _, _, rr⟩ := R1.out.below O.out.below
          cases e0
          obtain ⟨ad, e1, hcells⟩ := rr (by omega)
          cases e1
          have hcell := hcells k hlt
          clear hcells
          rw [hse] at hcell
          have hsz0 := HS.out s (List.mem_of_getElem? hsl)
          have hlen := puts_length (l.take k) 0 HSM.out
          rw [List.length_take] at hlen
          have hlen2 : (leBytes n 8 ++ puts 0 (l.take k)).length ≤ 40000 := by rw [List.length_append, leBytes_length]; omega
          have HX : Hid (leBytes n 8 ++ puts 0 (l.take k) ++ textBytes s ++ leBytes k 4 = leBytes n 8 ++ puts 0 (l.take (k + 1))) := by
            have et : l.take (k + 1) = l.take k ++ [s] := by
              rw [List.take_add_one, hsl]; rfl
            have el : (l.take k).length = k := by rw [List.length_take]; omega
            show _ = _
            rw [et, puts_snoc, el, Nat.zero_add]; simp
          have HT : Hid (l.take (k + 1) = l.take k ++ [s]) := by show _ = _; rw [List.take_add_one, hsl]; rfl
          clear hse hsl rr hlen
          by_cases hsz : s.size ≤ 300
          · have HSZ := Lib.hid hsz
            have hlen3 : (leBytes n 8 ++ puts 0 (l.take k) ++ textBytes s).length ≤ 140737488000000 := by rw [List.length_append, textBytes_length]; omega
            go_wp2_with fail
            refine (text_any _ _ s _ O.out.bs (by omega) (by omega)).mono ?_
            rintro e w2 ⟨v2, rfl, o2⟩
            have O2 := Lib.hid (o2.lower O.out.below)
            clear o2
            go_wp2_with fail
            refine (u32_any _ _ _ _ O2.out.bs hlen3 (by omega) (by omega)).mono ?_
            rintro e w3 ⟨v3, rfl, o3⟩
            rw [HX.out] at o3
            have O3 := Lib.hid (o3.lower O2.out.below)
            clear o3
            go_wp2
            go_roundw
            case rel =>
              refine ⟨k + 1, by omega, by go_num, ?_, O3.out⟩
              intro x hx
              rw [HT.out] at hx
              rcases List.mem_append.1 hx with hx | hx
              · exact HSM.out x hx
              · rw [List.mem_singleton.1 hx]; exact HSZ.out
            case measure => simp [intOf]; omega
          · go_wp2
            go_ret
            exact ⟨rfl, O.out.below⟩
        · have hkl : k = l.length := by omega
          have hlen := puts_length (l.take k) 0 HSM.out
          rw [List.length_take] at hlen
          have O2 : Hid (Ow w wr u7 (leBytes n 8 ++ puts 0 l)) := by have := O.out; rw [hkl, List.take_length] at this; exact this
          have hlen2 : (leBytes n 8 ++ puts 0 l).length ≤ 40000 := by rw [hkl, List.take_length] at hlen; rw [List.length_append, leBytes_length]; omega
          have HSM2 : Hid (∀ s ∈ l, s.size ≤ 300) := by have := HSM.out; rw [hkl, List.take_length] at this; exact this
          clear hkl O hlen HSM
          go_wp2_with (at_builtin; refine Held.of ?_)
          refine app_bytes rfl (.tmp 50) (.tmp 51) 22 rfl Try.underlying22 _ _ _ bs rfl rfl O2.out (R3.out.below O2.out.below) (by omega) ?_
          intro va w2 o2 _
          have O3 := Lib.hid o2
          clear o2
          go_wp2_with fail
          refine (new_any _ _ _ O3.out.bs (by rw [List.length_append]; omega)).mono ?_
          rintro e w3 ⟨g, rfl, hr, hb⟩
          have hg0 : w.heap.size ≤ g := Nat.le_trans O3.out.below.size hr.base
          have HR := Lib.hid hr
          have HB3 := Lib.hid (O3.out.below.trans (hb.mono O3.out.below.size))
          have hby : Bytes (leBytes n 8 ++ puts 0 l ++ bs) := ((leBytes_bytes n 8).append (puts_bytes l 0)).append HB.out
          have HBY := Lib.hid hby
          have e8 : (leBytes n 8 ++ puts 0 l ++ bs).take 8 = leBytes n 8 := by
            rw [List.append_assoc, List.take_append_of_le_length (by rw [leBytes_length]; omega), List.take_of_length_le (by rw [leBytes_length]; omega)]
          have d8 : (leBytes n 8 ++ puts 0 l ++ bs).drop 8 = puts 0 l ++ bs := by
            rw [List.append_assoc, List.drop_append_of_le_length (by rw [leBytes_length]; omega), List.drop_of_length_le (by rw [leBytes_length]; omega), List.nil_append]
          have E8 := Lib.hid e8
          have D8 := Lib.hid d8
          have VN := Lib.hid (leVal_leBytes 8 n n0 n1)
          have hl8 : 8 ≤ (leBytes n 8 ++ puts 0 l ++ bs).length := by rw [List.length_append, List.length_append, leBytes_length]; omega
          clear hr hb hby e8 d8
          go_wp2_with fail
          refine (r64_ok _ g _ _ HR.out hl8 HBY.out).mono ?_
          rintro e w4 ⟨rfl, hr, ho⟩
          rw [E8.out, VN.out]
          rw [D8.out] at hr
          have HR4 := Lib.hid hr
          have HB4 := Lib.hid (HB3.out.trans (ho.below hg0 HB3.out.size))
          clear hr ho HR HB3 O3 O2
          go_wp2
          go_loopw [12] (fun i wr => ∃ k : Nat, k ≤ l.length ∧ i = .int .i64 k ∧ Below w.heap.size w wr ∧ Rd w2.heap.size wr g (puts k (l.drop k) ++ bs) false) (fun i _ => l.length - (intOf i).toNat)
          case atStart => exact ⟨0, Nat.zero_le _, rfl, HB4.out, HR4.out⟩
          case round =>
            obtain ⟨k, hk, rfl, hbelow, hrd⟩ := hrel
            have HBW := Lib.hid hbelow
            have HRD := Lib.hid hrd
            clear HB4 HR4
            by_cases hlt : k < l.length
            · obtain ⟨s, hse⟩ : ∃ s, l.getD k ByteArray.empty = s := ⟨_, rfl⟩
              have hsl : l[k]? = some s := by rw [← hse, List.getD_eq_getElem?_getD, List.getElem?_eq_getElem hlt]; rfl
              have hse2 : l[k] = s := by rw [List.getElem?_eq_getElem hlt] at hsl; exact Option.some.inj hsl
              have hdr : l.drop k = s :: l.drop (k + 1) := by rw [List.drop_eq_getElem_cons hlt, hse2]
              obtain ⟨_, _, e0, _, _, rr⟩ := R1.out
              cases e0
              obtain ⟨ad, e1, hcells⟩ := rr (by omega)
              cases e1
              have hcell0 := hcells k hlt
              clear hcells
              rw [hse] at hcell0
              have hkeep : ∀ wx, Below w.heap.size w wx → wx.cell? (ad.add k) = some (.string s) := fun wx hb => pw_cell_below hb hcell0
              have hs300 := HSM2.out s (List.mem_of_getElem? hsl)
              have hrest : puts k (l.drop k) ++ bs = textBytes s ++ (leBytes k 4 ++ (puts (k + 1) (l.drop (k + 1)) ++ bs)) := by rw [hdr, puts]; simp
              have HRE := Lib.hid hrest
              rw [hrest] at hrd
              have TXC := fun wx hx => text_back w2.heap.size g s (leBytes k 4 ++ (puts (k + 1) (l.drop (k + 1)) ++ bs)) wx hx (by omega) (((leBytes_bytes _ _).append ((puts_bytes _ _).append HB.out)))
              have UC := fun wx hx => u32_back w2.heap.size g (k : Int) (puts (k + 1) (l.drop (k + 1)) ++ bs) wx hx (by omega) (by omega) ((puts_bytes _ _).append HB.out)
              have HR2 := Lib.hid (hrd.below (w1 := wr.drew) (below_drew (Below.refl _ _)))
              have hcell := hkeep wr.drew (below_drew hbelow)
              have u1 : (s.toList == s.toList) = true := by simp
              have u2 : ((k : Int) == (k : Int)) = true := by simp
              have q1 : IntKind.u32.wrap (k : Int) = (k : Int) := by rw [IntKind.wrap_u32]; omega
              clear hse hsl hse2 hdr rr hrest hrd HRD hcell0
              go_wp2
              --BEGIN REGION
              refine start_ (n := 14) (S := fun w' => Below w.heap.size w w' ∧ w'.cell? (ad.add k) = some (.string s)) (ds := []) #[false, false, false, false, false, false, false, false, false, false, false, false, false, false] (by kernel_rfl) rfl rfl ⟨hbelow.drew, hcell⟩ (fun hHeld => ?_)
              refine pure_ (i := 0) (N := some 64) (v := ?_) (a' := ?_) #[true, false, false, false, false, false, false, false, false, false, false, false, false, false] rfl rfl (by kernel_rfl) (fun _ _ _ h => h) (Or.inl ⟨by rfl, ?_⟩) ?_ ?_
              rotate_left
              · intro w'
                go_simp
                with_reducible rfl
              rotate_left
              · simp only [Act.put, List.setIfInBounds_toArray, List.set_cons_zero, List.set_cons_succ, i64_w, i32_w]
                rfl
              refine pure_ (i := 2) (N := some 66) (v := ?_) (a' := ?_) #[true, false, true, false, false, false, false, false, false, false, false, false, false, false] rfl rfl (by kernel_rfl) (fun _ _ _ h => h) (Or.inl ⟨by rfl, ?_⟩) ?_ ?_
              rotate_left
              · intro w'
                go_simp
                with_reducible rfl
              rotate_left
              · simp only [Act.put, List.setIfInBounds_toArray, List.set_cons_zero, List.set_cons_succ, i64_w, i32_w]
                rfl
              refine pure_ (i := 3) (N := some 67) (v := ?_) (a' := ?_) #[true, false, true, true, false, false, false, false, false, false, false, false, false, false] rfl rfl (by kernel_rfl) (fun _ _ _ h => h) (Or.inl ⟨by rfl, ?_⟩) ?_ ?_
              rotate_left
              · intro w'
                go_simp
                with_reducible rfl
              rotate_left
              · simp only [Act.put, List.setIfInBounds_toArray, List.set_cons_zero, List.set_cons_succ, i64_w, i32_w]
                rfl
              refine pure_ (i := 4) (N := some 68) (v := ?_) (a' := ?_) #[true, false, true, true, true, false, false, false, false, false, false, false, false, false] rfl rfl (by kernel_rfl) (fun _ _ _ h => h) (Or.inl ⟨by rfl, ?_⟩) ?_ ?_
              rotate_left
              · intro w'
                go_simp
                with_reducible rfl
              rotate_left
              · simp only [Act.put, List.setIfInBounds_toArray, List.set_cons_zero, List.set_cons_succ, i64_w, i32_w]
                rfl
              refine take_ (i := 5) (N := some 69) (v := ?_) (a' := ?_) #[true, false, true, true, true, true, false, false, false, false, false, false, false, false] rfl rfl (by kernel_rfl) (fun _ _ _ h => h) (Or.inl ⟨by rfl, ?_⟩) hHeld ?_ ?_
              rotate_left
              · rintro w' ⟨s0, s1⟩
                go_simp
                with_reducible rfl
              rotate_left
              · simp only [Act.put, List.setIfInBounds_toArray, List.set_cons_zero, List.set_cons_succ, i64_w, i32_w]
                rfl
              refine one_ (i := 1) (N := some 65) #[true, true, true, true, true, true, false, false, false, false, false, false, false, false] rfl rfl (by kernel_rfl) (by decide) (fun K hK => ?_)
              refine goes_ Try.func32 (by kernel_rfl) rfl #[.pointer (some ⟨g, 0, none⟩)] (by rfl) rfl rfl (by first | (simp only [List.map_toArray, List.map_cons, List.map_nil]; done) | (simp only [List.map_toArray, List.map_cons, List.map_nil]; rfl) | rfl) ?_
              with_reducible refine (TXC _ HR2.out).mono ?_
              rintro e w3 ⟨rfl, hr3, ho3⟩
              refine ⟨_, rfl, ?_⟩
              have hb3 := hHeld.1.trans (ho3.below hg0 hHeld.1.size)
              have hc3' := hkeep _ hb3
              have HR3 := Lib.hid hr3
              refine hK.out _ _ ⟨hb3, hc3'⟩ (fun hHeld => ?_)
              clear hK K
              refine norm_ (a' := ?_) ?_ ?_
              rotate_left
              · show Act.put _ (some 65) _ = _
                simp only [Act.put, List.setIfInBounds_toArray, List.set_cons_zero, List.set_cons_succ, i64_w, i32_w]
                rfl
              refine pure_ (i := 6) (N := some 70) (v := ?_) (a' := ?_) #[true, true, true, true, true, true, true, false, false, false, false, false, false, false] rfl rfl (by kernel_rfl) (fun _ _ _ h => h) (Or.inl ⟨by rfl, ?_⟩) ?_ ?_
              rotate_left
              · intro w'
                go_simp
                with_reducible rfl
              rotate_left
              · simp only [Act.put, List.setIfInBounds_toArray, List.set_cons_zero, List.set_cons_succ, i64_w, i32_w]
                rfl
              refine pure_ (i := 7) (N := some 71) (v := ?_) (a' := ?_) #[true, true, true, true, true, true, true, true, false, false, false, false, false, false] rfl rfl (by kernel_rfl) (fun _ _ _ h => h) (Or.inl ⟨by rfl, ?_⟩) ?_ ?_
              rotate_left
              · intro w'
                go_simp
                with_reducible rfl
              rotate_left
              · simp only [Act.put, List.setIfInBounds_toArray, List.set_cons_zero, List.set_cons_succ, i64_w, i32_w]
                rfl
              refine pure_ (i := 8) (N := some 72) (v := ?_) (a' := ?_) #[true, true, true, true, true, true, true, true, true, false, false, false, false, false] rfl rfl (by kernel_rfl) (fun _ _ _ h => h) (Or.inl ⟨by rfl, ?_⟩) ?_ ?_
              rotate_left
              · intro w'
                go_simp
                with_reducible rfl
              rotate_left
              · simp only [Act.put, List.setIfInBounds_toArray, List.set_cons_zero, List.set_cons_succ, i64_w, i32_w]
                rfl
              refine pure_ (i := 10) (N := some 74) (v := ?_) (a' := ?_) #[true, true, true, true, true, true, true, true, true, false, true, false, false, false] rfl rfl (by kernel_rfl) (fun _ _ _ h => h) (Or.inl ⟨by rfl, ?_⟩) ?_ ?_
              rotate_left
              · intro w'
                go_simp
                with_reducible rfl
              rotate_left
              · simp only [Act.put, List.setIfInBounds_toArray, List.set_cons_zero, List.set_cons_succ, i64_w, i32_w]
                rfl
              refine pure_ (i := 11) (N := some 75) (v := ?_) (a' := ?_) #[true, true, true, true, true, true, true, true, true, false, true, true, false, false] rfl rfl (by kernel_rfl) (fun _ _ _ h => h) (Or.inl ⟨by rfl, ?_⟩) ?_ ?_
              rotate_left
              · intro w'
                go_simp
                with_reducible rfl
              rotate_left
              · simp only [Act.put, List.setIfInBounds_toArray, List.set_cons_zero, List.set_cons_succ, i64_w, i32_w]
                rfl
              refine one_ (i := 9) (N := some 73) #[true, true, true, true, true, true, true, true, true, true, true, true, false, false] rfl rfl (by kernel_rfl) (by decide) (fun K hK => ?_)
              refine goes_ Try.func29 (by kernel_rfl) rfl #[.pointer (some ⟨g, 0, none⟩)] (by rfl) rfl rfl (by first | (simp only [List.map_toArray, List.map_cons, List.map_nil]; done) | (simp only [List.map_toArray, List.map_cons, List.map_nil]; rfl) | rfl) ?_
              with_reducible refine (UC _ HR3.out).mono ?_
              rintro e w4 ⟨rfl, hr4, ho4⟩
              refine ⟨_, rfl, ?_⟩
              have hb4 := hHeld.1.trans (ho4.below hg0 hHeld.1.size)
              have hc4' := hkeep _ hb4
              have HR4 := Lib.hid hr4
              refine hK.out _ _ ⟨hb4, hc4'⟩ (fun hHeld => ?_)
              clear hK K
              refine norm_ (a' := ?_) ?_ ?_
              rotate_left
              · show Act.put _ (some 73) _ = _
                simp only [Act.put, List.setIfInBounds_toArray, List.set_cons_zero, List.set_cons_succ, i64_w, i32_w]
                rfl
              refine pure_ (i := 12) (N := some 76) (v := ?_) (a' := ?_) #[true, true, true, true, true, true, true, true, true, true, true, true, true, false] rfl rfl (by kernel_rfl) (fun _ _ _ h => h) (Or.inl ⟨by rfl, ?_⟩) ?_ ?_
              rotate_left
              · intro w'
                go_simp
                with_reducible rfl
              rotate_left
              · simp only [Act.put, List.setIfInBounds_toArray, List.set_cons_zero, List.set_cons_succ, i64_w, i32_w]
                rfl
              refine pure_ (i := 13) (N := some 77) (v := ?_) (a' := ?_) #[true, true, true, true, true, true, true, true, true, true, true, true, true, true] rfl rfl (by kernel_rfl) (fun _ _ _ h => h) (Or.inl ⟨by rfl, ?_⟩) ?_ ?_
              rotate_left
              · intro w'
                go_simp
                with_reducible rfl
              rotate_left
              · simp only [Act.put, List.setIfInBounds_toArray, List.set_cons_zero, List.set_cons_succ, i64_w, i32_w]
                rfl
              refine done_ (by kernel_rfl) ?_
              --END REGION
              go_wp2
              go_roundw
              case rel => exact ⟨k + 1, by omega, by go_num, hHeld.1, HR4.out⟩
              case measure => simp [intOf]; omega
            · have hkl : k = l.length := by omega
              have HRE : Hid (Rd w2.heap.size wr g bs false) := by
                have := HRD.out
                rw [hkl, List.drop_length] at this
                exact this
              clear hkl HRD hrd
              go_wp2_with fail
              refine (right_any _ g _ _ _ HRE.out).mono ?_
              rintro e wa ⟨rfl, rfl⟩
              go_wp2_with fail
              refine (left_any _ g _ _ _ HRE.out).mono ?_
              rintro e wa ⟨rfl, rfl⟩
              go_wp2_with fail
              refine (awake_any _).mono ?_
              rintro e wa ⟨rfl, hba⟩
              go_wp2_with fail
              go_ret
              exact ⟨rfl, HBW.out.trans (hba.mono HBW.out.size)⟩
    · go_enter Try.func13, Try.ntmps13
      go_wp2
      go_ret
      exact ⟨rfl, Below.refl _ _⟩
  · go_enter Try.func13, Try.ntmps13
    go_wp2
    go_ret
    exact ⟨rfl, Below.refl _ _⟩
theorem PackBack_int (v1 v3 : Value) (l : List ByteArray) (n : Int) (bs : List Int) (w : World) (h1 : Ss w v1 l) (h3 : Bs w v3 bs) (hb : Bytes bs) (hs : ∀ s ∈ l, s.size ≤ maxLen) (hn : (Lit.int .u64 n).wf = true) :
    Calls Try.prog 13 #[v1, .int .u64 n, v3] w fun e w' => e = .returned (.bool true) ∧ Below w.heap.size w w' := by
  simp [Lit.wf, IntKind.min, IntKind.max, IntKind.bits, IntKind.signed] at hn
  exact PackBack_any v1 v3 l n bs w h1 h3 hb (fun s h => by have := hs s h; simp only [maxLen] at this; omega) hn.1 (by omega)
end Go.Proofs.Ytokempdkfpbpmaa.Pack
