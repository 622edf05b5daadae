/- The program's book and the document's, taking the same records (contracts). -/
import Derived.Test.YtinonkakpgiblaaNamRefTake
import Derived.Test.YtinonkakpgiblaaNamSame
import Derived.Test.YtinonkakpgiblaaNamLoad
namespace Go.Proofs.Ytinonkakpgiblaa.Nam
open Go.RowKit Go.Proofs.YtinonkakpgiblaaW.PrintWords Go.Proofs.YtinonkakpgiblaaW.PrintLast Go.Proofs.Ytinonkakpgiblaa.Base Go.Proofs.Ytinonkakpgiblaa.Pack Go.Maps
set_option linter.unusedVariables false
set_option linter.unusedSimpArgs false

theorem ss_nil (w : World) : Ss w (.slice none 0 0) [] := ⟨none, 0, rfl, Nat.le_refl _, by decide, fun h => absurd h (by decide)⟩
/-- No output has more than 30000 names. -/
def Few (b : BookV) : Prop := ∀ n f, b.os n = some f → f.deps.length ≤ 30000
theorem few0 : Few book0 := fun _ _ h => by cases h
theorem oRest_len {s : RS} (h : (oRest s).2 = false) : (oRest s).1.length ≤ s.1.length := by
  have h1 := numS_len (m := 4) (s := numS 8 (numS 4 s)) h
  have h2 := numS_len (m := 8) (s := numS 4 s) h1.2
  have h3 := numS_len (m := 4) (s := s) h2.2
  show (numS 4 (numS 8 (numS 4 s))).1.length ≤ _
  omega
theorem takeOut_few {b : BookV} {s : RS} (h : Few b) (hl : s.1.length ≤ 90000) : Few ((takeOut b s).getD b) := by
  unfold takeOut
  split
  · exact h
  · rename_i hb
    split
    · rintro n f hn
      have hn : putO b.os (oOwn s) ⟨oTime s, (oDeps s).map Int.toNat⟩ n = some f := hn
      unfold putO at hn
      split at hn
      · cases hn
        show ((oDeps s).map Int.toNat).length ≤ 30000
        unfold oDeps
        rw [List.length_map, depL_length]
        have h2 : (oRest s).2 = false := by
          cases e : (oRest s).2 with
          | false => rfl
          | true => exact absurd (.inl e) hb
        have h4 : (oRest s).1.length = 4 * oMany s := by
          refine Classical.byContradiction fun h => hb (.inr (.inr (.inr h)))
        have h3 := oRest_len h2
        omega
      · exact h n f hn
    · exact h
theorem takeV_few {b : BookV} {xs : List Int} (h : Few b) (hl : xs.length ≤ 90000) : Few ((takeV b xs).getD b) := by
  cases xs with
  | nil => exact h
  | cons k rest =>
    rw [takeV_cons]
    split
    · unfold takeName
      split
      · exact h
      · exact h
    · split
      · exact takeOut_few h (by simp only [List.length_cons] at hl; show rest.length ≤ _; omega)
      · exact h
/-- The book behind some records, those that do not fit left out. -/
def takeL (l : List (List Int)) : BookV := l.foldl (fun b r => (takeV b r).getD b) book0
theorem takeL_snoc (l : List (List Int)) (x : List Int) : takeL (l ++ [x]) = (takeV (takeL l) x).getD (takeL l) := by
  unfold takeL
  rw [List.foldl_append]
  rfl
theorem takesV_snoc (l : List (List Int)) (x : List Int) : takesV book0 (l ++ [x]) = (takesV book0 l).bind fun b => takeV b x := by
  unfold takesV
  rw [List.foldlM_append]
  show (_ >>= _) = _
  cases h : List.foldlM takeV book0 l with
  | none => rfl
  | some b => show (List.foldlM takeV b [x]) = takeV b x; simp
theorem takesV_takeL (l : List (List Int)) : ∀ b, takesV book0 l = some b → b = takeL l := by
  refine snoc_ind (P := fun l => ∀ b, takesV book0 l = some b → b = takeL l) ?_ ?_ l
  · intro b h
    cases h
    rfl
  · intro l x ih b h
    rw [takesV_snoc] at h
    cases e : takesV book0 l with
    | none => rw [e] at h; cases h
    | some b1 =>
      rw [e, Option.bind_some] at h
      rw [takeL_snoc, ← ih b1 e, h]
      rfl
theorem all_snoc (l : List (List Int)) (x : List Int) : (takesV book0 (l ++ [x])).isSome = ((takesV book0 l).isSome && (takeV (takeL l) x).isSome) := by
  rw [takesV_snoc]
  cases e : takesV book0 l with
  | none => rfl
  | some b1 => rw [Option.bind_some, takesV_takeL l b1 e]; rfl
/-- The program's book b at gn, the document's b' at g, since the world w0. -/
structure Tws (S T : Nat → Prop) (w0 w : World) (k k' gn g : Nat) (b b' : BookV) (L : List DepV) : Prop where
  bk : Bk S k w gn b
  rb : RBk T w g b'.ns L
  all : AllOf b' L
  good : Good b'
  fewL : L.length ≤ k'
  few : Few b
  few' : Few b'
  dis : ∀ j, S j → ¬ T j
  sb : ∀ j, S j → w0.heap.size ≤ j
  tb : ∀ j, T j → w0.heap.size ≤ j
  below : Below w0.heap.size w0 w
def Tw (w0 w : World) (k k' gn g : Nat) (b b' : BookV) : Prop := ∃ S T L, Tws S T w0 w k k' gn g b b' L
section
variable {w0 w w' : World} {k k' gn g : Nat} {b b' : BookV}
theorem Tw.moved (h : Tw w0 w k k' gn g b b') (hb : Below w.heap.size w w') : Tw w0 w' k k' gn g b b' := by
  obtain ⟨S, T, L, h⟩ := h
  exact ⟨S, T, L, h.bk.below hb, h.rb.below hb, h.all, h.good, h.fewL, h.few, h.few', h.dis, h.sb, h.tb, h.below.trans (hb.mono h.below.size)⟩
theorem Tw.below (h : Tw w0 w k k' gn g b b') : Below w0.heap.size w0 w := by
  obtain ⟨S, T, L, h⟩ := h
  exact h.below
/-- A new book of each. -/
theorem tw_new {w1 : World} (hk : Bk (fun k => w.heap.size ≤ k ∧ k < w1.heap.size) 0 w1 gn book0) (hb : Below w.heap.size w w1) :
    Tw w (w1.alloc (.cells #[.slice none 0 0, .slice none 0 0] 55)) 0 0 gn w1.heap.size book0 book0 := by
  have hb2 := below_alloc (Below.refl w1.heap.size w1) (.cells #[.slice none 0 0, .slice none 0 0] 55)
  refine ⟨_, fun k => k = w1.heap.size, [], hk.below hb2, ⟨fun k hk => ?_, rfl, _, _, blk_new w1 _, Kd.R_nil _ _ _ _ _, Kd.R_nil _ _ _ _ _⟩, allOf0, good0, Nat.le_refl _, few0, few0, fun j h1 h2 => ?_, fun j h1 => h1.1, fun j h1 => ?_, hb.trans (hb2.mono hb.size)⟩
  · rw [hk]; simp
  · have h1 := h1.2
    have h2 : j = w1.heap.size := h2
    omega
  · have h1 : j = w1.heap.size := h1
    rw [h1]; exact hb.size
/-- The document's book takes a record. -/
theorem tw_rtake (h : Tw w0 w k k gn g b b) (v : Value) (xs : List Int) (hv : Bs w v xs) (hb : Bytes xs) (hl : xs.length ≤ 90000) (hk : k ≤ 1000000) :
    Calls Try.prog 24 #[.pointer (some ⟨g, 0, none⟩), v] w fun e w' => e = .returned (.bool (takeV b xs).isSome) ∧ Tw w0 w' k (k + 1) gn g b ((takeV b xs).getD b) := by
  obtain ⟨S, T, L, h⟩ := h
  refine (rtake_any T g b L v xs w h.rb h.all h.good hv hb (by have := h.bk.few; omega) (by have := h.fewL; omega) hl).mono ?_
  rintro e w' ⟨rfl, ⟨L', hr, ha, hl2⟩, hf⟩
  refine ⟨rfl, S, Sn T w.heap.size w', L', h.bk.foot hf h.dis, hr, ha, ?_, by have := h.fewL; omega, h.few, takeV_few h.few' hl, ?_, h.sb, ?_, ?_⟩
  · cases e : takeV b xs with
    | none => exact h.good
    | some b2 => exact takeV_good h.good hb e
  · rintro j h1 (h2 | h2)
    · exact h.dis j h1 h2
    · have := h.bk.lt j h1
      omega
  · rintro j (h2 | h2)
    · exact h.tb j h2
    · exact Nat.le_trans h.below.size h2.1
  · exact h.below.trans (hf.below h.tb h.below.size)
/-- The program's book takes it too. -/
theorem tw_take (h : Tw w0 w k k' gn g b b') (v : Value) (xs : List Int) (hv : Bs w v xs) (hb : Bytes xs) (hl : xs.length ≤ 90000) (hk : k ≤ 1000000) (he : b' = (takeV b xs).getD b) :
    Calls Try.prog 21 #[.pointer (some ⟨gn, 0, none⟩), v] w fun e w' => e = .returned (.int .i64 (takeE (takeV b xs))) ∧ Tw w0 w' (k + 1) k' gn g b' b' := by
  obtain ⟨S, T, L, h⟩ := h
  refine (take_any S k gn b v xs w h.bk hv hb hk hl).mono ?_
  rintro e w' ⟨rfl, hk2, hf⟩
  rw [← he] at hk2
  refine ⟨rfl, Sn S w.heap.size w', T, L, hk2, h.rb.foot hf (fun j h1 h2 => h.dis j h2 h1), h.all, h.good, h.fewL, h.few', h.few', ?_, ?_, h.tb, ?_⟩
  · rintro j (h2 | h2) h1
    · exact h.dis j h2 h1
    · have := h.rb.lt j h1
      omega
  · rintro j (h2 | h2)
    · exact h.sb j h2
    · exact Nat.le_trans h.below.size h2.1
  · exact h.below.trans (hf.below h.sb h.below.size)
theorem out_short {b : BookV} {L : List DepV} (hA : AllOf b L) (hG : Good b) (hs : ∀ s ∈ b.ns, s.size ≤ 100000) : ∀ d ∈ L, d.out.size ≤ maxLen := by
  intro d hd
  obtain ⟨n, f, h1, rfl⟩ := (hA.mem d).1 hd
  have hn := (hG.at_ n f h1).1
  have h2 : (depV b n f).out ∈ b.ns := by
    unfold depV
    simp only [List.getD_eq_getElem?_getD, List.getElem?_eq_getElem hn, Option.getD_some]
    exact List.getElem_mem hn
  have := hs _ h2
  simp only [maxLen]
  omega
/-- The two are the same. -/
theorem tw_same (h : Tw w0 w k k' gn g b b) (hk : k ≤ 1000000) :
    Calls Try.prog 25 #[.pointer (some ⟨gn, 0, none⟩), .pointer (some ⟨g, 0, none⟩)] w fun e w' => e = .returned (.bool true) ∧ Below w.heap.size w w' := by
  obtain ⟨S, T, L, h⟩ := h
  exact bsame_any S T k gn g b L w h.bk h.rb h.all hk (fun n f hn => Nat.le_trans (h.few n f hn) (by omega)) (out_short h.all h.good h.bk.short)
/-- The document's book is the same as one that was loaded. -/
theorem tw_loaded (h : Tw w0 w k k' gn g b b) {S : Nat → Prop} {c gc : Nat} (hB : Bk S c w gc b) (hc : c ≤ 1000000) :
    Calls Try.prog 25 #[.pointer (some ⟨gc, 0, none⟩), .pointer (some ⟨g, 0, none⟩)] w fun e w' => e = .returned (.bool true) ∧ Below w.heap.size w w' := by
  obtain ⟨S', T, L, h⟩ := h
  exact bsame_any S T c gc g b L w hB h.rb h.all hc (fun n f hn => Nat.le_trans (h.few n f hn) (by omega)) (out_short h.all h.good hB.short)
theorem tw_look (h : Tw w0 w k k' gn g b b') (s : ByteArray) (hs : s.size ≤ maxLen) (hk : k ≤ 1000000) :
    Calls Try.prog 17 #[.pointer (some ⟨gn, 0, none⟩), .string s] w fun e w' => ∃ v, e = .returned (.tuple #[v, .bool (lookV b s).isSome]) ∧ DepO w.heap.size w' v ((lookV b s).getD zdep) ∧ Below w.heap.size w w' := by
  obtain ⟨S, T, L, h⟩ := h
  exact look_any S k gn b s w h.bk hs hk (fun n f hn => Nat.le_trans (h.few n f hn) (by omega))
/-- The document's list as it lies in memory. -/
theorem tw_list (h : Tw w0 w k k' gn g b b) : ∃ L vn vl, w.heap[g]? = some (.cells #[vn, vl] 55 (0, 0)) ∧ Dz w vl L ∧ L.length ≤ k' ∧ ∀ s, (lookV b s).isSome = decide (s ∈ L.map (·.out)) := by
  obtain ⟨S, T, L, h⟩ := h
  obtain ⟨_, _, vn, vl, hg, hN, hL⟩ := h.rb
  refine ⟨L, vn, vl, hg, kd_dz hL, h.fewL, fun s => ?_⟩
  rw [Bool.eq_iff_iff, decide_eq_true_iff, List.mem_map]
  constructor
  · intro h1
    obtain ⟨x, hx⟩ := Option.isSome_iff_exists.1 h1
    obtain ⟨n, f, h2, h3⟩ := look_some hx
    refine ⟨x, (h.all.mem x).2 ⟨n, f, h2, h3⟩, ?_⟩
    unfold lookV at hx
    obtain ⟨m, h4, h5⟩ := Option.bind_eq_some_iff.1 hx
    obtain ⟨f2, h6, h7⟩ := Option.map_eq_some_iff.1 h5
    obtain ⟨h8, h9⟩ := idx_some h4
    rw [← h7]
    exact h9
  · rintro ⟨d, hd, rfl⟩
    rw [(h.all.look h.good d).1 hd]
    rfl
end
end Go.Proofs.Ytinonkakpgiblaa.Nam
