/- slices.DeleteFunc of texts, at rows of the call's own. -/
import Derived.Test.YtifbkojapfighaaGrSort
namespace Go.Proofs.Ytifbkojapfighaa.Gr
open Go.RowKit Go.Proofs.YtifbkojapfighaaW.PrintWords Go.Proofs.YtifbkojapfighaaW.PrintLast Go.Proofs.Ytifbkojapfighaa.Base Go.Maps Go.Sort
set_option linter.unusedVariables false
set_option linter.unusedSimpArgs false

/-- Texts that may be keys. -/
abbrev TX := {s : ByteArray // s.size ≤ maxLen}
instance : Inhabited TX := ⟨⟨ByteArray.empty, by decide⟩⟩
def encT (x : TX) : Value := .string x.1
theorem tx_of (l : List ByteArray) (h : ∀ s ∈ l, s.size ≤ maxLen) : ∃ lx : List TX, l = lx.map (·.1) := by
  induction l with
  | nil => exact ⟨[], rfl⟩
  | cons s l ih =>
    obtain ⟨lx, e⟩ := ih fun s hs => h s (.tail _ hs)
    exact ⟨⟨s, h s (.head _)⟩ :: lx, congrArg (List.cons s) e⟩
theorem holds_tx {w : World} {g : Nat} {cur : Array Value} {e : TypeId} {ss : List TX} (hb : w.heap[g]? = some (.cells cur e (0, 0))) (ht : cur.toList.take ss.length = ss.map encT) : Holds encT w g 0 ss.toArray := by
  intro j hj
  have hj' : j < ss.length := by simpa using hj
  refine ⟨?_, by simp [World.frozen?, hb]⟩
  have h1 : (cur.toList.take ss.length)[j]? = (ss.map encT)[j]? := by rw [ht]
  rw [List.getElem?_take_of_lt hj'] at h1
  simp only [World.cell?, hb, Nat.zero_add]
  simp only [Option.isSome_none, Bool.false_eq_true, if_false]
  rw [← Array.getElem?_toList, h1]
  simp [hj']
theorem heap_tx {w : World} {g n : Nat} {os : Array Obj} {cur : Array Value} {e : TypeId} {fr : Nat × Nat} (d : Array TX) (hb : w.heap[g]? = some (.cells cur e fr)) :
    (grow (putRow encT (Sort.ahead w n) g 0 d) os).heap[g]? = some (.cells (putCells encT 0 d cur) e fr) := by
  have hg : g < w.heap.size := (Array.getElem?_eq_some_iff.1 hb).1
  rw [heap_grow_old _ _ (by simpa using hg)]
  simp [putRow, mapBlock, Sort.ahead, Array.getElem?_modify, hb, onCells]
theorem grownBy_tx {w : World} {g n : Nat} {os : Array Obj} (d : Array TX) : w.grownBy (grow (putRow encT (Sort.ahead w n) g 0 d) os) (some g) := by
  refine ⟨rfl, rfl, rfl, by simp, fun k hk hne => ?_⟩
  rw [heap_grow_old _ _ (by simpa using hk)]
  have : g ≠ k := fun e => hne (by rw [e])
  simp [putRow, mapBlock, Sort.ahead, Array.getElem?_modify, this]
theorem take_tx (cur : Array Value) (ts : List TX) (h : ts.length ≤ cur.size) : (putCells encT 0 ts.toArray cur).toList.take ts.length = ts.map encT := by
  apply List.ext_getElem?
  intro j
  by_cases hj : j < ts.length
  · rw [List.getElem?_take_of_lt hj, Array.getElem?_toList]
    simp [putCells, hj, show j < cur.size by omega]
  · rw [List.getElem?_take_eq_none (by omega), List.getElem?_eq_none (by simp; omega)]
theorem ownsRow_tx {w : World} {base g cap n : Nat} {e : TypeId} {os : Array Obj} {cur : Array Value} {ss ts : List TX} (hl : ts.length = ss.length) (hbase : base ≤ g) (hb : w.heap[g]? = some (.cells cur e (0, 0)))
    (h1 : ss.length ≤ cap) (h2 : cap ≤ maxLen) (h3 : cur.size = cap * 1) :
    (grow (putRow encT (Sort.ahead w n) g 0 ts.toArray) os).ownsRow base e 1 (.slice (some ⟨g, 0, none⟩) ss.length cap) ss.length (ts.map encT) :=
  ⟨by simp [hl], .inr ⟨g, cap, _, rfl, hbase, heap_tx _ hb, h1, h2, by simp [putCells, h3], by rw [Nat.mul_one, ← hl]; exact take_tx cur ts (by omega)⟩⟩
theorem drewN_zero (W : World) : W.drewN 0 = W := rfl
theorem index_nil (A : Option Addr) (c : Nat) (fv : Value) (w : World) : Calls Try.prog 62 #[.slice A 0 c, fv] w fun e w' => e = .returned (.int .i64 (-1)) ∧ w' = w :=
  AnyE.slices_IndexFunc_empty { Try.delete47 with } A c fv w
theorem delete_nil (A : Option Addr) (c : Nat) (g : Nat) (lb : Array Value) (w : World) : Calls Try.prog 47 #[.slice A 0 c, .func (.func g) #[] lb] w fun e w' => e = .returned (.slice A 0 c) ∧ w' = w := by
  go_enter Try.func47, Try.ntmps47
  go_wp2_with fail
  refine (index_nil A c _ _).mono ?_
  rintro e w1 ⟨rfl, rfl⟩
  go_wp2
  go_ret
  exact ⟨rfl, rfl⟩
theorem delete_strs (base : Nat) (v : Value) (l : List ByteArray) (w : World) (g : Nat) (lb : Array Value) (q : ByteArray → Bool) (h : Kd.string.R 9 w base (fun _ => True) v l) (hz : ∀ s ∈ l, s.size ≤ maxLen) (hl : l.length ≤ 10000000)
    (eg : ∀ args w, (callFunc g args).run Try.prog w = .ok (.enter g args) w)
    (hp : ∀ W s, s.size ≤ maxLen → w.grownBy W v.ownBlock → Calls Try.prog g (#[.string s] ++ lb) W fun e w' => e = .returned (.bool (q s)) ∧ w' = W) :
    Calls Try.prog 47 #[v, .func (.func g) #[] lb] w fun e w' => ∃ v', e = .returned v' ∧ Kd.string.R 9 w' base (fun _ => True) v' (l.filter fun s => !q s) ∧ w.grownBy w' v.ownBlock := by
  obtain ⟨A, c, rfl⟩ := Kd.R_slice h
  rcases Nat.eq_zero_or_pos l.length with h0 | hpos
  · have hn : l = [] := List.eq_nil_of_length_eq_zero h0
    subst hn
    refine (delete_nil A c g lb w).mono ?_
    rintro e w' ⟨rfl, rfl⟩
    exact ⟨_, rfl, h, ⟨rfl, rfl, rfl, Nat.le_refl _, fun _ _ _ => rfl⟩⟩
  · obtain ⟨b, cap, ev, hbg, hgl, cells, hcell⟩ := Kd.R_form h hpos
    rw [ev] at h hp ⊢
    obtain ⟨cur, hb, ht, h1, h2, h3, h4⟩ := row_block h hpos
    obtain ⟨lx, rfl⟩ := tx_of l hz
    rw [List.length_map] at *
    have e1 : (lx.map (·.1)).map Value.string = lx.map encT := by rw [List.map_map]; rfl
    rw [e1] at ht
    have hH : Holds encT w b 0 lx.toArray := holds_tx hb ht
    have hPA : PredAt Try.prog g lb encT (fun x => q x.1) w := fun W x hb2 => by
      have h9 := hp W x.1 x.2 ⟨hb2.os, hb2.tape, hb2.output, hb2.size, fun k hk _ => hb2.block k hk⟩
      exact h9.mono fun e w' h => ⟨h.1, 0, h.2⟩
    have hPO : PredOver Try.prog g lb encT (fun x => q x.1) b 0 lx.toArray.size w := fun n os dk x _ => by
      have h9 := hp _ x.1 x.2 (grownBy_tx (w := w) (g := b) (n := n) (os := os) dk)
      exact h9.mono fun e w' h => ⟨h.1, 0, h.2⟩
    have hsz : lx.toArray.size = lx.length := by simp
    have hc := AnyE.slices_DeleteFunc Try.delete47 encT (fun _ => rfl) (fun x => q x.1) g lb eg ⟨ByteArray.empty, by decide⟩ (fun _ => by kernel_rfl) b 0 cap lx.toArray w hPA hPO hH (by rw [hsz]; omega) (by rw [hsz]; exact h1)
    rw [hsz] at hc
    refine hc.mono ?_
    rintro e w' ⟨rfl, n, rfl⟩
    have hfl : (lx.filter fun x => !q x.1).length ≤ lx.length := List.length_filter_le _ _
    obtain ⟨ts, hts⟩ : ∃ ts, ts = (lx.filter fun x => !q x.1) ++ List.replicate (lx.length - (lx.filter fun x => !q x.1).length) ⟨ByteArray.empty, by decide⟩ := ⟨_, rfl⟩
    have htl : ts.length = lx.length := by rw [hts, List.length_append, List.length_replicate]; omega
    have ho := ownsRow_tx (w := w) (base := base) (g := b) (cap := cap) (n := n) (os := #[]) (ss := lx) (ts := ts) htl h4 hb h1 h2 h3
    have hgr := grownBy_tx (w := w) (g := b) (n := n) (os := #[]) ts.toArray
    rw [Go.Proofs.Ytifbkojapfighaa.Gr.grow_none] at ho hgr
    have ht2 := own_take ho (m := (lx.filter fun x => !q x.1).length) hfl
    have e2 : ((lx.map (·.1)).filter fun s => !q s) = (lx.filter fun x => !q x.1).map (·.1) := by rw [List.filter_map]; rfl
    have hz2 : (ts.map encT).take ((lx.filter fun x => !q x.1).length * 1) = ((lx.map (·.1)).filter fun s => !q s).map Value.string := by
      rw [Nat.mul_one, hts, List.map_append, List.take_append_of_le_length (by rw [List.length_map]; exact Nat.le_refl _), List.take_of_length_le (by rw [List.length_map]; exact Nat.le_refl _), e2, List.map_map]
      rfl
    rw [hz2] at ht2
    have hln : ((lx.map (·.1)).filter fun s => !q s).length = (lx.filter fun x => !q x.1).length := by rw [e2, List.length_map]
    refine ⟨_, rfl, ?_, by rw [← hts]; exact hgr⟩
    rw [← hts]
    show Kd.string.R _ _ _ _ (.slice _ (lx.filter fun x => !q x.1).length cap) _
    rw [← hln] at ht2 ⊢
    exact Kd.R_of_own (enc := Value.string) (h1 := fun _ => rfl) ht2 (fun _ _ => trivial)
end Go.Proofs.Ytifbkojapfighaa.Gr
