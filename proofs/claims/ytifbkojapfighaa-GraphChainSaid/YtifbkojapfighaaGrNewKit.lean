/- graph.New: the manifest as it is read, the graph under way. -/
import Derived.Test.YtifbkojapfighaaGrOrder
namespace Go.Proofs.Ytifbkojapfighaa.Gr
open Go.RowKit Go.Proofs.YtifbkojapfighaaW.PrintWords Go.Proofs.YtifbkojapfighaaW.PrintLast Go.Proofs.Ytifbkojapfighaa.Base Go.Maps
set_option linter.unusedVariables false
set_option linter.unusedSimpArgs false

theorem cell_nx {w : World} {a : Addr} {i k : Nat} {u : Value} (h : w.cell? (a.add (i + k)) = some u) (hk : 0 < k) : w.cell? ⟨(a.add i).block, (a.add i).off + k, none⟩ = some u := by
  rw [← Addr.add_add a i k] at h
  generalize a.add i = b at h ⊢
  have e : b.add k = ⟨b.block, b.off + k, none⟩ := by
    unfold Addr.add
    rw [if_neg (by omega)]
  rw [← e]
  exact h
/-- v reads as edges. -/
def Ez (w : World) (v : Value) (es : List EdgeV) : Prop := ∃ A c, v = .slice A es.length c ∧ es.length ≤ c ∧ es.length ≤ 9223372036854775807 ∧ (0 < es.length → ∃ ad, A = some ad ∧ ∀ i, i < es.length → ∃ vo vi vm vr, w.cell? (ad.add (i * 6)) = some vo ∧ w.cell? ⟨(ad.add (i * 6)).block, (ad.add (i * 6)).off + 1, none⟩ = some vi ∧ w.cell? ⟨(ad.add (i * 6)).block, (ad.add (i * 6)).off + 2, none⟩ = some vm ∧ w.cell? ⟨(ad.add (i * 6)).block, (ad.add (i * 6)).off + 3, none⟩ = some vr ∧ w.cell? ⟨(ad.add (i * 6)).block, (ad.add (i * 6)).off + 4, none⟩ = some (.string (es.getD i zedge).cmd) ∧ w.cell? ⟨(ad.add (i * 6)).block, (ad.add (i * 6)).off + 5, none⟩ = some (.string (es.getD i zedge).dep) ∧ EdC w vo vi vm vr (es.getD i zedge))
theorem Ez.below {w w1 : World} {v : Value} {es : List EdgeV} (h : Ez w v es) (hb : Below w.heap.size w w1) : Ez w1 v es := by
  obtain ⟨A, c, h1, h2, h3, h4⟩ := h
  exact ⟨A, c, h1, h2, h3, fun hp => by
    obtain ⟨ad, e, hc⟩ := h4 hp
    exact ⟨ad, e, fun i hi => by
      obtain ⟨vo, vi, vm, vr, q0, q1, q2, q3, q4, q5, hs⟩ := hc i hi
      exact ⟨vo, vi, vm, vr, pw_cell_below hb q0, pw_cell_below hb q1, pw_cell_below hb q2, pw_cell_below hb q3, pw_cell_below hb q4, pw_cell_below hb q5, hs.below hb⟩⟩⟩
theorem Ez.len {w : World} {v : Value} {es : List EdgeV} (h : Ez w v es) : ∃ A c, v = .slice A es.length c ∧ es.length ≤ c ∧ es.length ≤ 9223372036854775807 := by
  obtain ⟨A, c, h1, h2, h3, _⟩ := h
  exact ⟨A, c, h1, h2, h3⟩
theorem Ez.get {w : World} {A : Option Addr} {n c : Nat} {es : List EdgeV} (h : Ez w (.slice A n c) es) (i : Nat) (hi : i < es.length) : ∃ ad vo vi vm vr, A = some ad ∧ w.cell? (ad.add (i * 6)) = some vo ∧ w.cell? ⟨(ad.add (i * 6)).block, (ad.add (i * 6)).off + 1, none⟩ = some vi ∧ w.cell? ⟨(ad.add (i * 6)).block, (ad.add (i * 6)).off + 2, none⟩ = some vm ∧ w.cell? ⟨(ad.add (i * 6)).block, (ad.add (i * 6)).off + 3, none⟩ = some vr ∧ w.cell? ⟨(ad.add (i * 6)).block, (ad.add (i * 6)).off + 4, none⟩ = some (.string (es.getD i zedge).cmd) ∧ w.cell? ⟨(ad.add (i * 6)).block, (ad.add (i * 6)).off + 5, none⟩ = some (.string (es.getD i zedge).dep) ∧ EdC w vo vi vm vr (es.getD i zedge) := by
  obtain ⟨A', c', e, _, _, h4⟩ := h
  injection e with e1 e2 e3
  subst e1
  obtain ⟨ad, e, hc⟩ := h4 (by omega)
  obtain ⟨vo, vi, vm, vr, hh⟩ := hc i hi
  exact ⟨ad, vo, vi, vm, vr, e, hh⟩
theorem ez_of_R {e base : Nat} {ok : Nat → Prop} {w : World} {v : Value} {es : List EdgeV} (h : kedge.R e w base ok v (es.map EdgeV.x)) : Ez w v es := by
  obtain ⟨A, c, rfl, hc, hr⟩ := Kd.R_reads h
  rw [List.length_map] at *
  refine ⟨A, c, rfl, hc, hr.2.1, fun hp => ?_⟩
  obtain ⟨ad, e, hcell⟩ := hr.2.2 hp
  refine ⟨ad, e, fun i hi => ?_⟩
  have hd : (es.map EdgeV.x)[i]? = some (es.getD i zedge).x := by
    rw [List.getElem?_map, List.getElem?_eq_getElem hi, List.getD_eq_getElem?_getD, List.getElem?_eq_getElem hi]
    rfl
  obtain ⟨cs, _, hk, hcs⟩ := hcell i _ hd
  obtain ⟨_, _, rfl, ⟨A1, c1, rfl, k1, C1⟩, _, _, rfl, ⟨A2, c2, rfl, k2, C2⟩, _, _, rfl, ⟨A3, c3, rfl, k3, C3⟩, _, _, rfl, ⟨A4, c4, rfl, k4, C4⟩, c5, c6, rfl, e5, e6⟩ := hk
  have e5 : c5 = [.string (es.getD i zedge).cmd] := e5
  have e6 : c6 = [.string (es.getD i zedge).dep] := e6
  subst e5 e6
  have mk : ∀ (A : Option Addr) (c : Nat) (l : List ByteArray), l.length ≤ c → Kd.string.C w A l.length l → Ss w (.slice A l.length c) l := fun A c l hl hC => by
    have h1 := Kd.reads_of_C (enc := Value.string) (d := ByteArray.empty) hC
    exact ⟨A, c, rfl, hl, h1.2.1, h1.2.2⟩
  refine ⟨_, _, _, _, hcs 0 _ rfl, cell_nx (hcs 1 _ rfl) (by omega), cell_nx (hcs 2 _ rfl) (by omega), cell_nx (hcs 3 _ rfl) (by omega), cell_nx (hcs 4 _ rfl) (by omega), cell_nx (hcs 5 _ rfl) (by omega), mk _ _ _ k1 C1, mk _ _ _ k2 C2, mk _ _ _ k3 C3, mk _ _ _ k4 C4⟩
structure ManV where
  edges : List EdgeV
  defs : List ByteArray
/-- Which edge makes a file. -/
def makerOf (es : List EdgeV) (s : ByteArray) : Option Nat := es.findIdx? fun e => decide (s ∈ e.outs)
theorem makerOf_nil (s : ByteArray) : makerOf [] s = none := rfl
theorem makerOf_snoc (es : List EdgeV) (e : EdgeV) (s : ByteArray) : makerOf (es ++ [e]) s = (makerOf es s).or (if s ∈ e.outs then some es.length else none) := by
  unfold makerOf
  rw [List.findIdx?_append]
  congr 1
  by_cases h : s ∈ e.outs
  · simp [h]
  · simp [h]
/-- All outputs, in order. -/
def allOuts (es : List EdgeV) : List ByteArray := (es.map (·.outs)).flatten
theorem allOuts_snoc (es : List EdgeV) (e : EdgeV) : allOuts (es ++ [e]) = allOuts es ++ e.outs := by
  unfold allOuts
  simp
theorem maker_some {es : List EdgeV} {s : ByteArray} : (makerOf es s).isSome = decide (s ∈ allOuts es) := by
  unfold makerOf allOuts
  rw [List.findIdx?_isSome, Bool.eq_iff_iff, List.any_eq_true, decide_eq_true_iff, List.mem_flatten]
  constructor
  · rintro ⟨e, h1, h2⟩
    exact ⟨e.outs, List.mem_map_of_mem h1, of_decide_eq_true h2⟩
  · rintro ⟨l, h1, h2⟩
    obtain ⟨e, h3, rfl⟩ := List.mem_map.1 h1
    exact ⟨e, h3, decide_eq_true h2⟩
theorem maker_lt {es : List EdgeV} {s : ByteArray} {n : Nat} (h : makerOf es s = some n) : n < es.length := by
  unfold makerOf at h
  exact (List.findIdx?_eq_some_iff_getElem.1 h).1
/-- Makers within an edge's outputs. -/
def makerIn (es : List EdgeV) (outs : List ByteArray) (s : ByteArray) : Option Nat := (makerOf es s).or (if s ∈ outs then some es.length else none)
theorem makerIn_nil (es : List EdgeV) (s : ByteArray) : makerIn es [] s = makerOf es s := by simp [makerIn]
theorem snoc_ind {α : Type} {P : List α → Prop} (h0 : P []) (h1 : ∀ l x, P l → P (l ++ [x])) (l : List α) : P l := by
  have key : ∀ (n : Nat) (l : List α), l.length = n → P l := by
    intro n
    induction n with
    | zero => intro l hl; rw [List.length_eq_zero_iff.1 hl]; exact h0
    | succ n ih =>
      intro l hl
      have hne : l ≠ [] := by intro e; rw [e] at hl; cases hl
      rw [← List.dropLast_concat_getLast hne]
      exact h1 _ _ (ih _ (by rw [List.length_dropLast, hl]; rfl))
  exact key _ l rfl
theorem madeF_lt (es : List EdgeV) (l : List ByteArray) : ∀ k ∈ madeF (makerOf es) l, k < es.length := by
  refine snoc_ind (P := fun l => ∀ k ∈ madeF (makerOf es) l, k < es.length) (fun k hk => by cases hk) ?_ l
  intro l s ih k hk
  rw [madeF_snoc] at hk
  cases hm : makerOf es s with
  | none => rw [hm] at hk; exact ih k hk
  | some q =>
    rw [hm] at hk
    have hk : k ∈ if q ∈ madeF (makerOf es) l then madeF (makerOf es) l else madeF (makerOf es) l ++ [q] := hk
    split at hk
    · exact ih k hk
    · rcases List.mem_append.1 hk with h | h
      · exact ih k h
      · rw [List.mem_singleton.1 h]; exact maker_lt hm
/-- The edges whose outputs an edge needs. -/
def aheadV (es : List EdgeV) : List (List Nat) := es.map fun e => madeF (makerOf es) (needsV e)
theorem ahead_lt (es : List EdgeV) : ∀ r ∈ aheadV es, ∀ k ∈ r, k < es.length := fun r hr k hk => by
  unfold aheadV at hr
  obtain ⟨e, _, rfl⟩ := List.mem_map.1 hr
  exact madeF_lt es _ k hk
/-- Its parts are few, and short. -/
structure SmallM (m : ManV) : Prop where
  edges : m.edges.length ≤ 10000
  defs : m.defs.length ≤ 100000
  each : ∀ e ∈ m.edges, SmallE e
  size : ∀ e ∈ m.edges, ∀ s, s ∈ e.outs ∨ s ∈ needsV e → s.size ≤ maxLen
  all : (allOuts m.edges).length ≤ 1000000
section
variable {ops : Array Oper} {o : Oper} {a : Act} {Q : Exit → Act → World → Prop} {K : Act → World → Prop} {E : Prop}
theorem edge_zero : (Try.prog.info? 44).map (fun i => (i.zero, i.size, i.bytes)) = some (some (.agg #[.slice none 0 0, .slice none 0 0, .slice none 0 0, .slice none 0 0, .string ⟨#[]⟩, .string ⟨#[]⟩]), 6, 128) := by kernel_rfl
theorem EdO.ne {w : World} {base : Nat} {vo vi vm vr ve : Value} {e : EdgeV} {es : List EdgeV} {ok : Nat → Prop} (h : EdO base (fun _ => True) w vo vi vm vr e) (hR : kedge.R 44 w base ok ve (es.map EdgeV.x)) : EdO base (fun k => True ∧ some k ≠ ve.ownBlock) w vo vi vm vr e := by
  have key : ∀ {v : Value} {l : List ByteArray}, Kd.string.R 9 w base (fun _ => True) v l → Kd.string.R 9 w base (fun k => True ∧ some k ≠ ve.ownBlock) v l := by
    intro v l hl
    cases hq : ve.ownBlock with
    | none => exact Kd.R_mono hl (fun k _ => ⟨trivial, fun e => by cases e⟩)
    | some q =>
      obtain ⟨cells, hc⟩ := Kd.R_typed hR q hq
      exact Kd.R_mono (Kd.R_types hl hc (by decide)) (fun k hk => ⟨trivial, fun e => hk.2 (Option.some.inj e)⟩)
  exact ⟨key h.1, key h.2.1, key h.2.2.1, key h.2.2.2⟩
theorem app_edge_step {w0 W : World} (hgd : o.guard = none) (s x : Operand)
    (ho : o.op = .call { callee := .builtin .append, args := #[s, x], argTypes := #[31, 31] })
    (v vo vi vm vr : Value) (es : List EdgeV) (e : EdgeV) (hs : a.eval s = v) (hx : a.eval x = .slice (some ⟨W.heap.size, 0, none⟩) 1 1)
    (HO : kedge.R 44 W w0.heap.size (fun _ => True) v (es.map EdgeV.x)) (HB : Below w0.heap.size w0 W) (HE : EdO w0.heap.size (fun _ => True) W vo vi vm vr e) (hl : es.length ≤ 100000)
    (h : ∀ v1 w1, kedge.R 44 w1 w0.heap.size (fun _ => True) v1 ((es ++ [e]).map EdgeV.x) → Below w0.heap.size w0 w1 → W.grownBy w1 v.ownBlock → K (a.put o.dst v1) w1) :
    if Region.wanted o (yielded ops a.tmps) = true then Oper.wp Try.prog o a (W.alloc (.cells #[vo, vi, vm, vr, .string e.cmd, .string e.dep] 44)) K Q else E := by
  have hw : Region.wanted o (yielded ops a.tmps) = true := by simp [Region.wanted, hgd]
  have hK := Kd.R_append_step kedge (P := Try.prog) (Kc := K) (Q := Q) (ops := ops) (o := o) (a := a) (w0 := w0) (W := W) w0.heap.size hw s x 31 44 _ 128 ho Try.underlying31 edge_zero rfl (by decide) (by decide) v (es.map EdgeV.x) e.x _ (fun _ => True) _ hs hx (HE.ne HO).M (fun _ hk => hk) (fun _ _ => trivial) HO HB HB.size (by rw [List.length_map]; omega) (fun v1 w1 h1 h2 h3 _ => h v1 w1 (by rw [List.map_append]; exact h1) h2 h3)
  rw [if_pos hw] at hK ⊢
  exact hK
end
end Go.Proofs.Ytifbkojapfighaa.Gr
