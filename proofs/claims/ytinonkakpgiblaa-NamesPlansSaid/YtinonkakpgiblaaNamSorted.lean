/- Rows of what was found (names.Dep): append, and slices.SortFunc by the output's name. -/
import Derived.Shelf.SlSortCmp.WholeK
import Derived.Shelf.SlSortCmp.NoneTotal
import Derived.Sort.Walk0
import Derived.Test.YtinonkakpgiblaaNamSort
import Derived.Test.YtinonkakpgiblaaNamLooks
namespace Go.Proofs.Ytinonkakpgiblaa.Nam
open Go.RowKit Go.Proofs.YtinonkakpgiblaaW.PrintWords Go.Proofs.YtinonkakpgiblaaW.PrintLast Go.Proofs.Ytinonkakpgiblaa.Base Go.Proofs.Ytinonkakpgiblaa.Pack Go.Maps Go.Shelf Go.Sort
set_option linter.unusedVariables false
set_option linter.unusedSimpArgs false

abbrev DC := ByteArray × Int × Option Addr × Nat × Nat
def denc (x : DC) : List Value := [.string x.1, .int .i64 x.2.1, .slice x.2.2.1 x.2.2.2.1 x.2.2.2.2]
def dlt (x y : ByteArray) : Bool := Op.bytesLess x.toList y.toList
def dcf (x y : DC) : Int := if dlt x.1 y.1 = true then -1 else 1
set_option maxRecDepth 100000 in
set_option maxHeartbeats 1000000 in
theorem cmp_any (x y : DC) (w : World) : Calls Try.prog 42 #[.agg (denc x).toArray, .agg (denc y).toArray] w fun e w' => e = .returned (.int .i64 (dcf x y)) ∧ w' = (w.alloc (.cells (denc x).toArray 36)).alloc (.cells (denc y).toArray 36) := by
  unfold denc dcf dlt
  cases h : Op.bytesLess x.1.toList y.1.toList with
  | true =>
    go_enter Try.func42, Try.ntmps42
    go_wp2
    go_ret
    exact ⟨rfl, rfl⟩
  | false =>
    go_enter Try.func42, Try.ntmps42
    go_wp2
    go_ret
    exact ⟨rfl, rfl⟩
theorem ltOf_dcf (x y : DC) : ltOf dcf x y = dlt x.1 y.1 := by
  unfold ltOf dcf
  cases dlt x.1 y.1 <;> simp
theorem dlt_eq (x y : ByteArray) : dlt x y = ltStr x.toList y.toList := bytesLess_eq _ _
theorem dlt_irrefl (x : ByteArray) : dlt x x = false := by rw [dlt_eq]; exact swo_ltStr.irrefl _
theorem dlt_trans (x y z : ByteArray) (h1 : dlt x y = true) (h2 : dlt y z = true) : dlt x z = true := by rw [dlt_eq] at *; exact swo_ltStr.trans _ _ _ h1 h2
theorem dlt_total (x y : ByteArray) (h1 : dlt x y = false) (h2 : dlt y x = false) : x = y := by
  rw [dlt_eq] at *
  simp only [ltStr, decide_eq_false_iff_not, List.not_lt] at h1 h2
  have h3 := List.le_antisymm h2 h1
  rw [ByteArray.toList_eq, ByteArray.toList_eq] at h3
  cases x
  cases y
  exact congrArg ByteArray.mk (Array.toList_inj.1 h3)
theorem swo_dcf : SWO (ltOf dcf) where
  irrefl x := by rw [ltOf_dcf]; exact dlt_irrefl _
  trans x y z h1 h2 := by rw [ltOf_dcf] at *; exact dlt_trans _ _ _ h1 h2
  ntrans x y z h1 h2 := by rw [ltOf_dcf, dlt_eq] at *; exact swo_ltStr.ntrans _ _ _ h1 h2
theorem cmp_lays (blk off size : Nat) (w : World) : CmpLays Try.prog 42 #[] denc 3 dcf blk off size w := fun m os dk hs x y =>
  by
  refine (cmp_any x y _).mono ?_
  rintro e w' ⟨rfl, rfl⟩
  exact ⟨rfl, 0, _, by rw [alloc_eq_grow, alloc_eq_grow, grow_grow]; rfl⟩
/-! ### Rows -/
def DepV.x (d : DepV) : ByteArray × (Int × List ByteArray) := (d.out, (d.time, d.deps))
def kdep : Kd (ByteArray × (Int × List ByteArray)) := Kd.pair Kd.string (Kd.pair (Kd.int .i64) (Kd.slice 9 Kd.string))
theorem kdep_M {w : World} {base : Nat} {ok : Nat → Prop} {d : DepV} {vd : Value} (h : Kd.string.R 9 w base ok vd d.deps) : kdep.M w base ok d.x [.string d.out, .int .i64 d.time, vd] :=
  ⟨[.string d.out], [.int .i64 d.time, vd], rfl, rfl, [.int .i64 d.time], [vd], rfl, rfl, vd, rfl, h⟩
theorem kdep_cells {w : World} {base : Nat} {ok : Nat → Prop} {d : DepV} {cs : List Value} (h : kdep.M w base ok d.x cs) : ∃ x : DC, cs = denc x ∧ x.1 = d.out := by
  obtain ⟨c0, c1, rfl, e0, c2, c3, rfl, e2, vd, e3, hR⟩ := h
  have e0 : c0 = [.string d.out] := e0
  have e2 : c2 = [.int .i64 d.time] := e2
  have e3 : c3 = [vd] := e3
  obtain ⟨A, c, ev⟩ := Kd.R_slice hR
  subst ev e0 e2 e3
  exact ⟨(d.out, d.time, A, _, c), rfl, rfl⟩
/-- A row of what was found, of the call's own. -/
def Dr (base : Nat) (w : World) (v : Value) (l : List DepV) : Prop := kdep.R 36 w base (fun _ => True) v (l.map DepV.x)
theorem Dr.below {base : Nat} {w w1 : World} {v : Value} {l : List DepV} (h : Dr base w v l) (hb : Below w.heap.size w w1) : Dr base w1 v l := Kd.R_below h hb
theorem Dr.lower {base base' : Nat} {w : World} {v : Value} {l : List DepV} (h : Dr base w v l) (hb : base' ≤ base) : Dr base' w v l := Kd.R_lower h hb
theorem dr_nil (base : Nat) (w : World) : Dr base w (.slice none 0 0) [] := Kd.R_nil _ _ _ _ _
theorem Dr.slice {base : Nat} {w : World} {v : Value} {l : List DepV} (h : Dr base w v l) : ∃ A c, v = .slice A l.length c := by
  obtain ⟨A, c, e⟩ := Kd.R_slice h
  rw [List.length_map] at e
  exact ⟨A, c, e⟩
/-- append(v, d), as a step. -/
theorem app_dep_step {ops : Array Oper} {o : Oper} {a : Act} {Q : Exit → Act → World → Prop} {K : Act → World → Prop} {E : Prop} {w0 W : World} (base : Nat) (hgd : o.guard = none) (s x : Operand)
    (ho : o.op = .call { callee := .builtin .append, args := #[s, x], argTypes := #[49, 49] })
    (v : Value) (l : List DepV) (d : DepV) (vd : Value) (hs : a.eval s = v) (hx : a.eval x = .slice (some ⟨W.heap.size, 0, none⟩) 1 1)
    (HO : Dr base W v l) (HD : Kd.string.R 9 W base (fun _ => True) vd d.deps) (HB : Below base w0 W) (hbase : base ≤ W.heap.size) (hl : (l.length + 1) * 48 ≤ 140737488355328)
    (h : ∀ v1 w1, Dr base w1 v1 (l ++ [d]) → Below base w0 w1 → W.grownBy w1 v.ownBlock → K (a.put o.dst v1) w1) :
    if Region.wanted o (yielded ops a.tmps) = true then Oper.wp Try.prog o a (W.alloc (.cells #[.string d.out, .int .i64 d.time, vd] 36)) K Q else E := by
  have hw : Region.wanted o (yielded ops a.tmps) = true := by simp [Region.wanted, hgd]
  have hM := kdep_M (Kd.R_apart' HD (Kd.R_typed HO) (by decide))
  have hK := Kd.R_append_step kdep (P := Try.prog) (Kc := K) (Q := Q) (ops := ops) (o := o) (a := a) (w0 := w0) (W := W) base hw s x 49 36 (.agg #[.string ⟨#[]⟩, .int .i64 0, .slice none 0 0]) 48 ho Try.underlying49 (by kernel_rfl) rfl (by decide) (by decide) v (l.map DepV.x) d.x _ (fun _ => True) _ hs hx hM (fun k hk => hk) (fun _ _ => trivial) HO HB hbase (by rw [List.length_map]; exact hl) (fun v1 w1 h1 h2 h3 _ => h v1 w1 (by unfold Dr; rw [List.map_append]; exact h1) h2 h3)
  rw [if_pos hw] at hK ⊢
  exact hK
/-! ### The row, sorted -/
theorem reps_of {α β : Type} [Inhabited β] {R : α → List Value → Prop} {enc : β → List Value} {sz : Nat} : ∀ {ps : List α} {cs : List Value}, Reps R sz ps cs → (∀ p c, R p c → ∃ x, c = enc x) → ∃ z : List (α × β), z.map (·.1) = ps ∧ (∀ q ∈ z, R q.1 (enc q.2)) ∧ Reps (fun (q : α × β) c => c = enc q.2) sz z cs
  | ps, cs, h, hc => by
    classical
    obtain ⟨h1, h2⟩ := h
    have key : ∀ j : Nat, ∃ x : β, ∀ p, ps[j]? = some p → (cs.drop (j * sz)).take sz = enc x ∧ R p (enc x) := fun j => by
      cases hp : ps[j]? with
      | none => exact ⟨default, fun p e => by cases e⟩
      | some p =>
        have h3 := h2 j p hp
        obtain ⟨x, hx⟩ := hc p _ h3
        exact ⟨x, fun q e => by cases e; exact ⟨hx, hx ▸ h3⟩⟩
    obtain ⟨f, hf⟩ := Classical.axiomOfChoice key
    have hz : ∀ j : Nat, (ps.mapIdx fun j p => (p, f j))[j]? = (ps[j]?).map fun p => (p, f j) := fun j => by simp
    refine ⟨ps.mapIdx fun j p => (p, f j), ?_, ?_, ?_, ?_⟩
    · apply List.ext_getElem?
      intro j
      rw [List.getElem?_map, hz]
      cases ps[j]? <;> rfl
    · intro q hq
      obtain ⟨j, hj⟩ := List.mem_iff_getElem?.1 hq
      rw [hz] at hj
      cases hp : ps[j]? with
      | none => rw [hp] at hj; cases hj
      | some p =>
        rw [hp] at hj
        cases hj
        exact (hf j p hp).2
    · rw [h1]; simp
    · intro j q hq
      rw [hz] at hq
      cases hp : ps[j]? with
      | none => rw [hp] at hq; cases hq
      | some p =>
        rw [hp] at hq
        cases hq
        exact (hf j p hp).1
theorem perm_lift {α β : Type} {f : α → β} {xs ys : List β} (h : xs.Perm ys) : ∀ z : List α, z.map f = ys → ∃ z' : List α, z'.Perm z ∧ z'.map f = xs := by
  induction h with
  | nil => exact fun z hz => ⟨z, List.Perm.refl _, hz⟩
  | cons x _ ih =>
    intro z hz
    cases z with
    | nil => cases hz
    | cons a z =>
      rw [List.map_cons] at hz
      injection hz with h1 h2
      obtain ⟨z', h3, h4⟩ := ih z h2
      exact ⟨a :: z', h3.cons a, by rw [List.map_cons, h1, h4]⟩
  | swap x y l =>
    intro z hz
    match z, hz with
    | a :: b :: z, hz =>
      simp only [List.map_cons, List.cons.injEq] at hz
      exact ⟨b :: a :: z, List.Perm.swap _ _ _, by simp [hz.1, hz.2.1, hz.2.2]⟩
  | trans _ _ ih1 ih2 =>
    intro z hz
    obtain ⟨z1, h1, h2⟩ := ih2 z hz
    obtain ⟨z2, h3, h4⟩ := ih1 z1 h2
    exact ⟨z2, h3.trans h1, h4⟩
theorem flat_of {β : Type} [Inhabited β] {enc : β → List Value} {sz : Nat} (hsz : 0 < sz) (hk : ∀ x, (enc x).length = sz) {ds : List β} {cs : List Value} (h : Reps (fun (x : β) c => c = enc x) sz ds cs) : cs = (flatK enc sz ds.toArray).toList := by
  apply List.ext_getElem
  · rw [h.1]; simp
  · intro t ht ht2
    have hn : t < ds.length * sz := by rw [← h.1]; exact ht
    have hq : t / sz < ds.length := Nat.div_lt_of_lt_mul (by rw [Nat.mul_comm]; exact hn)
    have hr : t % sz < sz := Nat.mod_lt _ hsz
    have h1 : (cs.drop (t / sz * sz)).take sz = enc ds[t / sz] := h.2 (t / sz) ds[t / sz] (List.getElem?_eq_getElem hq)
    have h2 := get_flatK enc sz ds.toArray t (by simpa using hn)
    have ht3 : t < (flatK enc sz ds.toArray).size := by simpa using hn
    rw [show (flatK enc sz ds.toArray).toList[t] = (flatK enc sz ds.toArray)[t] from rfl, ← getElem!_pos (flatK enc sz ds.toArray) t ht3, h2]
    have h3 : ds.toArray[t / sz]! = ds[t / sz] := by rw [getElem!_pos ds.toArray (t / sz) (by simpa using hq)]; simp
    rw [h3, ← h1]
    have h4 : t % sz < ((cs.drop (t / sz * sz)).take sz).length := by rw [h1, hk]; exact hr
    rw [getElem!_pos ((cs.drop (t / sz * sz)).take sz) _ h4, List.getElem_take, List.getElem_drop]
    congr 1
    rw [Nat.mul_comm]
    exact (Nat.div_add_mod t sz).symm
theorem flat_reps {β : Type} [Inhabited β] {enc : β → List Value} {sz : Nat} (hsz : 0 < sz) (hk : ∀ x, (enc x).length = sz) (ds : List β) : Reps (fun (x : β) c => c = enc x) sz ds (flatK enc sz ds.toArray).toList := by
  refine ⟨by simp, fun j x hj => ?_⟩
  obtain ⟨hj1, hj2⟩ := List.getElem?_eq_some_iff.1 hj
  have hn : j * sz + sz ≤ ds.length * sz := by
    have : (j + 1) * sz ≤ ds.length * sz := Nat.mul_le_mul_right _ hj1
    rw [Nat.add_mul, Nat.one_mul] at this
    exact this
  have hlen : (flatK enc sz ds.toArray).size = ds.length * sz := by simp
  apply List.ext_getElem
  · rw [List.length_take, List.length_drop, Array.length_toList, hlen, hk]; omega
  · intro r h1 h2
    rw [hk] at h2
    rw [List.getElem_take, List.getElem_drop, Array.getElem_toList, ← getElem!_pos (flatK enc sz ds.toArray) _ (by rw [hlen]; omega), get_flatK _ _ _ _ (by simp; omega)]
    have e1 : (j * sz + r) / sz = j := by rw [Nat.mul_comm, Nat.mul_add_div hsz, Nat.div_eq_of_lt h2]; rfl
    have e2 : (j * sz + r) % sz = r := by rw [Nat.mul_comm, Nat.mul_add_mod, Nat.mod_eq_of_lt h2]
    rw [e1, e2]
    have h3 : ds.toArray[j]! = x := by rw [getElem!_pos ds.toArray j (by simpa using hj1)]; simpa using hj2
    rw [h3, getElem!_pos (enc x) r (by rw [hk]; exact h2)]
theorem heap_put {w : World} {g n : Nat} {os : Array Obj} {cur : Array Value} {e : TypeId} {fr : Nat × Nat} (d : Array Value) (hb : w.heap[g]? = some (.cells cur e fr)) :
    (grow (putRow id (Sort.ahead w n) g 0 d) os).heap[g]? = some (.cells (putCells id 0 d cur) e fr) := by
  have hg : g < w.heap.size := (Array.getElem?_eq_some_iff.1 hb).1
  rw [heap_grow_old _ _ (by simpa using hg)]
  simp [putRow, mapBlock, Sort.ahead, Array.getElem?_modify, hb, onCells]
theorem grown_put {w : World} {g n : Nat} {os : Array Obj} (d : Array Value) : w.grownBy (grow (putRow id (Sort.ahead w n) g 0 d) os) (some g) := by
  refine ⟨rfl, rfl, rfl, by simp, fun k hk hne => ?_⟩
  rw [heap_grow_old _ _ (by simpa using hk)]
  have : g ≠ k := fun e => hne (by rw [e])
  simp [putRow, mapBlock, Sort.ahead, Array.getElem?_modify, this]
theorem take_put (cur : Array Value) (d : Array Value) (h : d.size ≤ cur.size) : (putCells id 0 d cur).toList.take d.size = d.toList := by
  apply List.ext_getElem?
  intro j
  by_cases hj : j < d.size
  · rw [List.getElem?_take_of_lt hj, Array.getElem?_toList]
    simp [putCells, hj, show j < cur.size by omega]
  · rw [List.getElem?_take_eq_none (by omega), List.getElem?_eq_none (by simp; omega)]
/-- By the output's name, no later one before an earlier one. -/
def DSorted (l : List DepV) : Prop := l.Pairwise fun a b => dlt b.out a.out = false
set_option maxHeartbeats 1000000 in
theorem sort_any (base : Nat) (v : Value) (l : List DepV) (w : World) (h : Dr base w v l) (hl : l.length ≤ 1000000) :
    Calls Try.prog 41 #[v, .func (.func 42) #[] #[]] w fun e w' => e = .returned (.tuple #[]) ∧ ∃ l', l'.Perm l ∧ DSorted l' ∧ Dr base w' v l' ∧ w.grownBy w' v.ownBlock := by
  obtain ⟨h0, inner, ⟨hlen, hrow⟩, hreps⟩ := h
  rcases hrow with ⟨rfl, hn⟩ | ⟨g, cap, cur, rfl, hg, hb, hc1, hc2, hc3, hc4⟩
  · have hl0 : l = [] := by cases l with
      | nil => rfl
      | cons => simp at hn
    subst hl0
    refine (AnyF.slices_SortFunc_none Try.sort41 none 0 _ w).mono ?_
    rintro e w' ⟨rfl, rfl⟩
    exact ⟨rfl, [], List.Perm.refl _, List.Pairwise.nil, dr_nil _ _, World.grownBy.refl _ _⟩
  · rw [List.length_map] at *
    have hc3 : cur.size = cap * 3 := hc3
    have hreps2 : Reps (fun (d : DepV) cs => kdep.M w base (fun k => True ∧ some k ≠ (Value.slice (some ⟨g, 0, none⟩) l.length cap).ownBlock) d.x cs) 3 l inner := by
      refine ⟨by rw [hreps.1, List.length_map]; rfl, fun j d hd => hreps.2 j d.x (by rw [List.getElem?_map, hd]; rfl)⟩
    obtain ⟨z, hz1, hz2, hz3⟩ := reps_of hreps2 (enc := denc) (fun d c hM => by obtain ⟨x, hx, _⟩ := kdep_cells hM; exact ⟨x, hx⟩)
    obtain ⟨ds, hds⟩ : ∃ ds, ds = z.map (·.2) := ⟨_, rfl⟩
    have hz4 : Reps (fun (x : DC) c => c = denc x) 3 ds inner := by
      refine ⟨by rw [hz3.1, hds, List.length_map], fun j x hx => ?_⟩
      rw [hds, List.getElem?_map] at hx
      cases hq : z[j]? with
      | none => rw [hq] at hx; cases hx
      | some q => rw [hq] at hx; cases hx; exact hz3.2 j q hq
    have hfl := flat_of (sz := 3) (by omega) (fun _ => rfl) hz4
    have hdl : ds.length = l.length := by rw [hds, List.length_map, ← hz1, List.length_map]
    have hH : HoldsK denc 3 w g 0 ds.toArray := by
      intro j hj
      rw [size_flatK] at hj
      refine ⟨?_, by simp [World.frozen?, hb]⟩
      have hj2 : j < l.length * 3 := by rw [← hdl]; simpa using hj
      have hj3 : j < cur.size := by rw [hc3]; exact Nat.lt_of_lt_of_le hj2 (Nat.mul_le_mul_right _ hc1)
      have h1 : (cur.toList.take (l.length * 3))[j]? = (flatK denc 3 ds.toArray).toList[j]? := by rw [← hfl]; exact congrArg (·[j]?) hc4
      rw [List.getElem?_take_of_lt hj2, Array.getElem?_toList, Array.getElem?_toList] at h1
      have hj4 : j < (flatK denc 3 ds.toArray).size := by rw [size_flatK]; exact hj
      simp only [World.cell?, hb, Nat.zero_add]
      simp only [Option.isSome_none, Bool.false_eq_true, if_false]
      rw [h1, getElem!_pos (flatK denc 3 ds.toArray) j hj4, Array.getElem?_eq_getElem hj4]
      rfl
    have hgl : g < w.heap.size := (Array.getElem?_eq_some_iff.1 hb).1
    have hS := AnyQ.slices_SortFunc Try.sort41 3 Try.isAgg36 Try.sizeOf36 denc (fun _ => rfl) (fun x v hv => by simp [denc] at hv; rcases hv with rfl | rfl | rfl <;> rfl) dcf swo_dcf 42 #[] g 0 cap ds.toArray w (enters_of Try.func42 (by kernel_rfl) rfl) (cmp_lays g 0 _ w) hH hgl (by simp; omega)
    rw [show ds.toArray.size = l.length from by simpa using hdl] at hS
    refine Calls.mono hS ?_
    rintro e w' ⟨rfl, d', n, os, hp, hs, rfl⟩
    obtain ⟨hp1, _, hp3⟩ := hp
    have hp1' : d'.size = l.length := by rw [hp1]; simpa using hdl
    have hperm : d'.toList.Perm ds := by
      have h2 := hp3
      rw [show d'.extract 0 l.length = d' from by rw [← hp1']; simp, show ds.toArray.extract 0 l.length = ds.toArray from by rw [← hdl]; simp] at h2
      exact h2
    obtain ⟨z', hz5, hz6⟩ := perm_lift hperm z hds.symm
    have hzl : z'.length = l.length := by rw [hz5.length_eq, ← hz1, List.length_map]
    have hgr : w.grownBy (sortWorldK denc 3 w g 0 n d' os) (some g) := grown_put _
    refine ⟨rfl, z'.map (·.1), by rw [← hz1]; exact hz5.map _, ?_, ?_, hgr⟩
    · unfold DSorted
      rw [List.pairwise_map, List.pairwise_iff_getElem]
      intro i j hi hj hij
      have h1 := hs i j (Nat.zero_le _) hij (by omega)
      rw [ltOf_dcf] at h1
      have e : ∀ i (hi : i < z'.length), d'[i]!.1 = z'[i].1.out := fun i hi => by
        have hi2 : i < d'.size := by omega
        have h2 : d'[i]! = z'[i].2 := by
          have h3 : d'.toList[i]? = (z'.map (·.2))[i]? := by rw [hz6]
          rw [List.getElem?_map, List.getElem?_eq_getElem hi, Array.getElem?_toList, Array.getElem?_eq_getElem hi2] at h3
          rw [getElem!_pos d' i hi2]
          simpa using h3
        obtain ⟨x, hx1, hx2⟩ := kdep_cells (hz2 z'[i] (hz5.mem_iff.1 (List.getElem_mem hi)))
        rw [h2, ← hx2]
        simp only [denc, List.cons.injEq, Value.string.injEq] at hx1
        exact hx1.1
      rw [e i hi, e j hj] at h1
      exact h1
    · have hrow2 : (sortWorldK denc 3 w g 0 n d' os).ownsRow base 36 3 (.slice (some ⟨g, 0, none⟩) l.length cap) l.length (flatK denc 3 d').toList := by
        refine ⟨by simp [hp1'], .inr ⟨g, cap, _, rfl, hg, heap_put _ hb, hc1, hc2, by rw [← hc3]; simp [putCells], ?_⟩⟩
        have h2 := take_put cur (flatK denc 3 d') (by rw [size_flatK, hp1', hc3]; exact Nat.mul_le_mul_right _ hc1)
        rw [size_flatK, hp1'] at h2
        exact h2
      unfold Dr
      refine ⟨fun _ _ => trivial, (flatK denc 3 d').toList, ?_, ?_⟩
      · rw [List.length_map, List.length_map, hzl]; exact hrow2
      · have hf2 := flat_reps (enc := denc) (sz := 3) (by omega) (fun _ => rfl) d'.toList
        refine ⟨by simp [hp1', hzl, kdep, Kd.pair, Kd.slice, Kd.scalar, Kd.string, Kd.int], fun j p hj => ?_⟩
        rw [List.getElem?_map, List.getElem?_map] at hj
        cases hq : z'[j]? with
        | none => rw [hq] at hj; cases hj
        | some q =>
          rw [hq] at hj
          cases hj
          have h3 : d'.toList[j]? = some q.2 := by rw [← hz6, List.getElem?_map, hq]; rfl
          have h4 := hf2.2 j q.2 h3
          have h5 := hz2 q (hz5.mem_iff.1 (List.mem_of_getElem? hq))
          have h6 : ((flatK denc 3 d').toList.drop (j * 3)).take 3 = denc q.2 := h4
          show kdep.M _ _ _ q.1.x (((flatK denc 3 d').toList.drop (j * 3)).take 3)
          rw [h6]
          exact Kd.M_grown h5 hgr (fun k hk => hk.2)
end Go.Proofs.Ytinonkakpgiblaa.Nam
