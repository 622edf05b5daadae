/- Manifests that are built of parts: what their cells read as. -/
import Derived.Test.YtifbkojapfighaaGrPlan
import Derived.Test.YtifbkojapfighaaGrNew
import Derived.Test.YtifbkojapfighaaGrNums
namespace Go.Proofs.Ytifbkojapfighaa.Gr
open Go.RowKit Go.Proofs.YtifbkojapfighaaW.PrintWords Go.Proofs.YtifbkojapfighaaW.PrintLast Go.Proofs.Ytifbkojapfighaa.Base Go.Maps
set_option linter.unusedVariables false
set_option linter.unusedSimpArgs false

/-- Blocks laid one behind the other. -/
def lay (w : World) (os : List Obj) : World := os.foldl World.alloc w
theorem lay_below (os : List Obj) : ∀ (w : World), Below w.heap.size w (lay w os) := by
  induction os with
  | nil => intro w; exact Below.refl _ _
  | cons o os ih =>
    intro w
    have h1 := below_alloc (Below.refl w.heap.size w) o
    exact h1.trans ((ih (w.alloc o)).mono h1.size)
theorem lay_get (os : List Obj) : ∀ (w : World) (i : Nat), i < os.length → (lay w os).heap[w.heap.size + i]? = os[i]? := by
  induction os with
  | nil => intro w i hi; cases hi
  | cons o os ih =>
    intro w i hi
    have hsz : (w.alloc o).heap.size = w.heap.size + 1 := by simp
    cases i with
    | zero =>
      have h2 := (lay_below os (w.alloc o)).block w.heap.size (by rw [hsz]; omega)
      show (lay (w.alloc o) os).heap[w.heap.size]? = some o
      rw [h2]
      exact heap_alloc_new w o
    | succ i =>
      have h := ih (w.alloc o) i (by simpa using hi)
      rw [hsz] at h
      show (lay (w.alloc o) os).heap[w.heap.size + (i + 1)]? = os[i]?
      rw [← h]
      congr 1
      omega
theorem str_at {W : World} {k : Nat} {s : ByteArray} {t : TypeId} (h : W.heap[k]? = some (.cells #[.string s] t (0, 0))) : Ss W (.slice (some ⟨k, 0, none⟩) 1 1) [s] :=
  ⟨_, _, rfl, Nat.le_refl _, (by decide : (1 : Nat) ≤ 9223372036854775807), fun _ => ⟨_, rfl, fun i hi => by
    have hi : i < 1 := hi
    obtain rfl : i = 0 := by omega
    exact blk_cell h 0⟩⟩
theorem str2_at {W : World} {k : Nat} {s s2 : ByteArray} {t : TypeId} (h : W.heap[k]? = some (.cells #[.string s, .string s2] t (0, 0))) : Ss W (.slice (some ⟨k, 0, none⟩) 2 2) [s, s2] :=
  ⟨_, _, rfl, Nat.le_refl _, (by decide : (2 : Nat) ≤ 9223372036854775807), fun _ => ⟨_, rfl, fun i hi => by
    have hi : i < 2 := hi
    have h2 : i = 0 ∨ i = 1 := by omega
    rcases h2 with rfl | rfl
    · exact blk_cell h 0
    · exact blk_cell h 1⟩⟩
theorem ints2_at {W : World} {k a b : Nat} {t : TypeId} (h : W.heap[k]? = some (.cells #[.int .i64 a, .int .i64 b] t (0, 0))) : Is W (.slice (some ⟨k, 0, none⟩) 2 2) [a, b] :=
  ⟨_, _, rfl, Nat.le_refl _, (by decide : (2 : Nat) ≤ 9223372036854775807), fun _ => ⟨_, rfl, fun i hi => by
    have hi : i < 2 := hi
    have h2 : i = 0 ∨ i = 1 := by omega
    rcases h2 with rfl | rfl
    · exact blk_cell h 0
    · exact blk_cell h 1⟩⟩
/-- An edge as its four rows. -/
def ecells (r : Value × Value × Value × Value) (e : EdgeV) : List Value := [r.1, r.2.1, r.2.2.1, r.2.2.2, .string e.cmd, .string e.dep]
theorem cells_at : ∀ (rs : List ((Value × Value × Value × Value) × EdgeV)) (i j : Nat) (p : (Value × Value × Value × Value) × EdgeV), rs[i]? = some p → j < 6 → (rs.flatMap fun p => ecells p.1 p.2)[i * 6 + j]? = (ecells p.1 p.2)[j]?
  | [], i, j, p, h, _ => by cases h
  | q :: rs, 0, j, p, h, hj => by
    obtain rfl : q = p := Option.some.inj h
    rw [List.flatMap_cons, List.getElem?_append_left (by show 0 * 6 + j < 6; omega), Nat.zero_mul, Nat.zero_add]
  | q :: rs, i + 1, j, p, h, hj => by
    have h1 := cells_at rs i j p h hj
    rw [List.flatMap_cons, List.getElem?_append_right (by show 6 ≤ (i + 1) * 6 + j; omega), ← h1]
    congr 1
    show (i + 1) * 6 + j - 6 = i * 6 + j
    omega
theorem ez_at {W : World} {k : Nat} {t : TypeId} (rs : List ((Value × Value × Value × Value) × EdgeV)) (cells : Array Value) (n : Nat) (es : List EdgeV) (hn : n = es.length) (hes : es = rs.map (·.2)) (hcs : cells.toList = rs.flatMap fun p => ecells p.1 p.2) (h : W.heap[k]? = some (.cells cells t (0, 0))) (hl : es.length ≤ 9223372036854775807)
    (hr : ∀ p ∈ rs, EdC W p.1.1 p.1.2.1 p.1.2.2.1 p.1.2.2.2 p.2) : Ez W (.slice (some ⟨k, 0, none⟩) n n) es := by
  refine ⟨_, _, by rw [hn], Nat.le_refl _, hl, fun _ => ⟨_, rfl, fun i hi => ?_⟩⟩
  have hi2 : i < rs.length := by rw [hes, List.length_map] at hi; exact hi
  have hp : rs[i]? = some rs[i] := List.getElem?_eq_getElem hi2
  have he : es.getD i zedge = rs[i].2 := by rw [hes, List.getD_eq_getElem?_getD, List.getElem?_map, hp]; rfl
  have hcell : ∀ j, j < 6 → W.cell? ⟨k, i * 6 + j, none⟩ = (ecells rs[i].1 rs[i].2)[j]? := fun j hj => by
    have h1 := blk_cell h (i * 6 + j)
    rw [h1, ← Array.getElem?_toList, hcs, cells_at rs i j _ hp hj]
  rw [he]
  have ha : (⟨k, 0, none⟩ : Addr).add (i * 6) = ⟨k, i * 6, none⟩ := by simp [Addr.add]; exact fun h => h.symm
  rw [ha]
  refine ⟨rs[i].1.1, rs[i].1.2.1, rs[i].1.2.2.1, rs[i].1.2.2.2, ?_, ?_, ?_, ?_, ?_, ?_, hr _ (List.getElem_mem hi2)⟩
  · exact hcell 0 (by decide)
  · exact hcell 1 (by decide)
  · exact hcell 2 (by decide)
  · exact hcell 3 (by decide)
  · exact hcell 4 (by decide)
  · exact hcell 5 (by decide)
/-- Small manifests, for the tests. -/
def tinyB (m : ManV) : Bool := decide (m.edges.length ≤ 100) && decide (m.defs.length ≤ 100) && (m.edges.all fun e => decide (e.outs.length ≤ 100) && decide (e.ins.length ≤ 100) && decide (e.imp.length ≤ 100) && decide (e.ord.length ≤ 100) && (e.outs.all fun s => decide (s.size ≤ 100000)) && (e.ins.all fun s => decide (s.size ≤ 100000)) && (e.imp.all fun s => decide (s.size ≤ 100000)) && (e.ord.all fun s => decide (s.size ≤ 100000)))
theorem sum_len {α β : Type} (f : α → List β) (c : Nat) (l : List α) (h : ∀ x ∈ l, (f x).length ≤ c) : ((l.map f).flatten).length ≤ l.length * c := by
  induction l with
  | nil => simp
  | cons a l ih =>
    have h1 := ih fun x hx => h x (.tail _ hx)
    have h2 := h a (.head _)
    simp only [List.map_cons, List.flatten_cons, List.length_append, List.length_cons, Nat.add_mul]
    omega
theorem tiny_small {m : ManV} (h : tinyB m = true) : SmallG m := by
  unfold tinyB at h
  simp only [Bool.and_eq_true, decide_eq_true_eq, List.all_eq_true] at h
  obtain ⟨⟨h1, h2⟩, h3⟩ := h
  refine ⟨⟨by omega, by omega, fun e he => ?_, fun e he s hs => ?_, ?_⟩, ?_⟩
  · obtain ⟨⟨⟨⟨⟨⟨⟨a, b⟩, c⟩, d⟩, _⟩, _⟩, _⟩, _⟩ := h3 e he
    exact ⟨by omega, by omega, by omega, by omega⟩
  · obtain ⟨⟨⟨⟨_, a⟩, b⟩, c⟩, d⟩ := h3 e he
    have hm : (100000 : Nat) ≤ maxLen := by decide
    unfold needsV at hs
    rw [List.mem_append, List.mem_append] at hs
    rcases hs with hs | (hs | hs) | hs
    · exact Nat.le_trans (a s hs) hm
    · exact Nat.le_trans (b s hs) hm
    · exact Nat.le_trans (c s hs) hm
    · exact Nat.le_trans (d s hs) hm
  · have := sum_len EdgeV.outs 100 m.edges fun e he => (h3 e he).1.1.1.1.1.1.1
    show ((m.edges.map EdgeV.outs).flatten).length ≤ _
    have h9 : m.edges.length * 100 ≤ 100 * 100 := Nat.mul_le_mul_right _ h1
    omega
  · have := sum_len needsV 300 m.edges fun e he => by
      obtain ⟨⟨⟨⟨⟨⟨⟨a, b⟩, c⟩, d⟩, _⟩, _⟩, _⟩, _⟩ := h3 e he
      unfold needsV
      simp only [List.length_append]
      omega
    unfold allNeeds
    have h9 : m.edges.length * 300 ≤ 100 * 300 := Nat.mul_le_mul_right _ h1
    omega
end Go.Proofs.Ytifbkojapfighaa.Gr
