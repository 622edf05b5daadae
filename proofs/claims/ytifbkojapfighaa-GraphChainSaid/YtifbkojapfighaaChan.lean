/- Channels in the ordinary walk: a region that holds a send with room, or a select of one receive with a default. -/
import Derived.Test.YtifbkojapfighaaBase
import Derived.Conc.LoneCalls
import Derived.Conc.LoneSelect
namespace Go.Proofs.Ytifbkojapfighaa.Chan
open Go.RowKit Go.Conc
set_option linter.unusedVariables false
set_option linter.unusedSimpArgs false

/-- What is left of a region, from some of its operations on. -/
def RW (P : Program) (ops : Array Oper) (l : List Nat) (Q : Exit → Act → World → Prop) (a : Act) (w : World) : Prop :=
  ∀ (b : Frame) (k : List Item) (cs : List Frame), ∃ e a' w', Q e a' w' ∧ Arrives P (lone (b.at a (.inRegion ops l :: k)) cs w) b k cs e a' w'
section
variable {P : Program} {ops : Array Oper} {l : List Nat} {i : Nat} {o : Oper} {Q : Exit → Act → World → Prop} {a : Act} {w w' : World}
theorem RW.region {id : Nat} (h : RW P ops (List.range ops.size) Q a w) : (Code.region id ops false).wp P Q a w :=
  fun b k cs => let ⟨e, a', w', q, r⟩ := h b k cs; ⟨e, a', w', q, .of_steps (.one step_region) r⟩
theorem RW.done (h : Q .normal a w) : RW P ops [] Q a w := fun b k cs => ⟨.normal, a, w, h, .one step_region_end⟩
theorem RW.head {a₁ : Act} {w₁ : World} (hs : ∀ (b : Frame) (k : List Item) (cs : List Frame), step P (lone (b.at a (.inRegion ops (i :: l) :: k)) cs w) = .next (lone (b.at a₁ (.inRegion ops l :: k)) cs w₁)) (h : RW P ops l Q a₁ w₁) : RW P ops (i :: l) Q a w :=
  fun b k cs => let ⟨e, a', w', q, r⟩ := h b k cs; ⟨e, a', w', q, .of_steps (.one (hs b k cs)) r⟩
theorem finish_eq {b : Frame} {k : List Item} (ho : ops[i]? = some o) (v : Value) : (b.at a (.inRegion ops (i :: l) :: k)).finish v = b.at (a.put o.dst v) (.inRegion ops l :: k) := by rw [Frame.finish_at, ho]; rfl
theorem RW.value {v : Value} (ho : ops[i]? = some o) (hg : o.guard = none) (hr : (execOp a.eval o).run P w = .ok (.value v) w') (h : RW P ops l Q (a.put o.dst v) w') : RW P ops (i :: l) Q a w := by
  refine RW.head (fun b k cs => step_lone_go ?_) h
  have hw : Region.wanted o (yielded ops a.tmps) = true := by simp [Region.wanted, hg]
  rw [stepG_op ho hw, ← finish_eq ho]
  simp [stepG.apply, hr]
theorem stepG_comm_any {b : Frame} {k : List Item} {cs : List Frame} {cases : Array CommCase} {blocking : Bool} {shape : CommShape} (ho : ops[i]? = some o) (hg : o.guard = none) (hr : (execOp a.eval o).run P w = .ok (.comm cases blocking shape) w') :
    ∃ es, stepG P true (G (b.at a (.inRegion ops (i :: l) :: k)) cs) w = .comm (G (b.at a (.inRegion ops (i :: l) :: k)) cs) cases blocking shape w' es := by
  have hw : Region.wanted o (yielded ops a.tmps) = true := by simp [Region.wanted, hg]
  rw [stepG_oper ho hw]
  simp only [stepG.apply, Sem.runT_eq, if_true, hr, GStep.after, G]
  exact ⟨_, rfl⟩
/-- A send into a buffer with room. -/
theorem RW.send {c cap s r : Nat} {buf : Array Value} {v z : Value} (ho : ops[i]? = some o) (hg : o.guard = none) (hr : (execOp a.eval o).run P w = .ok (.comm #[scase c v z] true .send) w) (hc : w.heap[c]? = some (.chan cap buf false s r false)) (hroom : buf.size < cap)
    (h : RW P ops l Q (a.put o.dst undef) (w.setChan c cap (buf.push v) false (s + 1) r false)) : RW P ops (i :: l) Q a w := by
  refine RW.head (fun b k cs => ?_) h
  obtain ⟨es, he⟩ := stepG_comm_any (b := b) (k := k) (cs := cs) (l := l) ho hg hr
  rw [← finish_eq ho]
  exact step_lone_send_room he hc hroom
/-- A select of one receive with a default: something lies in the buffer. -/
theorem RW.recv {c cap s r : Nat} {buf : Array Value} {z : Value} (ho : ops[i]? = some o) (hg : o.guard = none) (hr : (execOp a.eval o).run P w = .ok (.comm #[rcase c z] false .select) w) (hc : w.heap[c]? = some (.chan cap buf false s r false)) (hsome : 0 < buf.size)
    (h : RW P ops l Q (a.put o.dst (.tuple #[goInt 0, .bool true, buf.getD 0 undef])) (w.setChan c cap (buf.extract 1 buf.size) false s (r + 1) false)) : RW P ops (i :: l) Q a w := by
  refine RW.head (fun b k cs => ?_) h
  obtain ⟨es, he⟩ := stepG_comm_any (b := b) (k := k) (cs := cs) (l := l) ho hg hr
  rw [← finish_eq ho]
  exact step_lone_select_recv_buf he hc hsome
/-- .. and nothing lies in it: the default. -/
theorem RW.none_ {c cap s r : Nat} {z : Value} (ho : ops[i]? = some o) (hg : o.guard = none) (hr : (execOp a.eval o).run P w = .ok (.comm #[rcase c z] false .select) w) (hc : w.heap[c]? = some (.chan cap #[] false s r false))
    (h : RW P ops l Q (a.put o.dst (.tuple #[goInt (-1), .bool false, z])) w) : RW P ops (i :: l) Q a w := by
  refine RW.head (fun b k cs => ?_) h
  obtain ⟨es, he⟩ := stepG_comm_any (b := b) (k := k) (cs := cs) (l := l) ho hg hr
  rw [← finish_eq ho]
  exact step_lone_select_default he hc
end
end Go.Proofs.Ytifbkojapfighaa.Chan
