/- A run's times (a walk). -/
import Derived.Test.YtehndlafbbpofaaRunRows
namespace Go.Proofs.Ytehndlafbbpofaa.Run
open Go.RowKit Go.Proofs.YtehndlafbbpofaaW.PrintWords Go.Proofs.Ytehndlafbbpofaa.Base Go.Proofs.Ytehndlafbbpofaa.Pack
set_option linter.unusedVariables false
set_option linter.unusedSimpArgs false

theorem add_more (a : Addr) (i j : Nat) : (a.add i).add j = a.add (i + j) := Addr.add_add a i j
theorem second_cell {w : World} {a : Addr} {i : Nat} {u : Value} (h : w.cell? (a.add (i + 1)) = some u) : w.cell? ⟨(a.add i).block, (a.add i).off + 1, none⟩ = some u := by
  rw [← add_more] at h
  exact h
def timesOf (r : RunV) : List Int := [r.time, r.mark] ++ r.found ++ r.ins.map (·.2)
set_option maxRecDepth 100000 in
set_option maxHeartbeats 1600000 in
theorem times_any (v : Value) (r : RunV) (w : World) (h : RunIs w v r) (hi : r.ins.length ≤ 500) (hf : r.found.length ≤ 700) :
    Calls Try.prog 38 #[v] w fun e w' => ∃ v', e = .returned v' ∧ Oi w w' v' (timesOf r) := by
  obtain ⟨vi, vf, rfl, hI, hF⟩ := h
  obtain ⟨AI, cI, rfl, hcI, hmI⟩ := hI.len
  obtain ⟨AF, cF, rfl, hcF, hmF⟩ := hF.len
  have HI := Lib.hid hI
  have HF := Lib.hid hF
  obtain ⟨out, cmd, time, mark, ins, found⟩ := r
  simp only at hi hf hcI hmI hcF hmF HI HF
  clear hI hF
  have hb0 := below_alloc (Below.refl w.heap.size w) (.cells #[.string out, .string cmd, .int .i64 time, .int .i64 mark, .slice AI ins.length cI, .slice AF found.length cF] 33)
  obtain ⟨Wb, hWb⟩ : ∃ Wb, Wb = w.alloc (.cells #[.string out, .string cmd, .int .i64 time, .int .i64 mark, .slice AI ins.length cI, .slice AF found.length cF] 33) := ⟨_, rfl⟩
  have hsz : Wb.heap.size = w.heap.size + 1 := by rw [hWb]; simp
  have hbx : Wb.heap[w.heap.size]? = some (.cells #[.string out, .string cmd, .int .i64 time, .int .i64 mark, .slice AI ins.length cI, .slice AF found.length cF] 33 (0, 0)) := by rw [hWb]; exact blk_new w _
  rw [← hWb] at hb0
  have hl := Oi.lit (Below.refl Wb.heap.size Wb) [time, mark] (by simp)
  rw [hsz] at hl
  have HL := Lib.hid hl
  have HF1 := Lib.hid ((HF.out.below hb0).below (below_alloc (Below.refl _ _) (.cells (nums .i64 [time, mark]).toArray 3)))
  have HBX := Lib.hid hbx
  have HB0 := Lib.hid hb0
  have HSZ := Lib.hid hsz
  have HWB := Lib.hid hWb
  clear hl hbx hb0 hsz hWb
  go_enter Try.func38, Try.ntmps38
  go_wp2_with (at_builtin; refine Held.of ?_)
  rw [← HWB.out]
  refine app_nums rfl (.tmp 10) (.tmp 12) 23 rfl Try.underlying23 _ _ [time, mark] found rfl rfl HL.out HF1.out (by simp only [List.length_cons, List.length_nil]; omega) ?_
  intro v1 w1 o1 _
  obtain ⟨A1, n1, c1, rfl, hn1⟩ := o1.slice
  have O1 := Lib.hid o1
  have hbx : w1.heap[w.heap.size]? = some (.cells #[.string out, .string cmd, .int .i64 time, .int .i64 mark, .slice AI ins.length cI, .slice AF found.length cF] 33 (0, 0)) := (o1.below.block _ (by rw [HSZ.out]; omega)).trans HBX.out
  have q4 := blk_cell hbx 4
  clear hbx o1 hn1
  go_wp2
  go_loopw [3, 17] (fun vr i wr => ∃ k : Nat, k ≤ ins.length ∧ i = .int .i64 k ∧ Hid (Oi Wb wr vr ([time, mark] ++ found ++ (ins.take k).map (·.2)))) (fun _ i _ => ins.length - (intOf i).toNat)
  case atStart => exact ⟨0, by omega, rfl, by show Oi _ _ _ _; simpa using O1.out⟩
  case round =>
    obtain ⟨k, hk, rfl, HO⟩ := hrel
    by_cases l1 : k < ins.length
    · obtain ⟨ad, e1, q1, q2⟩ := HI.out.get k l1
      cases e1
      have hin : ins.take (k + 1) = ins.take k ++ [ins.getD k (ByteArray.empty, 0)] := by
        rw [List.take_add_one, List.getElem?_eq_getElem l1, List.getD_eq_getElem?_getD, List.getElem?_eq_getElem l1]; rfl
      have r1 := pw_cell_below HO.out.below (pw_cell_below HB0.out q1)
      have r2 := pw_cell_below HO.out.below (pw_cell_below HB0.out q2)
      have HIN := Lib.hid hin
      clear hin q1 q2 q4
      generalize ins.getD k (ByteArray.empty, 0) = pk at r1 r2 HIN
      obtain ⟨nm, tm⟩ := pk
      simp only at r1 r2
      have r3 := second_cell r2
      clear r2
      go_wp2_with (at_builtin; refine Held.of ?_)
      obtain ⟨wb, hwb⟩ : ∃ wb, wb = wr.alloc (.cells #[.string nm, .int .i64 tm] 50) := ⟨_, rfl⟩
      have hws : wr.heap.size + 1 = wb.heap.size := by rw [hwb]; simp
      have ho : Oi Wb wb u3 ([time, mark] ++ found ++ (ins.take k).map (·.2)) := HO.out.step (by rw [hwb]; exact below_alloc (Below.refl _ _) _)
      rw [← hwb, hws]
      have HO2 := Lib.hid ho
      clear ho hwb hws
      refine app_num rfl (.tmp 21) (.tmp 24) 23 rfl Try.underlying23 u3 ([time, mark] ++ found ++ (ins.take k).map (·.2)) tm rfl rfl HO2.out (by simp only [List.length_append, List.length_cons, List.length_nil, List.length_map, List.length_take]; omega) ?_
      intro v2 w2 o2 _
      have O2 := Lib.hid o2
      clear o2
      go_wp2
      go_roundw
      case rel =>
        refine ⟨k + 1, by omega, by go_num, ?_⟩
        show Oi _ _ _ _
        rw [HIN.out, List.map_append, List.map_cons, List.map_nil, ← List.append_assoc]
        exact O2.out
      case measure => simp [intOf]; omega
    · have hk2 : k = ins.length := by omega
      have HE : Hid (∃ A n c, u3 = .slice A n c) := by
        obtain ⟨A, n, c, e, _⟩ := HO.out.slice
        exact ⟨A, n, c, e⟩
      have HT : Hid (Oi w wr u3 (timesOf ⟨out, cmd, time, mark, ins, found⟩)) := by
        have h := HO.out
        rw [hk2, List.take_length] at h
        exact ⟨own_weaken h.own (by rw [HSZ.out]; omega), HB0.out.trans (h.below.mono (by rw [HSZ.out]; omega))⟩
      clear hk2 q4
      go_wp2
      go_ret
      exact ⟨_, rfl, HT.out⟩
end Go.Proofs.Ytehndlafbbpofaa.Run
