import Derived.Test.YtcgihjpnemnkeaaIns0
set_option linter.unusedVariables false
set_option linter.unusedSimpArgs false
namespace Go.Proofs.YtcgihjpnemnkeaaIns
open Go.RowKit Go.Lib
variable {P : Program}

theorem wpList_copy_runN (w : World) {ops : Array Oper} {rest : List Oper} {o : Oper} {a : Act} {Q : Exit → Act → World → Prop} (hgd : o.guard = none) (d s : Operand) (t t' : TypeId)
    (ho : o.op = .call { callee := .builtin .copy, args := #[d, s], argTypes := #[t, t'] }) (v u : Value) (hd : a.eval d = v) (hs : a.eval s = u) {v' : Value} {w' : World}
    (hr : (Builtin.copy_ #[t, t'] o.type #[v, u]).run P w = .ok v' w') (h : wpList P ops Q rest (a.put o.dst v') w') : wpList P ops Q (o :: rest) a w :=
  wpList_plain hgd fun _ hK => by
    unfold Oper.wp execOp
    simp only [ho, resolve, invoke, builtin, Sem.run_bind, Sem.run_pure, Result.andThen_ok, List.map_toArray, List.map_cons, List.map_nil, hd, hs, hr]
    exact hK _ _ h

theorem step_copy_runN {ops : Array Oper} {o : Oper} {a : Act} {w : World} {K : Act → World → Prop} {Q : Exit → Act → World → Prop} {E : Prop}
    (hg : o.guard = none) (d x : Operand) (dT sT : TypeId) (hop : o.op = Op.call { callee := Callee.builtin Builtin.copy, args := #[d, x], argTypes := #[dT, sT] })
    (v u : Value) (hd : a.eval d = v) (hx : a.eval x = u) {v' : Value} {w' : World} (hr : (Builtin.copy_ #[dT, sT] o.type #[v, u]).run P w = .ok v' w') (hK : K (a.put o.dst v') w') :
    if Region.wanted o (yielded ops a.tmps) = true then Oper.wp P o a w K Q else E := by
  have hw : Region.wanted o (yielded ops a.tmps) = true := by simp [Region.wanted, hg]
  rw [if_pos hw]
  unfold Oper.wp
  simp [execOp, hop, resolve, invoke, builtin, hd, hx, hr, Result.andThen]
  exact hK

theorem sz33 : (Try.prog.info? 33).map (·.size) = some 3 := by kernel_rfl
theorem cells33 : Try.prog.cellsOf 33 = 3 := by kernel_rfl
theorem sizeOf33 (w : World) : (Go.sizeOf 33).run Try.prog w = .ok 3 w := by kernel_rfl

theorem drew_setRow (w : World) (g : Nat) (cs : Array Value) : (w.setRow g cs).drew = w.drew.setRow g cs := rfl
theorem getD_cell {w : World} {g : Nat} {cur : Array Value} {t : TypeId} (hg : w.heap[g]? = some (.cells cur t (0, 0))) (k : Nat) : w.cell? ⟨g, k, none⟩ = cur[k]? := by simp [World.cell?, hg]

set_option maxHeartbeats 4000000 in
set_option maxRecDepth 100000 in
/-- slices.Insert of one extent ahead of another one, where there is room: in place. -/
theorem insert_shift (g n c i vb vc : Nat) (cur : Array Value) (xs vs : List Value) (w : World) (hi : i < n) (hroom : n + 1 ≤ c) (hc63 : c ≤ 9223372036854775807) (hne : vb ≠ g)
    (hg : w.heap[g]? = some (.cells cur 33 (0, 0))) (hcs : cur.size = c * 3) (hxs : cur.toList.take (n * 3) = xs) (hv : w.heap[vb]? = some (.cells vs.toArray 33 (0, 0))) (hvl : vs.length = 3) (h1x : ∀ v ∈ xs, v.oneCell' = true) (h1v : ∀ v ∈ vs, v.oneCell' = true) :
    Calls Try.prog 38 #[.slice (some ⟨g, 0, none⟩) n c, .int .i64 i, .slice (some ⟨vb, 0, none⟩) 1 vc] w fun e w' =>
      e = .returned (.slice (some ⟨g, 0, none⟩) (n + 1) c) ∧ ∃ cur' : Array Value, cur'.size = c * 3 ∧ cur'.toList.take ((n + 1) * 3) = xs.take (i * 3) ++ vs ++ xs.drop (i * 3) ∧ w' = w.drew.setRow g cur' := by
  have hov : ∀ lb cb, (callFunc 46 #[.slice (some ⟨vb, 0, none⟩) 1 vc, .slice (some ⟨g, (i + 1) * 3, none⟩) lb cb]).run Try.prog w = .ok (.value (.bool false)) w := fun lb cb => by
    rw [run_callFunc_extern Try.func46 (by kernel_rfl) (by kernel_rfl) (by kernel_rfl) (e := Extern.SlicesOverlaps.overlaps #[22, 22] #[4]) (by kernel_rfl),
      Lib.run_overlaps_apart w 22 4 33 Try.underlying22 3 sizeOf33 ⟨vb, 0, none⟩ ⟨g, (i + 1) * 3, none⟩ 1 vc lb cb hne 33 33 3 (c * 3) (by simp [World.shape?, hv, hvl]) (by simp [World.shape?, hg, hcs]) (by omega) (by simp [World.frozen?, hv]) (by simp [World.frozen?, hv])]
    rfl
  have hxl : xs.length = n * 3 := by rw [← hxs]; simp; omega
  have hdl : (xs.drop (i * 3)).length = (n - i) * 3 := by rw [List.length_drop, hxl]; omega
  have hcur : ∀ j, j < n * 3 → cur[j]? = xs[j]? := fun j hj => by rw [← hxs, List.getElem?_take, if_pos hj]; simp
  obtain ⟨C1, hC1⟩ : ∃ C1, C1 = (cur.toList.take ((i + 1) * 3) ++ xs.drop (i * 3) ++ cur.toList.drop ((i + 1) * 3 + (xs.drop (i * 3)).length)).toArray := ⟨_, rfl⟩
  have hC1s : C1.size = c * 3 := by rw [hC1]; simp; omega
  have hcp1 : ∀ ty dc sc, (Builtin.copy_ #[22, 22] ty #[.slice (some ⟨g, (i + 1) * 3, none⟩) (n - i) dc, .slice (some ⟨g, i * 3, none⟩) (n + 1 - i) sc]).run Try.prog w.drew = .ok (goInt (Nat.min (n + 1 - i) (n - i))) (w.drew.setRow g C1) := fun ty dc sc => by
    rw [hC1]
    exact run_copy_rowN w.drew 22 22 ty 33 g ((i + 1) * 3) (n - i) dc ⟨g, i * 3, none⟩ (n + 1 - i) sc cur 33 (xs.drop (i * 3)) 3 Try.underlying22 sz33 hg (by rw [hdl, show (n + 1 - i).min (n - i) = n - i from Nat.min_eq_right (by omega)])
      (fun j v hj => by
        rw [List.getElem?_drop] at hj
        have hlt := (List.getElem?_eq_some_iff.1 hj).1
        rw [show (⟨g, i * 3, none⟩ : Addr).add j = ⟨g, i * 3 + j, none⟩ by unfold Addr.add; split <;> simp_all]
        rw [getD_cell (w := w.drew) hg, hcur _ (by omega)]
        exact hj)
      (by rw [hdl]; omega) (fun v hv => h1x v (List.mem_of_mem_drop hv))
  obtain ⟨C2, hC2⟩ : ∃ C2, C2 = (C1.toList.take (i * 3) ++ vs ++ C1.toList.drop (i * 3 + vs.length)).toArray := ⟨_, rfl⟩
  have hC2s : C2.size = c * 3 := by rw [hC2]; simp; omega
  obtain ⟨W1, hW1⟩ : ∃ W1, W1 = w.drew.setRow g C1 := ⟨_, rfl⟩
  have hW1g : W1.heap[g]? = some (.cells C1 33 (0, 0)) := by rw [hW1]; exact setRow_heap w.drew g cur C1 33 (0, 0) hg
  have hW1v : W1.heap[vb]? = some (.cells vs.toArray 33 (0, 0)) := by rw [hW1, setRow_other w.drew g vb C1 hne]; exact hv
  have hcp2 : ∀ ty dc, (Builtin.copy_ #[22, 22] ty #[.slice (some ⟨g, i * 3, none⟩) (n + 1 - i) dc, .slice (some ⟨vb, 0, none⟩) 1 vc]).run Try.prog W1 = .ok (goInt (Nat.min 1 (n + 1 - i))) (W1.setRow g C2) := fun ty dc => by
    rw [hC2]
    exact run_copy_rowN W1 22 22 ty 33 g (i * 3) (n + 1 - i) dc ⟨vb, 0, none⟩ 1 vc C1 33 vs 3 Try.underlying22 sz33 hW1g (by rw [hvl, show Nat.min 1 (n + 1 - i) = 1 from Nat.min_eq_left (by omega)])
      (fun j v hj => by
        rw [show (⟨vb, 0, none⟩ : Addr).add j = ⟨vb, j, none⟩ by unfold Addr.add; split <;> simp_all]
        rw [getD_cell hW1v]
        simpa using hj)
      (by rw [hvl, hC1s]; omega) h1v
  have hend : C2.toList.take ((n + 1) * 3) = xs.take (i * 3) ++ vs ++ xs.drop (i * 3) := by
    have hct : cur.toList.length = c * 3 := by simpa using hcs
    have hx1 : cur.toList.take (i * 3) = xs.take (i * 3) := by rw [← hxs, List.take_take, Nat.min_eq_left (by omega)]
    have hC1l : C1.toList = cur.toList.take ((i + 1) * 3) ++ xs.drop (i * 3) ++ cur.toList.drop ((i + 1) * 3 + (xs.drop (i * 3)).length) := by rw [hC1]
    have e1 : C1.toList.take (i * 3) = xs.take (i * 3) := by
      rw [hC1l, List.append_assoc, List.take_append_of_le_length (by simp; omega), List.take_take, Nat.min_eq_left (by omega), hx1]
    have e2 : C1.toList.drop (i * 3 + vs.length) = xs.drop (i * 3) ++ cur.toList.drop ((i + 1) * 3 + (xs.drop (i * 3)).length) := by
      rw [hC1l, List.append_assoc, hvl, show i * 3 + 3 = (cur.toList.take ((i + 1) * 3)).length by simp; omega, List.drop_left]
    rw [hC2]
    simp only [e1, e2]
    have e3 : ((n + 1) * 3) = (xs.take (i * 3) ++ vs ++ xs.drop (i * 3)).length := by simp; omega
    rw [e3, ← List.append_assoc, List.take_left]
  subst hW1
  have hw1 : IntKind.i64.wrap ((i : Int) + 1) = (i : Int) + 1 := by rw [IntKind.wrap_i64]; omega
  have hw2 : IntKind.i64.wrap ((n : Int) + 1) = (n : Int) + 1 := by rw [IntKind.wrap_i64]; omega
  have hz2 : ¬ ((i : Int) = (n : Int)) := by omega
  have hb1 : (0 : Int) ≤ (i : Int) + 1 := by omega
  have htn : ((i : Int) + 1).toNat = i + 1 := by omega
  have hb2 : ¬ (c = i + 1) := by omega
  have hb3 : (i : Int) ≤ (n : Int) + 1 := by omega
  have hb4 : ¬ (c = i) := by omega
  have hin : i ≤ n := by omega
  have hu33 := Try.underlying33
  have hu22 := Try.underlying22
  have hc33 := cells33
  clear hg hv hcs hxs hvl hcur hC1 hC2 hW1g hW1v hC1s hxl hdl
  have HE := Lib.hid hend
  have HS := Lib.hid hC2s
  clear hend hC2s
  go_enter Try.func38, Try.ntmps38
  go_wp2_with (simp only [hov])
  go_region_law (refine step_copy_runN rfl _ _ 22 22 rfl _ _ (by simp [Act.eval, Act.put]) (by simp [Act.eval, Act.put]) (hcp1 _ _ _) ?_)
  go_wp2_with (at_builtin; refine wpList_copy_runN _ rfl _ _ 22 22 rfl _ _ rfl rfl (hcp2 _ _) ?_)
  go_ret
  exact ⟨rfl, C2, HS.out, HE.out, by rw [setRow_setRow]⟩
end Go.Proofs.YtcgihjpnemnkeaaIns
