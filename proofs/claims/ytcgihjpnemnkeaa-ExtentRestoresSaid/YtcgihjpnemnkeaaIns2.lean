import Derived.Test.YtcgihjpnemnkeaaIns1
set_option linter.unusedVariables false
set_option linter.unusedSimpArgs false
namespace Go.Proofs.YtcgihjpnemnkeaaIns
open Go.RowKit Go.Lib

theorem heap_new (w : World) (o : Obj) : (w.alloc o).heap[w.heap.size]? = some o := by unfold World.alloc; simp
theorem heap_old (w : World) (o : Obj) {k : Nat} (h : k < w.heap.size) : (w.alloc o).heap[k]? = w.heap[k]? := ((Below.refl w.heap.size w).alloc (Nat.le_refl _) o).block k h
theorem info33 : (Try.prog.info? 33).map (fun i => (i.zero, i.size, i.bytes)) = some (some (.agg #[(.int .i64 0), (.int .i64 0), (.int .i64 0)]), 3, 24) := by kernel_rfl
theorem zero_size (k : Nat) : (Builtin.zeroCells (Value.agg #[.int .i64 0, .int .i64 0, .int .i64 0]).cells k).size = k * 3 := by simp [Builtin.zeroCells, Value.cells]

set_option maxHeartbeats 4000000 in
set_option maxRecDepth 100000 in
/-- slices.Insert of one extent ahead of another one, where there is no room: a new row. -/
theorem insert_grow (g n c i vb vc : Nat) (cur : Array Value) (xs vs : List Value) (w : World) (hi : i < n) (hroom : c < n + 1) (hnc : n ≤ c) (hn9 : n ≤ 1000000000) (hgw : g < w.heap.size) (hvw : vb < w.heap.size)
    (hg : w.heap[g]? = some (.cells cur 33 (0, 0))) (hcs : cur.size = c * 3) (hxs : cur.toList.take (n * 3) = xs) (hv : w.heap[vb]? = some (.cells vs.toArray 33 (0, 0))) (hvl : vs.length = 3) (h1x : ∀ v ∈ xs, v.oneCell' = true) (h1v : ∀ v ∈ vs, v.oneCell' = true) :
    Calls Try.prog 38 #[.slice (some ⟨g, 0, none⟩) n c, .int .i64 i, .slice (some ⟨vb, 0, none⟩) 1 vc] w fun e w' =>
      ∃ G : Nat, n + 1 ≤ G ∧ G ≤ maxLen ∧ e = .returned (.slice (some ⟨w.heap.size, 0, none⟩) (n + 1) G) ∧ ∃ cur' : Array Value, cur'.size = G * 3 ∧ cur'.toList.take ((n + 1) * 3) = xs.take (i * 3) ++ vs ++ xs.drop (i * 3) ∧
        w'.heap[w.heap.size]? = some (.cells cur' 33 (0, 0)) ∧ Below w.heap.size w w' := by
  obtain ⟨i0, hi0, hz0, hzs, hzb⟩ := info_parts info33
  have hxl : xs.length = n * 3 := by rw [← hxs]; simp; omega
  have hdl : (xs.drop (i * 3)).length = (n - i) * 3 := by rw [List.length_drop, hxl]; omega
  have hcur : ∀ j, j < n * 3 → cur[j]? = xs[j]? := fun j hj => by rw [← hxs, List.getElem?_take, if_pos hj]; simp
  have hkk : (n : Int) + 1 - (i : Int) = ((n + 1 - i : Nat) : Int) := by omega
  have hik : i + (n + 1 - i) = n + 1 := by omega
  have hold : (Builtin.firstCells i0.size i (.slice (some ⟨g, 0, none⟩) i c)).run Try.prog w.drew = .ok (xs.take (i * 3)).toArray w.drew := by
    rw [hzs]
    exact run_firstCells_some w.drew 3 i ⟨g, 0, none⟩ i c (xs.take (i * 3)) (by rw [List.length_take]; omega) (fun j v hj => by
      rw [show (⟨g, 0, none⟩ : Addr).add j = ⟨g, j, none⟩ by unfold Addr.add; split <;> simp_all]
      rw [List.getElem?_take] at hj
      split at hj
      · rw [getD_cell (w := w.drew) hg, hcur _ (by omega)]
        exact hj
      · cases hj)
  have hrz : ∀ ty, (Builtin.append_ #[22, 3] ty #[.slice (some ⟨g, 0, none⟩) i c, .int .i64 ((n : Int) + 1 - (i : Int))]).run Try.prog w =
      .ok (.slice (some ⟨w.heap.size, 0, none⟩) (n + 1) (grownCap w (n + 1) c 33)) (w.drew.alloc (.cells ((xs.take (i * 3)).toArray ++ Builtin.zeroCells (Value.agg #[.int .i64 0, .int .i64 0, .int .i64 0]).cells (n + 1 - i) ++ Builtin.zeroCells (Value.agg #[.int .i64 0, .int .i64 0, .int .i64 0]).cells (grownCap w (n + 1) c 33 - (n + 1))) 33)) := fun ty => by
    have h := Lib.run_append_grow_zeros w 22 3 ty 33 i0 _ .i64 .i64 Try.underlying22 Try.underlying3 hi0 hz0 (some ⟨g, 0, none⟩) i c (xs.take (i * 3)) hold (n + 1 - i) (by omega) (by omega) (by omega) (by omega) (by rw [hzb]; omega) (by rw [hzb, hik]; exact growslice_fits hroom (by omega))
    rw [hik] at h
    rw [hkk]
    exact h
  have hGn : n + 1 ≤ grownCap w (n + 1) c 33 := grownCap_ge w _ _ _
  have hG63 : grownCap w (n + 1) c 33 ≤ maxLen := grownCap_le_maxLen w (n + 1) c 33 (by unfold maxLen; omega)
  obtain ⟨G, hG⟩ : ∃ G, G = grownCap w (n + 1) c 33 := ⟨_, rfl⟩
  rw [← hG] at hrz hGn hG63
  obtain ⟨ROW, hROW⟩ : ∃ ROW : Array Value, ROW = (xs.take (i * 3)).toArray ++ Builtin.zeroCells (Value.agg #[.int .i64 0, .int .i64 0, .int .i64 0]).cells (n + 1 - i) ++ Builtin.zeroCells (Value.agg #[.int .i64 0, .int .i64 0, .int .i64 0]).cells (G - (n + 1)) := ⟨_, rfl⟩
  rw [← hROW] at hrz
  have htl : (xs.take (i * 3)).length = i * 3 := by rw [List.length_take]; omega
  have hRs : ROW.size = G * 3 := by
    rw [hROW]
    simp only [Array.size_append, zero_size, List.size_toArray, htl]
    omega
  have hRt : ROW.toList.take (i * 3) = xs.take (i * 3) := by
    rw [hROW]
    simp only [Array.toList_append]
    rw [List.append_assoc, List.take_append_of_le_length (by simp; omega), List.take_of_length_le (by simp; omega)]
  obtain ⟨C1, hC1⟩ : ∃ C1, C1 = (ROW.toList.take (i * 3) ++ vs ++ ROW.toList.drop (i * 3 + vs.length)).toArray := ⟨_, rfl⟩
  have hRl : ROW.toList.length = G * 3 := by simpa using hRs
  have hC1s : C1.size = G * 3 := by rw [hC1]; simp; omega
  obtain ⟨C2, hC2⟩ : ∃ C2, C2 = (C1.toList.take ((i + 1) * 3) ++ xs.drop (i * 3) ++ C1.toList.drop ((i + 1) * 3 + (xs.drop (i * 3)).length)).toArray := ⟨_, rfl⟩
  have hC1l : C1.toList.length = G * 3 := by simpa using hC1s
  have hC2s : C2.size = G * 3 := by rw [hC2]; simp; omega
  have hend : C2.toList.take ((n + 1) * 3) = xs.take (i * 3) ++ vs ++ xs.drop (i * 3) := by
    have e1 : C1.toList.take ((i + 1) * 3) = xs.take (i * 3) ++ vs := by
      rw [hC1, hRt]
      simp only
      rw [show (i + 1) * 3 = (xs.take (i * 3) ++ vs).length by simp; omega, List.take_left]
    rw [hC2, e1]
    simp only
    rw [show (n + 1) * 3 = (xs.take (i * 3) ++ vs ++ xs.drop (i * 3)).length by simp; omega, List.take_left]
  have hgN : g ≠ w.heap.size := by omega
  have hvN : vb ≠ w.heap.size := by omega
  have hcpA : ∀ (W : World), W.heap = (w.drew.alloc (.cells ROW 33 (0, 0))).heap → ∀ ty dc, (Builtin.copy_ #[22, 22] ty #[.slice (some ⟨w.heap.size, i * 3, none⟩) (n + 1 - i) dc, .slice (some ⟨vb, 0, none⟩) 1 vc]).run Try.prog W = .ok (goInt (Nat.min 1 (n + 1 - i))) (W.setRow w.heap.size C1) := fun W hW ty dc => by
    rw [hC1]
    have hWg : W.heap[w.heap.size]? = some (.cells ROW 33 (0, 0)) := by rw [hW]; exact heap_new w.drew _
    have hWv : W.heap[vb]? = some (.cells vs.toArray 33 (0, 0)) := by rw [hW, heap_old w.drew _ hvw]; exact hv
    exact run_copy_rowN W 22 22 ty 33 w.heap.size (i * 3) (n + 1 - i) dc ⟨vb, 0, none⟩ 1 vc ROW 33 vs 3 Try.underlying22 sz33 hWg (by rw [hvl, show Nat.min 1 (n + 1 - i) = 1 from Nat.min_eq_left (by omega)])
      (fun j v hj => by
        rw [show (⟨vb, 0, none⟩ : Addr).add j = ⟨vb, j, none⟩ by unfold Addr.add; split <;> simp_all]
        rw [getD_cell hWv]
        simpa using hj)
      (by rw [hvl, hRs]; omega) h1v
  have hcpB : ∀ (W : World), W.heap = ((w.drew.alloc (.cells ROW 33 (0, 0))).setRow w.heap.size C1).heap → ∀ ty dc sc, (Builtin.copy_ #[22, 22] ty #[.slice (some ⟨w.heap.size, (i + 1) * 3, none⟩) (n - i) dc, .slice (some ⟨g, i * 3, none⟩) (n - i) sc]).run Try.prog W = .ok (goInt (Nat.min (n - i) (n - i))) (W.setRow w.heap.size C2) := fun W hW ty dc sc => by
    rw [hC2]
    have hWg : W.heap[w.heap.size]? = some (.cells C1 33 (0, 0)) := by
      rw [hW]
      exact setRow_heap _ _ ROW C1 33 (0, 0) (heap_new w.drew _)
    have hWs : W.heap[g]? = some (.cells cur 33 (0, 0)) := by
      rw [hW, setRow_other _ _ g C1 hgN, heap_old w.drew _ hgw]
      exact hg
    exact run_copy_rowN W 22 22 ty 33 w.heap.size ((i + 1) * 3) (n - i) dc ⟨g, i * 3, none⟩ (n - i) sc C1 33 (xs.drop (i * 3)) 3 Try.underlying22 sz33 hWg (by rw [hdl, show Nat.min (n - i) (n - i) = n - i from Nat.min_eq_left (by omega)])
      (fun j v hj => by
        rw [List.getElem?_drop] at hj
        have hlt := (List.getElem?_eq_some_iff.1 hj).1
        rw [show (⟨g, i * 3, none⟩ : Addr).add j = ⟨g, i * 3 + j, none⟩ by unfold Addr.add; split <;> simp_all]
        rw [getD_cell hWs, hcur _ (by omega)]
        exact hj)
      (by rw [hdl, hC1s]; omega) (fun v hv => h1x v (List.mem_of_mem_drop hv))
  have hw1 : IntKind.i64.wrap ((i : Int) + 1) = (i : Int) + 1 := by rw [IntKind.wrap_i64]; omega
  have hw2 : IntKind.i64.wrap ((n : Int) + 1) = (n : Int) + 1 := by rw [IntKind.wrap_i64]; omega
  have hz1 : ((i : Int) == (n : Int)) = false := by simp; omega
  have hz2 : ¬ ((i : Int) = (n : Int)) := by omega
  have hz3 : (c : Int) < (n : Int) + 1 := by omega
  have hb1 : (0 : Int) ≤ (i : Int) + 1 := by omega
  have htn : ((i : Int) + 1).toNat = i + 1 := by omega
  have hin : i ≤ n := by omega
  have hGi : ¬ (G = i) := by omega
  have hGim : ¬ (G = i + 1) := by omega
  have hci : ¬ (c = i) := by omega
  have hG63' : G ≤ 9223372036854775807 := by unfold maxLen at hG63; exact hG63
  have hu33 := Try.underlying33
  have hu22 := Try.underlying22
  have hc33 := cells33
  have HE := Lib.hid hend
  have HS := Lib.hid hC2s
  have HM := Lib.hid hG63
  have HV := Lib.hid hvl
  clear hg hv hcs hxs hvl hcur hC1 hC2 hC1s hxl hdl hend hC2s hkk hik hold hROW hG hRl hRt hRs htl hC1l hi0 hz0 hzs hzb hG63 hgN hvN
  have hE1 : ((w.alloc (.cells ROW 33)).drew).heap = (w.drew.alloc (.cells ROW 33)).heap := rfl
  have hE2 : ((((w.alloc (.cells ROW 33)).drew).setRow w.heap.size C1).drew).heap = ((w.drew.alloc (.cells ROW 33)).setRow w.heap.size C1).heap := rfl
  go_enter Try.func38, Try.ntmps38
  go_wp2_with (first
    | (at_builtin; refine Lib.wpList_append_run _ rfl _ _ _ _ rfl _ _ rfl rfl _ _ (hrz _) ?_)
    | (at_builtin; refine wpList_copy_runN _ rfl _ _ 22 22 rfl _ _ rfl rfl (hcpA _ hE1 _ _) ?_))
  go_region_law (refine step_copy_runN rfl _ _ 22 22 rfl (.slice (some ⟨w.heap.size, (i + 1) * 3, none⟩) (n - i) (G - (i + 1))) (.slice (some ⟨g, i * 3, none⟩) (n - i) (c - i)) (by simp [Act.eval, Act.put]) (by simp [Act.eval, Act.put]) (hcpB _ hE2 3 (G - (i + 1)) (c - i)) ?_)
  go_wp2
  go_ret
  refine ⟨G, hGn, HM.out, rfl, C2, HS.out, HE.out, ?_, ?_⟩
  · exact setRow_heap _ _ C1 C2 33 (0, 0) (setRow_heap _ _ ROW C1 33 (0, 0) (heap_new w _))
  · exact below_setRow (below_setRow ((Below.refl w.heap.size w).alloc (Nat.le_refl _) _).drew (Nat.le_refl _) C1).drew (Nat.le_refl _) C2
end Go.Proofs.YtcgihjpnemnkeaaIns
