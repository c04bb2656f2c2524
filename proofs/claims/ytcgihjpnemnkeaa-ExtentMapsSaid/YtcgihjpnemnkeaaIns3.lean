import Derived.Test.YtcgihjpnemnkeaaIns2
set_option linter.unusedVariables false
set_option linter.unusedSimpArgs false
namespace Go.Proofs.YtcgihjpnemnkeaaIns
open Go.RowKit Go.Lib

/-- What is known behind an Insert: the row with the new element, and that nothing else has turned. -/
def Ins (B n i : Nat) (v : Value) (xs vs : List Value) (w : World) (e : Ending) (w' : World) : Prop :=
  ∃ v', e = .returned v' ∧ w'.ownsRow B 33 3 v' (n + 1) (xs.take (i * 3) ++ vs ++ xs.drop (i * 3)) ∧ w.grownBy w' v.ownBlock

set_option maxHeartbeats 4000000 in
set_option maxRecDepth 100000 in
/-- slices.Insert at the end. -/
theorem insert_end (B n vb vc : Nat) (v : Value) (xs vs : List Value) (w : World) (hn9 : n ≤ 1000000000) (hB : B ≤ w.heap.size) (hown : w.ownsRow B 33 3 v n xs)
    (hv : w.heap[vb]? = some (.cells vs.toArray 33 (0, 0))) (hvl : vs.length = 3) (h1v : ∀ v ∈ vs, v.oneCell' = true) :
    Calls Try.prog 38 #[v, .int .i64 n, .slice (some ⟨vb, 0, none⟩) 1 vc] w (Ins B n n v xs vs w) := by
  obtain ⟨i0, hi0, hz0, hzs, hzb⟩ := info_parts info33
  have hnews : ∀ j u, vs[j]? = some u → w.cell? ((⟨vb, 0, none⟩ : Addr).add j) = some u := fun j u hj => by
    rw [show (⟨vb, 0, none⟩ : Addr).add j = ⟨vb, j, none⟩ by unfold Addr.add; split <;> simp_all]
    rw [getD_cell hv]
    simpa using hj
  have hxl : xs.length = n * 3 := hown.1
  have HV := Lib.hid hvl
  have HX := Lib.hid hxl
  have HU := Lib.hid hown
  have HN := Lib.hid hnews
  have HI := Lib.hid hi0
  have hmax : n + 1 ≤ maxLen := by unfold maxLen; omega
  have hby : (n + 1) * 24 ≤ 140737488355328 := by omega
  have HM := Lib.hid hmax
  have HZ := Lib.hid hz0
  have HS := Lib.hid hzs
  have HB := Lib.hid hzb
  have hu33 := Try.underlying33
  have hu22 := Try.underlying22
  have hc33 := cells33
  rcases hown.2 with ⟨hvn, hn0⟩ | ⟨g, cap, cur, hvs, hbg, hg, hnc, hcm, hcs, hct⟩
  · subst hn0
    subst hvn
    clear hown hxl hvl hv hnews hi0 hz0 hzs hzb
    go_enter Try.func38, Try.ntmps38
    go_wp2_with (at_builtin; (refine wpList_append_own _ rfl (.tmp 23) (.tmp 24) 22 rfl B 33 i0 (.agg #[(.int .i64 0), (.int .i64 0), (.int .i64 0)]) 3 24 Try.underlying22 HI.out HZ.out HS.out HB.out rfl (by decide) _ 0 xs rfl HU.out ⟨vb, 0, none⟩ 1 vc vs rfl HV.out HN.out h1v HM.out hby hB ?_); intro v1 w1 ho1 hg1 _; have HO1 := Lib.hid ho1; have HG1 := Lib.hid hg1; clear ho1 hg1)
    go_ret
    refine ⟨v1, rfl, ?_, HG1.out⟩
    have h1 := HO1.out
    have : xs = [] := List.eq_nil_of_length_eq_zero (by simpa using HX.out)
    subst this
    simpa using h1
  · subst hvs
    have hcm' : cap ≤ 9223372036854775807 := hcm
    clear hown hxl hvl hv hnews hi0 hz0 hzs hzb hg hct hcs hbg hcm
    go_enter Try.func38, Try.ntmps38
    go_wp2_with (at_builtin; (refine wpList_append_own _ rfl (.tmp 23) (.tmp 24) 22 rfl B 33 i0 (.agg #[(.int .i64 0), (.int .i64 0), (.int .i64 0)]) 3 24 Try.underlying22 HI.out HZ.out HS.out HB.out rfl (by decide) _ n xs rfl HU.out ⟨vb, 0, none⟩ 1 vc vs rfl HV.out HN.out h1v HM.out hby hB ?_); intro v1 w1 ho1 hg1 _; have HO1 := Lib.hid ho1; have HG1 := Lib.hid hg1; clear ho1 hg1)
    all_goals
      go_ret
      refine ⟨v1, rfl, ?_, HG1.out⟩
      have h1 := HO1.out
      have hx := HX.out
      rw [List.take_of_length_le (by omega), List.drop_eq_nil_of_le (by omega), List.append_nil]
      exact h1

/-- slices.Insert of one extent. -/
theorem insert_any (B n i vb vc : Nat) (v : Value) (xs vs : List Value) (w : World) (hi : i ≤ n) (hn9 : n ≤ 1000000000) (hB : B ≤ w.heap.size) (hown : w.ownsRow B 33 3 v n xs) (hne : v.ownBlock ≠ some vb)
    (hv : w.heap[vb]? = some (.cells vs.toArray 33 (0, 0))) (hvl : vs.length = 3) (h1v : ∀ v ∈ vs, v.oneCell' = true) (h1x : ∀ v ∈ xs, v.oneCell' = true) :
    Calls Try.prog 38 #[v, .int .i64 i, .slice (some ⟨vb, 0, none⟩) 1 vc] w (Ins B n i v xs vs w) := by
  by_cases hin : i = n
  · subst hin
    exact insert_end B i vb vc v xs vs w hn9 hB hown hv hvl h1v
  · have hlt : i < n := by omega
    rcases hown.2 with ⟨hvn, hn0⟩ | ⟨g, cap, cur, hvs, hbg, hg, hnc, hcm, hcs, hct⟩
    · omega
    · subst hvs
      have hvg : vb ≠ g := fun e => hne (by rw [e]; rfl)
      have hgw : g < w.heap.size := (Array.getElem?_eq_some_iff.1 hg).1
      have hvw : vb < w.heap.size := (Array.getElem?_eq_some_iff.1 hv).1
      by_cases hr : n + 1 ≤ cap
      · refine (insert_shift g n cap i vb vc cur xs vs w hlt hr hcm hvg hg hcs hct hv hvl h1x h1v).mono ?_
        rintro e w' ⟨rfl, cur', hs', ht', rfl⟩
        refine ⟨_, rfl, ⟨?_, .inr ⟨g, cap, cur', rfl, hbg, setRow_heap w.drew g cur cur' 33 (0, 0) hg, hr, hcm, hs', ht'⟩⟩, ?_⟩
        · rw [← ht', List.length_take, Array.length_toList, hs']; omega
        · exact ⟨rfl, rfl, rfl, by simp [World.setRow], fun k _ hk => setRow_other w.drew g k cur' (fun e => hk (by rw [e]; rfl))⟩
      · refine (insert_grow g n cap i vb vc cur xs vs w hlt (by omega) hnc hn9 hgw hvw hg hcs hct hv hvl h1x h1v).mono ?_
        rintro e w' ⟨G, hG1, hG2, rfl, cur', hs', ht', hN, hb⟩
        refine ⟨_, rfl, ⟨?_, .inr ⟨w.heap.size, G, cur', rfl, hB, hN, hG1, hG2, hs', ht'⟩⟩, ?_⟩
        · rw [← ht', List.length_take, Array.length_toList, hs']; omega
        · exact ⟨hb.os, hb.tape, hb.output, hb.size, fun k hk _ => hb.block k hk⟩
end Go.Proofs.YtcgihjpnemnkeaaIns
