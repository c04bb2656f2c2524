/- ExtentMaps: behind Put of any extent and Cut of any range, on a valid list of up to 20 extents, each of the first 60 blocks is found where the last change says. No condition beside the law's own. -/
import Derived.Test.YtcgihjpnemnkeaaExt7ExtentMaps
import Derived.OpenShut
namespace Go.Proofs.Ytcgihjpnemnkeaa.PExtentMaps
open Go.RowKit Go.Proofs.YtcgihjpnemnkeaaW.PrintWords
theorem maps_loop {l a b : List S33} {x : S33} {at_ n : Int} (hv : Val 0 l) (ha : Val 0 a) (hb : Val 0 b) (hx : Ok x) (ll : l.length ≤ 20) (la : a.length ≤ 100) (lb : b.length ≤ 300) (h0 : 0 ≤ at_) (h1 : at_ ≤ 255) (h2 : 0 ≤ n) (h3 : n ≤ 255)
    (fa : ∀ t, findL a t = if x.f0 ≤ t ∧ t < x.f0 + x.f1 then some (x.f2 + t - x.f0) else findL l t) (fb : ∀ t, findL b t = if at_ ≤ t ∧ t < at_ + n then none else findL a t) :
    ∀ (d : Nat) (i : Int) (k : Nat), 0 ≤ i → i + d = 60 → 5 * d + 500 < k → tegulalaw32_ExtentMaps.l0 k l at_ n a b i x.f0 x.f1 x.f2 = some true
  | 0, i, k, hi, hd, hk => by
    obtain ⟨k, rfl⟩ : ∃ m, k = m + 1 := ⟨k - 1, by omega⟩
    simp only [tegulalaw32_ExtentMaps.l0]
    rw [if_neg (by omega)]
  | d + 1, i, k, hi, hd, hk => by
    obtain ⟨k, rfl⟩ : ∃ m, k = m + 5 := ⟨k - 5, by omega⟩
    have hX := hx
    unfold Ok at hX
    have ih := maps_loop hv ha hb hx ll la lb h0 h1 h2 h3 fa fb d (i + 1) k (by omega) (by omega) (by omega)
    have e1 := (find_eq l i (k + 4) (by omega) (by omega)).2
    have e2 := fun k' (hk' : 400 < k') => (find_eq a i k' (by omega) (by omega)).1
    have e3 := fun k' (hk' : 400 < k') => (find_eq b i k' (by omega) (by omega)).1
    have hF : ∀ (m : List S33), Val 0 m → findF m i = findG i m := fun m hm => by unfold findF; rw [if_pos (valB_iff.2 hm)]
    rw [hF l hv] at e1
    simp only [hF a ha] at e2
    simp only [hF b hb] at e3
    have ga : findG i a = if x.f0 ≤ i ∧ i < x.f0 + x.f1 then (x.f2 + i - x.f0, true) else findG i l := by
      rw [findG_eq, findG_eq, fa i]
      by_cases hc : x.f0 ≤ i ∧ i < x.f0 + x.f1
      · rw [if_pos hc, if_pos hc]
      · rw [if_neg hc, if_neg hc]
    have gb : findG i b = if at_ ≤ i ∧ i < at_ + n then (0, false) else findG i a := by
      rw [findG_eq, findG_eq, fb i]
      by_cases hc : at_ ≤ i ∧ i < at_ + n
      · rw [if_pos hc, if_pos hc]
      · rw [if_neg hc, if_neg hc]
    have hw1 : wrap64 (x.f0 + x.f1) = x.f0 + x.f1 := w64 (by omega) (by omega)
    have hw2 : wrap64 (at_ + n) = at_ + n := w64 (by omega) (by omega)
    have hw3 : wrap64 (i + 1) = i + 1 := w64 (by omega) (by omega)
    have hw4 : wrap64 (wrap64 (x.f2 + i) - x.f0) = x.f2 + i - x.f0 := by rw [w64 (n := x.f2 + i) (by omega) (by omega), w64 (by omega) (by omega)]
    -- the second half: what is found behind the cut
    have tail : ∀ w o, findG i a = (w, o) → tegulalaw32_ExtentMaps.j5 (k + 2) l at_ n a b i w o false x.f0 x.f1 x.f2 = some true := by
      intro w o hwo
      simp only [tegulalaw32_ExtentMaps.j5]
      rw [if_neg (by simp), hw2]
      have hin : at_ ≤ i ∧ i < at_ + n → tegulalaw32_ExtentMaps.j6 (k + 1) l at_ n a b i w o true x.f0 x.f1 x.f2 = some true := fun hc => by
        simp only [tegulalaw32_ExtentMaps.j6]
        rw [if_pos trivial, e3 k (by omega), gb, if_pos hc, hw3]
        simp only [Option.bind_some]
        rw [if_pos trivial, if_neg (by simp)]
        exact ih
      have hout : ¬ (at_ ≤ i ∧ i < at_ + n) → tegulalaw32_ExtentMaps.j6 (k + 1) l at_ n a b i w o false x.f0 x.f1 x.f2 = some true := fun hc => by
        simp only [tegulalaw32_ExtentMaps.j6]
        rw [if_neg (by simp), e3 k (by omega), gb, if_neg hc, hwo, hw3]
        simp only [Option.bind_some]
        rw [if_pos trivial, if_neg (by simp)]
        exact ih
      by_cases h4 : i ≥ at_
      · rw [if_pos h4]
        by_cases h5 : i < at_ + n
        · rw [decide_eq_true h5]
          exact hin ⟨h4, h5⟩
        · rw [decide_eq_false h5]
          exact hout (fun h => h5 h.2)
      · rw [if_neg h4]
        exact hout (fun h => h4 h.1)
    have mid : ∀ w o, findG i a = (w, o) → tegulalaw32_ExtentMaps.j4 (k + 3) l at_ n a b i w o x.f0 x.f1 x.f2 = some true := by
      intro w o hwo
      simp only [tegulalaw32_ExtentMaps.j4]
      rw [e2 (k + 2) (by omega), hwo]
      simp only [Option.bind_some]
      rw [if_pos trivial]
      have : (o != o) = false := by simp
      rw [this]
      exact tail w o hwo
    have hin : x.f0 ≤ i ∧ i < x.f0 + x.f1 → ∀ w o, tegulalaw32_ExtentMaps.j3 (k + 4) l at_ n a b i w o true x.f0 x.f1 x.f2 = some true := fun hc w o => by
      simp only [tegulalaw32_ExtentMaps.j3]
      rw [if_pos trivial, hw4]
      exact mid _ _ (by rw [ga, if_pos hc])
    have hout : ¬ (x.f0 ≤ i ∧ i < x.f0 + x.f1) → tegulalaw32_ExtentMaps.j3 (k + 4) l at_ n a b i (findG i l).1 (findG i l).2 false x.f0 x.f1 x.f2 = some true := fun hc => by
      simp only [tegulalaw32_ExtentMaps.j3]
      rw [if_neg (by simp)]
      exact mid _ _ (by rw [ga, if_neg hc])
    simp only [tegulalaw32_ExtentMaps.l0]
    rw [if_pos (by omega), e1, hw1]
    simp only [Option.bind_some]
    by_cases h4 : i ≥ x.f0
    · rw [if_pos h4]
      by_cases h5 : i < x.f0 + x.f1
      · rw [decide_eq_true h5]
        exact hin ⟨h4, h5⟩ _ _
      · rw [decide_eq_false h5]
        exact hout (fun h => h5 h.2)
    · rw [if_neg h4]
      exact hout (fun h => h4 h.1)
end Go.Proofs.Ytcgihjpnemnkeaa.PExtentMaps
namespace Go.Proofs.Ytcgihjpnemnkeaa.Pure
open Go.RowKit Go.Proofs.YtcgihjpnemnkeaaW.PrintWords
open PExtentMaps in
theorem ExtentMaps : ∀ (l0 : (List PExtentMaps.S33)) (a1_0 : Int) (a1_1 : Int) (a1_2 : Int) (a2_0 : Int) (a2_1 : Int), (l0.length ≤ maxLen ∧ ∀ yl0 ∈ l0, ((Lit.int .i64 yl0.f0).wf = true ∧ (Lit.int .i64 yl0.f1).wf = true ∧ (Lit.int .i64 yl0.f2).wf = true)) → (Lit.int .i64 a1_0).wf = true → (Lit.int .i64 a1_1).wf = true → (Lit.int .i64 a1_2).wf = true → (Lit.int .u8 a2_0).wf = true → (Lit.int .u8 a2_1).wf = true → ∃ k, PExtentMaps.tegulalaw32_ExtentMaps.f k l0 a1_0 a1_1 a1_2 a2_0 a2_1 = some true := by
  intro l a b c at_ n _ _ _ _ w1 w2
  have b1 : 0 ≤ at_ ∧ at_ ≤ 255 := bounds_u8 w1
  have b2 : 0 ≤ n ∧ n ≤ 255 := bounds_u8 w2
  clear w1 w2
  obtain ⟨x, hx0⟩ : ∃ x : S33, x = ⟨a, b, c⟩ := ⟨_, rfl⟩
  obtain rfl : a = x.f0 := by rw [hx0]
  obtain rfl : b = x.f1 := by rw [hx0]
  obtain rfl : c = x.f2 := by rw [hx0]
  clear hx0
  refine ⟨2002, ?_⟩
  unfold tegulalaw32_ExtentMaps.f
  rw [awake_eq _ (by omega)]
  simp only [Option.bind_some, if_true]
  by_cases hl : (l.length : Int) > 20
  · rw [if_pos hl]
    simp only [tegulalaw32_ExtentMaps.j0, if_true]
  rw [if_neg hl, rvalid_eq l _ (by omega) (by omega)]
  simp only [Option.bind_some]
  by_cases hv : valB 0 l = true
  · rw [if_pos hv, one_eq]
    simp only [Option.bind_some]
    have hok : okB3 x.f0 x.f1 x.f2 = okB x := rfl
    rw [hok]
    by_cases hx : okB x = true
    · rw [hx]
      have hV := valB_iff.1 hv
      have hX := okB_iff.1 hx
      obtain ⟨a1, r1, e1, e2, e3, e4, _, _, _⟩ := put_facts hV hX
      have hwa : wrap64 at_ = at_ := w64 (by omega) (by omega)
      have hwn : wrap64 n = n := w64 (by omega) (by omega)
      obtain ⟨q1, i1, f1, f2, f3, f4, _, _, _⟩ := cut_facts (a := at_) (n := n) e2 (by omega) (by omega) (by omega)
      have l1 := putL_len l x
      have l2 := cutL_len a1 at_ n
      rw [e1] at l1
      rw [f1] at l2
      simp only at l1 l2
      simp only [tegulalaw32_ExtentMaps.j0, Bool.not_true, Bool.false_eq_true, if_false]
      rw [put_eq l x 2001 (by omega) (by omega), e1]
      simp only [Option.bind_some]
      rw [hwa, hwn, cut_eq a1 at_ n 2001 (by omega) (by omega), f1]
      simp only [Option.bind_some, if_true]
      have hne : ((0 : Int) != 0) = false := by decide
      rw [hne]
      simp only [tegulalaw32_ExtentMaps.j1, Bool.false_eq_true, if_false]
      exact maps_loop hV e2 f2 hX (by omega) (by omega) (by omega) (by omega) (by omega) (by omega) (by omega) e4 f4 60 0 2000 (by omega) (by omega) (by omega)
    · simp only [Bool.not_eq_true] at hx
      rw [hx]
      simp only [tegulalaw32_ExtentMaps.j0]
      rfl
  · rw [if_neg hv]
    simp only [tegulalaw32_ExtentMaps.j0, if_true]
end Go.Proofs.Ytcgihjpnemnkeaa.Pure
