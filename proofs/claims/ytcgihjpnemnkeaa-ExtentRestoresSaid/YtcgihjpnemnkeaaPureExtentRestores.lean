/- ExtentRestores: putting back what Put and Cut removed restores the normal form of a valid list of up to 20 extents, if the new extent is cut out before. No condition beside the law's own. -/
import Derived.Test.YtcgihjpnemnkeaaExt6ExtentRestores
namespace Go.Proofs.Ytcgihjpnemnkeaa.PExtentRestores
open Go.RowKit Go.Proofs.YtcgihjpnemnkeaaW.PrintWords
theorem findL_one (y : S33) (t : Int) : findL [y] t = if y.f0 ≤ t ∧ t < y.f0 + y.f1 then some (y.f2 + t - y.f0) else none := by simp only [findL]
theorem back_loop {want : List S33} (hw : Val 0 want) (nw : NM want) : ∀ (rest pre a : List S33) (k : Nat) (c : Int), Val 0 a → NM a → a.length + 1 ≤ 83 * 2 ^ pre.length → pre.length + rest.length ≤ 20 → rest.length + 300000000 < k → Val c rest → (∀ t, (findL rest t).or (findL a t) = findL want t) →
    tegulalaw32_ExtentRestores.l0 k want a (pre ++ rest) (pre.length : Int) = some true
  | [], pre, a, k, c, hv, hn, hl, hp, hk, hr, he => by
    obtain ⟨k, rfl⟩ : ∃ m, k = m + 1 := ⟨k - 1, by omega⟩
    have ha : a = want := nf_unique hv hw hn nw (fun t => by simpa [findL] using he t)
    have h2 : 2 ^ pre.length ≤ 2 ^ 20 := Nat.pow_le_pow_right (by omega) (by simp at hp; omega)
    simp only [tegulalaw32_ExtentRestores.l0]
    rw [if_neg (by simp), same_eq _ _ k (by omega) (by omega), ha]
    simp
  | y :: rest, pre, a, k, c, hv, hn, hl, hp, hk, hr, he => by
    obtain ⟨k, rfl⟩ : ∃ m, k = m + 1 := ⟨k - 1, by omega⟩
    have hy := hr.1
    have hy' := hy
    unfold Ok at hy'
    have h2 : 2 ^ pre.length ≤ 2 ^ 19 := Nat.pow_le_pow_right (by omega) (by simp at hp; omega)
    have h3 : 2 ^ (pre ++ [y]).length = 2 ^ pre.length * 2 := by simp [Nat.pow_succ]
    obtain ⟨a', r', e1, e2, e3, e4, _, _, _⟩ := put_facts hv hy
    have hlen := (putL_len a y).1
    rw [e1] at hlen
    simp only at hlen
    have ih := back_loop hw nw rest (pre ++ [y]) a' k (y.f0 + y.f1) e2 e3 (by rw [h3]; omega) (by simp at hp ⊢; omega) (by simp at hk; omega) hr.2.2 (fun t => by
      rw [← he t, e4 t]
      by_cases hc : y.f0 ≤ t ∧ t < y.f0 + y.f1
      · rw [if_pos hc, findL_head hc, findL_lt hr.2.2 (by omega)]
        rfl
      · rw [if_neg hc, findL_tail hc])
    rw [List.append_assoc, List.singleton_append] at ih
    simp only [tegulalaw32_ExtentRestores.l0]
    rw [if_pos (len_mid pre y rest), if_pos (by omega), rd_mid, put_eq a y k (by omega) (by omega), e1, next_mid pre y rest (by simp at hp ⊢; omega)]
    simp only [Option.bind_some]
    rw [if_pos trivial]
    exact ih
end Go.Proofs.Ytcgihjpnemnkeaa.PExtentRestores
namespace Go.Proofs.Ytcgihjpnemnkeaa.Pure
open Go.RowKit Go.Proofs.YtcgihjpnemnkeaaW.PrintWords
open PExtentRestores in
theorem ExtentRestores : ∀ (l0 : (List PExtentRestores.S33)) (a1_0 : Int) (a1_1 : Int) (a1_2 : Int), (l0.length ≤ maxLen ∧ ∀ yl0 ∈ l0, ((Lit.int .i64 yl0.f0).wf = true ∧ (Lit.int .i64 yl0.f1).wf = true ∧ (Lit.int .i64 yl0.f2).wf = true)) → (Lit.int .i64 a1_0).wf = true → (Lit.int .i64 a1_1).wf = true → (Lit.int .i64 a1_2).wf = true → ∃ k, PExtentRestores.tegulalaw32_ExtentRestores.f k l0 a1_0 a1_1 a1_2 = some true := by
  intro l a b c _ _ _ _
  obtain ⟨x, hx0⟩ : ∃ x : S33, x = ⟨a, b, c⟩ := ⟨_, rfl⟩
  obtain rfl : a = x.f0 := by rw [hx0]
  obtain rfl : b = x.f1 := by rw [hx0]
  obtain rfl : c = x.f2 := by rw [hx0]
  clear hx0
  obtain ⟨K, hK⟩ : ∃ K : Nat, 400000000 < K := ⟨400000001, by omega⟩
  refine ⟨K, ?_⟩
  obtain ⟨K, rfl⟩ : ∃ m, K = m + 2 := ⟨K - 2, by omega⟩
  unfold tegulalaw32_ExtentRestores.f
  rw [awake_eq _ (by omega)]
  simp only [Option.bind_some, if_true]
  by_cases hl : (l.length : Int) > 20
  · rw [if_pos hl]
    simp only [tegulalaw32_ExtentRestores.j0, if_true]
  rw [if_neg hl, rvalid_eq l _ (by omega) (by omega)]
  simp only [Option.bind_some]
  by_cases hv : valB 0 l = true
  · rw [if_pos hv, one_eq]
    simp only [Option.bind_some]
    have hok : okB3 x.f0 x.f1 x.f2 = okB x := rfl
    rw [hok]
    by_cases hx : okB x = true
    · rw [hx]
      have hV := valB_iff.1 hv
      have hX := okB_iff.1 hx
      have hX' := hX
      unfold Ok at hX'
      obtain ⟨a1, r1, e1, e2, e3, e4, e5, e6, e7⟩ := put_facts hV hX
      obtain ⟨q1, i1, f1, f2, f3, f4, f5, f6, f7⟩ := cut_facts (a := x.f0) (n := x.f1) e2 (by omega) (by omega) (by omega)
      have l1 := putL_len l x
      have l2 := cutL_len a1 x.f0 x.f1
      rw [e1] at l1
      rw [f1] at l2
      simp only at l1 l2
      have hj := joinL_len l
      have hi : i1 = [x] := by
        refine nf_unique f5 (show Val 0 [x] from ⟨hX, by omega, trivial⟩) f6 trivial (fun t => ?_)
        rw [f7 t, e4 t, findL_one]
        by_cases hc : x.f0 ≤ t ∧ t < x.f0 + x.f1
        · rw [if_pos hc, if_pos hc, if_pos hc]
        · rw [if_neg hc, if_neg hc]
      simp only [tegulalaw32_ExtentRestores.j0, Bool.not_true, Bool.false_eq_true, if_false]
      rw [rjoin_eq l (K + 1) (by omega) (by omega), put_eq l x (K + 1) (by omega) (by omega), e1, if_pos hv]
      simp only [Option.bind_some]
      rw [cut_eq a1 x.f0 x.f1 (K + 1) (by omega) (by omega), f1]
      simp only [Option.bind_some, if_true]
      rw [same_eq _ _ (K + 1) (by omega) (by omega), hi]
      simp only [Option.bind_some]
      simp only [tegulalaw32_ExtentRestores.j1, decide_true, Bool.not_true, Bool.false_eq_true, if_false]
      have := back_loop (joinL_val hV) (joinL_nm l) r1 [] q1 K 0 f2 f3 (by simp; omega) (by simp; omega) (by omega) e5 (fun t => by
        rw [e7 t, f4 t, e4 t, findL_join hV]
        by_cases hc : x.f0 ≤ t ∧ t < x.f0 + x.f1
        · rw [if_pos hc, if_pos hc]
          simp
        · rw [if_neg hc, if_neg hc, if_neg hc]
          rfl)
      simpa using this
    · simp only [Bool.not_eq_true] at hx
      rw [hx]
      simp only [tegulalaw32_ExtentRestores.j0]
      rfl
  · rw [if_neg hv]
    simp only [tegulalaw32_ExtentRestores.j0, if_true]
end Go.Proofs.Ytcgihjpnemnkeaa.Pure
