/- ExtentUnique: dividing an extent of a valid list of up to 20 extents keeps its normal form, and changing a slot does not. No condition beside the law's own. -/
import Derived.Test.YtcgihjpnemnkeaaExt4ExtentUnique
import Derived.OpenShut
namespace Go.Proofs.Ytcgihjpnemnkeaa.PExtentUnique
open Go.RowKit Go.Proofs.YtcgihjpnemnkeaaW.PrintWords
theorem u16_range {n : Int} (h : (Lit.int .u16 n).wf = true) : 0 ≤ n ∧ n ≤ 65535 := bounds_u16 h
theorem j1_eq (k : Nat) (hk : 100 < k) (pre post : List S33) (x : S33) (n : Int) (h : Val 0 (pre ++ x :: post)) (hl : (pre ++ x :: post).length ≤ 20) (h0 : 0 ≤ n) (h1 : n < x.f1) :
    tegulalaw32_ExtentUnique.j1 k (pre ++ x :: post) (pre.length : Int) n (joinL (pre ++ x :: post)) false x.f0 x.f1 x.f2 = some true := by
  obtain ⟨k, rfl⟩ : ∃ m, k = m + 1 := ⟨k - 1, by omega⟩
  simp only [tegulalaw32_ExtentUnique.j1]
  rw [if_neg (by simp)]
  by_cases hn : n = 0
  · rw [if_pos hn]
  · have hx := (Val.ok h x (by simp)).1
    unfold Ok at hx
    have hs := Val.split h (show 0 < n by omega) h1
    have hll : (pre ++ x :: post).length = pre.length + post.length + 1 := by simp; omega
    have hlen : (pre ++ [(⟨x.f0, n, x.f2⟩ : S33), ⟨x.f0 + n, x.f1 - n, x.f2 + n⟩] ++ post).length = pre.length + post.length + 2 := by simp; omega
    have hw : wrap64 ((pre.length : Int) + 1) = (pre.length : Int) + 1 := w64 (by omega) (by omega)
    have e1 : (pre ++ x :: post).take ((pre.length : Int)).toNat = pre := by simp
    have e2 : (pre ++ x :: post).drop ((pre.length : Int) + 1).toNat = post := by
      rw [show ((pre.length : Int) + 1).toNat = pre.length + 1 by omega]
      simp
    have e3 : pre ++ [(⟨x.f0, n, x.f2⟩ : S33), ⟨x.f0 + n, x.f1 - n, x.f2 + n⟩] ++ post = pre ++ ⟨x.f0, n, x.f2⟩ :: ⟨x.f0 + n, x.f1 - n, x.f2 + n⟩ :: post := by simp
    rw [if_neg hn, if_pos (by omega), if_pos (by omega), e1, copied_eq pre (by omega), w64 (n := x.f0 + n) (by omega) (by omega), w64 (n := x.f1 - n) (by omega) (by omega), w64 (n := x.f2 + n) (by omega) (by omega), hw]
    simp only [Option.bind_some]
    rw [if_pos (by simp; omega), if_pos (by omega), if_pos (by omega), e2, if_pos (by simp; omega), join_eq _ k (by omega) (by omega), e3, if_pos (valB_iff.2 hs), joinL_split]
    have hj := joinL_len (pre ++ x :: post)
    simp only [Option.bind_some, if_true]
    rw [same_eq _ _ k (by omega) (by omega)]
    simp
end Go.Proofs.Ytcgihjpnemnkeaa.PExtentUnique
namespace Go.Proofs.Ytcgihjpnemnkeaa.Pure
open Go.RowKit Go.Proofs.YtcgihjpnemnkeaaW.PrintWords
open PExtentUnique in
theorem ExtentUnique : ∀ (l0 : (List PExtentUnique.S33)) (a1 : Int) (a2 : Int), (l0.length ≤ maxLen ∧ ∀ yl0 ∈ l0, ((Lit.int .i64 yl0.f0).wf = true ∧ (Lit.int .i64 yl0.f1).wf = true ∧ (Lit.int .i64 yl0.f2).wf = true)) → (Lit.int .u16 a1).wf = true → (Lit.int .u16 a2).wf = true → ∃ k, PExtentUnique.tegulalaw32_ExtentUnique.f k l0 a1 a2 = some true := by
  intro l a1 a2 _ w1 w2
  refine ⟨200, ?_⟩
  obtain ⟨p1, p2⟩ := u16_range w1
  obtain ⟨q1, q2⟩ := u16_range w2
  unfold tegulalaw32_ExtentUnique.f
  rw [awake_eq 200 (by omega)]
  simp only [Option.bind_some, if_true]
  by_cases h0 : (l.length : Int) = 0
  · rw [if_pos h0]
    simp only [tegulalaw32_ExtentUnique.j0, if_true]
  rw [if_neg h0]
  by_cases h20 : (l.length : Int) > 20
  · rw [if_pos h20]
    simp only [tegulalaw32_ExtentUnique.j0, if_true]
  rw [if_neg h20, rvalid_eq l 200 (by omega) (by omega)]
  simp only [Option.bind_some]
  by_cases hv : valB 0 l = true
  · rw [hv]
    have hV := valB_iff.1 hv
    have hm : Int.tmod (wrap64 a1) (l.length : Int) = a1 % (l.length : Int) := by
      rw [w64 (by omega) (by omega), Int.tmod_eq_emod_of_nonneg (by omega)]
    have hi0 : 0 ≤ a1 % (l.length : Int) := Int.emod_nonneg _ h0
    have hi1 : a1 % (l.length : Int) < (l.length : Int) := Int.emod_lt_of_pos _ (by omega)
    simp only [tegulalaw32_ExtentUnique.j0]
    rw [hm]
    generalize a1 % (l.length : Int) = i at hi0 hi1
    obtain ⟨pre, x, post, rfl, hpre⟩ : ∃ pre x post, l = pre ++ x :: post ∧ (pre.length : Int) = i := by
      refine ⟨l.take i.toNat, l[i.toNat], l.drop (i.toNat + 1), ?_, ?_⟩
      · rw [List.getElem_cons_drop, List.take_append_drop]
      · simp; omega
    subst hpre
    have hx := (Val.ok hV x (by simp)).1
    have hx' := hx
    unfold Ok at hx'
    have hlen : (pre ++ x :: post).length ≤ 20 := by omega
    have hset : ∀ y : S33, (pre ++ x :: post).set ((pre.length : Int)).toNat y = pre ++ y :: post := by
      intro y
      rw [show ((pre.length : Int)).toNat = pre.length by omega]
      simp
    rw [if_neg (by simp), if_neg h0, if_pos (by omega), if_pos hi1, rd_mid, if_neg (by omega), join_eq _ 199 (by omega) (by omega), hv, copied_eq _ (by omega)]
    simp only [Option.bind_some, if_true]
    have hM : wrap64 (wrap64 (65536 - x.f1) + 1) = 65537 - x.f1 := by rw [w64 (n := 65536 - x.f1) (by omega) (by omega), w64 (by omega) (by omega)]; omega
    have hm2 : Int.tmod (wrap64 a2) x.f1 = a2 % x.f1 := by rw [w64 (by omega) (by omega), Int.tmod_eq_emod_of_nonneg (by omega)]
    have hs : Int.tmod (wrap64 (x.f2 + 1)) (65537 - x.f1) = (x.f2 + 1) % (65537 - x.f1) := by rw [w64 (by omega) (by omega), Int.tmod_eq_emod_of_nonneg (by omega)]
    have hn0 : 0 ≤ a2 % x.f1 := Int.emod_nonneg _ (by omega)
    have hn1 : a2 % x.f1 < x.f1 := Int.emod_lt_of_pos _ (by omega)
    have hs0 : 0 ≤ (x.f2 + 1) % (65537 - x.f1) := Int.emod_nonneg _ (by omega)
    have hs1 : (x.f2 + 1) % (65537 - x.f1) < 65537 - x.f1 := Int.emod_lt_of_pos _ (by omega)
    have hsne : x.f1 < 65536 → (x.f2 + 1) % (65537 - x.f1) ≠ x.f2 := by
      intro hlt he
      by_cases hc : x.f2 + 1 < 65537 - x.f1
      · rw [Int.emod_eq_of_lt (by omega) hc] at he
        omega
      · have : x.f2 + 1 = 65537 - x.f1 := by omega
        rw [this, Int.emod_self] at he
        omega
    rw [hM, hm2, hs, if_neg (by omega), if_pos hi1, hset, rd_mid]
    generalize (x.f2 + 1) % (65537 - x.f1) = s at hs0 hs1 hsne
    generalize a2 % x.f1 = n at hn0 hn1
    have hV' : Val 0 (pre ++ (⟨x.f0, x.f1, s⟩ : S33) :: post) := Val.swap hV (by unfold Ok; simp only; omega) rfl rfl
    have hl' : (pre ++ (⟨x.f0, x.f1, s⟩ : S33) :: post).length = (pre ++ x :: post).length := by simp
    have hj := joinL_len (pre ++ x :: post)
    rw [join_eq _ 199 (by omega) (by omega), if_pos (valB_iff.2 hV')]
    simp only [Option.bind_some, if_true]
    by_cases hlt : x.f1 < 65536
    · rw [if_pos hlt, same_eq _ _ 199 (by omega) (by omega)]
      simp only [Option.bind_some]
      rw [decide_eq_false (fun he => hsne hlt (joinL_changed hV hV' rfl he))]
      exact j1_eq 199 (by omega) pre post x n hV hlen hn0 hn1
    · rw [if_neg hlt]
      exact j1_eq 199 (by omega) pre post x n hV hlen hn0 hn1
  · simp only [Bool.not_eq_true] at hv
    rw [hv]
    simp only [tegulalaw32_ExtentUnique.j0]
    rfl
end Go.Proofs.Ytcgihjpnemnkeaa.Pure
