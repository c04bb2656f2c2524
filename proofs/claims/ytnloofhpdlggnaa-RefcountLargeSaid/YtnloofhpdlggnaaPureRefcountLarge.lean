/- RefcountLarge: with the greatest number of slots, adding two runs counts their common part twice and the slots beside it once. No condition beside the law's own. -/
import Derived.Test.YtnloofhpdlggnaaRef6RefcountLarge
import Derived.OpenShut
namespace Go.Proofs.Ytnloofhpdlggnaa.PRefcountLarge
open Go.RowKit Go.Proofs.YtnloofhpdlggnaaW.PrintWords
theorem inI_iff {s n t : Int} : inI s n t = true ↔ s ≤ t ∧ t < s + n := decide_eq_true_iff
theorem lenS_nonneg : ∀ (l : List S41), (∀ y ∈ l, OkS y) → 0 ≤ lenS l
  | [], _ => Int.le_refl _
  | y :: l, h => by
    have hy := h y List.mem_cons_self
    unfold OkS at hy
    have ih := lenS_nonneg l fun z hz => h z (List.mem_cons_of_mem _ hz)
    rw [lenS]
    omega
theorem large_loop {r : Bool} (q g lx sx ly sy : Int) (out : List Int) : ∀ (rest pre : List S41) (acc : Int), (pre ++ rest).length ≤ 1000000000 → 0 ≤ acc → acc + lenS rest ≤ 1000000000 → (∀ y ∈ rest, OkS y) →
    Ev (fun k => tegulalaw34_RefcountLarge.l0 k q (pre ++ rest) g (acc + lenS rest) ((pre ++ rest).length : Int) 0 lx sx 0 ly sy out) r → Ev (fun k => tegulalaw34_RefcountLarge.l0 k q (pre ++ rest) g acc (pre.length : Int) 0 lx sx 0 ly sy out) r
  | [], pre, acc, _, _, _, _, h => by
    rw [List.append_nil, lenS, Int.add_zero] at h
    rw [List.append_nil]
    exact h
  | y :: rest, pre, acc, hlen, h0, h1, hy, h => by
    have hy0 := hy y List.mem_cons_self
    unfold OkS at hy0
    have hn := lenS_nonneg rest fun z hz => hy z (List.mem_cons_of_mem _ hz)
    rw [lenS] at h1
    have ih := large_loop (r := r) q g lx sx ly sy out rest (pre ++ [y]) (acc + y.f1) (by rw [List.append_assoc]; exact hlen) (by omega) (by omega) (fun w hw => hy w (List.mem_cons_of_mem _ hw)) (by rw [List.append_assoc, List.singleton_append]; rw [lenS, ← Int.add_assoc] at h; exact h)
    rw [List.append_assoc, List.singleton_append] at ih
    refine Ev.succ (fun k => ?_) ih
    simp only [tegulalaw34_RefcountLarge.l0]
    rw [if_pos (len_mid pre y rest), if_pos (by omega), rd_mid, next_mid pre y rest (by omega), w64 (n := acc + y.f1) (by omega) (by omega)]
/-- The length of what two intervals have in common. -/
def comI (lx sx ly sy : Int) : Int := mx 0 (wrap64 (mn (wrap64 (sx + lx)) (wrap64 (sy + ly)) - mx sx sy))
theorem comI_eq {lx sx ly sy : Int} (h1 : 1 ≤ lx) (h2 : 0 ≤ sx) (h3 : sx + lx ≤ 65536) (h4 : 1 ≤ ly) (h5 : 0 ≤ sy) (h6 : sy + ly ≤ 65536) : numP (fun t => inI sx lx t && inI sy ly t) 0 65536 = comI lx sx ly sy := by
  have e1 : wrap64 (sx + lx) = sx + lx := w64 (by omega) (by omega)
  have e2 : wrap64 (sy + ly) = sy + ly := w64 (by omega) (by omega)
  have hm : mx sx sy = if sx < sy then sy else sx := rfl
  have hn : mn (sx + lx) (sy + ly) = if sy + ly < sx + lx then sy + ly else sx + lx := rfl
  unfold comI
  rw [e1, e2]
  generalize ha : mx sx sy = a at hm ⊢
  generalize hb : mn (sx + lx) (sy + ly) = b at hn ⊢
  have ha0 : 0 ≤ a ∧ a ≤ 65536 ∧ sx ≤ a ∧ sy ≤ a ∧ (a = sx ∨ a = sy) := by split at hm <;> omega
  have hb0 : 0 ≤ b ∧ b ≤ 65536 ∧ b ≤ sx + lx ∧ b ≤ sy + ly ∧ (b = sx + lx ∨ b = sy + ly) := by split at hn <;> omega
  rw [w64 (n := b - a) (by omega) (by omega)]
  have hx0 : mx 0 (b - a) = if 0 < b - a then b - a else 0 := rfl
  rw [hx0]
  by_cases h : 0 < b - a
  · rw [if_pos h]
    have hh := numP_inI a (b - a).toNat 65536 (by omega) (by omega)
    rw [show (((b - a).toNat : Nat) : Int) = b - a by omega] at hh
    rw [← hh]
    refine numP_congr fun t _ _ => ?_
    show (inI sx lx t && inI sy ly t) = inI a (b - a) t
    rw [Bool.eq_iff_iff, Bool.and_eq_true, inI_iff, inI_iff, inI_iff]
    omega
  · rw [if_neg h]
    refine numP_false fun t _ _ => ?_
    show (inI sx lx t && inI sy ly t) = false
    rw [Bool.eq_false_iff]
    intro hh
    rw [Bool.and_eq_true, inI_iff, inI_iff] at hh
    omega
theorem large_main (z : List Int) (hl : z.length = 65536) (hz : ∀ t : Int, 0 ≤ t → t < 65536 → rd z t = 0) (hsum : z.sum = 0) (lx sx ly sy : Int) (h1 : 1 ≤ lx) (h2 : 0 ≤ sx) (h3 : sx + lx ≤ 65536) (h4 : 1 ≤ ly) (h5 : 0 ≤ sy) (h6 : sy + ly ≤ 65536) :
    permB (z.length : Int) [(⟨0, lx, sx⟩ : S41), ⟨0, ly, sy⟩] = true ∧ Ev (fun k => tegulalaw34_RefcountLarge.j0 k false (chg 1 [(⟨0, lx, sx⟩ : S41), ⟨0, ly, sy⟩] z) 0 lx sx 0 ly sy) true := by
  have hI0 : Inv 0 z := ⟨by omega, fun t t0 t1 => by rw [hz t t0 (by omega)]; omega⟩
  have okx : okL (z.length : Int) (⟨0, lx, sx⟩ : S41) := ⟨h1, h2, by show sx + lx ≤ _; omega⟩
  have oky : okL (z.length : Int) (⟨0, ly, sy⟩ : S41) := ⟨h4, h5, by show sy + ly ≤ _; omega⟩
  have hp : permB (z.length : Int) [(⟨0, lx, sx⟩ : S41), ⟨0, ly, sy⟩] = true := permB_iff.2 fun w hw => by
    rcases List.mem_cons.1 hw with rfl | hw
    · exact okx
    · rw [List.mem_singleton.1 hw]
      exact oky
  refine ⟨hp, ?_⟩
  have hI := hI0.add (by omega) (by simp) hp
  have hadd := fun t (t0 : 0 ≤ t) (t1 : t < (z.length : Int)) => add_get hI0 (by omega) (by simp) hp t0 t1
  have hsm := sum_chg [(⟨0, lx, sx⟩ : S41), ⟨0, ly, sy⟩] z 0 0 hI0.2 (by simp) (by simp) (permB_iff.1 hp)
  have hcl : (chg 1 [(⟨0, lx, sx⟩ : S41), ⟨0, ly, sy⟩] z).length = 65536 := (chg_len _ _ _).trans hl
  generalize hc : chg 1 [(⟨0, lx, sx⟩ : S41), ⟨0, ly, sy⟩] z = c at hI hadd hsm hcl ⊢
  have hget : ∀ t : Int, 0 ≤ t → t < 65536 → rd c t = (if inI sx lx t = true then 1 else 0) + if inI sy ly t = true then 1 else 0 := fun t t0 t1 => by
    rw [hadd t t0 (by omega), hz t t0 t1]
    simp only [cnt, inI_iff]
    omega
  have nx : numP (inI sx lx) 0 65536 = lx := by
    have := numP_inI sx lx.toNat 65536 h2 (by omega)
    rw [show ((lx.toNat : Nat) : Int) = lx by omega] at this
    exact this
  have ny : numP (inI sy ly) 0 65536 = ly := by
    have := numP_inI sy ly.toNat 65536 h5 (by omega)
    rw [show ((ly.toNat : Nat) : Int) = ly by omega] at this
    exact this
  have nq := comI_eq h1 h2 h3 h4 h5 h6
  have sx1 : numP (inI sx lx) 0 65536 = numP (fun t => inI sx lx t && inI sy ly t) 0 65536 + numP (fun t => inI sx lx t && !inI sy ly t) 0 65536 := numP_lin fun t _ _ => by
    cases inI sx lx t <;> cases inI sy ly t <;> decide
  have sy1 : numP (inI sy ly) 0 65536 = numP (fun t => inI sx lx t && inI sy ly t) 0 65536 + numP (fun t => inI sy ly t && !inI sx lx t) 0 65536 := numP_lin fun t _ _ => by
    cases inI sx lx t <;> cases inI sy ly t <;> decide
  have us : numP (fun t => !decide (rd c t = 0)) 0 65536 = numP (inI sx lx) 0 65536 + numP (fun t => inI sy ly t && !inI sx lx t) 0 65536 := numP_lin fun t t0 t1 => by
    show (if (!decide (rd c t = 0)) = true then (1 : Int) else 0) = _
    rw [hget t t0 (by omega)]
    cases inI sx lx t <;> cases inI sy ly t <;> decide
  have s1 : numP (fun t => inI sx lx t && decide (rd c t = 1)) 0 65536 = numP (fun t => inI sx lx t && !inI sy ly t) 0 65536 := numP_congr fun t t0 t1 => by
    show (inI sx lx t && decide (rd c t = 1)) = (inI sx lx t && !inI sy ly t)
    rw [hget t t0 (by omega)]
    cases inI sx lx t <;> cases inI sy ly t <;> decide
  have s2 : numP (fun t => inI sy ly t && (!inI sx lx t && decide (rd c t = 1))) 0 65536 = numP (fun t => inI sy ly t && !inI sx lx t) 0 65536 := numP_congr fun t t0 t1 => by
    show (inI sy ly t && (!inI sx lx t && decide (rd c t = 1))) = (inI sy ly t && !inI sx lx t)
    rw [hget t t0 (by omega)]
    cases inI sx lx t <;> cases inI sy ly t <;> decide
  have hsg := sgl_two c (by omega) ⟨0, lx, sx⟩ ⟨0, ly, sy⟩ (by rw [hcl, ← hl]; exact okx) (by rw [hcl, ← hl]; exact oky)
  rw [hcl] at hsg
  simp only at hsg
  rw [s1, s2] at hsg
  have hue := used_eq hI
  rw [hcl, us] at hue
  have hte := total_eq hI (by simp) (by simp)
  rw [hsm, hsum] at hte
  simp only [lenS] at hte
  have hb1 := numP_bound (fun t => inI sx lx t && !inI sy ly t) 65536 0
  have hb2 := numP_bound (fun t => inI sy ly t && !inI sx lx t) 65536 0
  have hb3 := numP_bound (fun t => inI sx lx t && inI sy ly t) 65536 0
  -- Drop
  have hpx : permB (c.length : Int) [(⟨0, lx, sx⟩ : S41)] = true := permB_iff.2 fun w hw => by
    rw [List.mem_singleton.1 hw, hcl, ← hl]
    exact okx
  have hout : ∀ t : Int, 0 ≤ t → t < 65536 → rd (chg (-1) [(⟨0, lx, sx⟩ : S41)] c) t = if inI sy ly t = true then 1 else 0 := fun t t0 t1 => by
    rw [sub_get hI (by simp) (by simp) hpx t0 (by omega), hget t t0 t1]
    simp only [cnt, inI_iff]
    omega
  have hneg : ¬ ∃ t : Int, 0 ≤ t ∧ t < c.length ∧ rd (chg (-1) [(⟨0, lx, sx⟩ : S41)] c) t < 0 := by
    rintro ⟨t, t0, t1, t2⟩
    rw [hout t t0 (by omega)] at t2
    split at t2 <;> omega
  obtain ⟨R, e1, hR, hRl⟩ := (code_Drop c [(⟨0, lx, sx⟩ : S41)] hI (by simp) (by simp)).2.2 hpx hneg
  have hIo := hI.sub (by simp) (by simp) hpx fun t t0 t1 => by
    rw [hout t t0 (by omega)]
    split <;> omega
  have hol : (chg (-1) [(⟨0, lx, sx⟩ : S41)] c).length = 65536 := (chg_len _ _ _).trans hcl
  generalize ho : chg (-1) [(⟨0, lx, sx⟩ : S41)] c = out at e1 hR hIo hol hout
  have hRn : lenS R = numP (fun t => inI sx lx t && !inI sy ly t) 0 65536 := runs_len hR _ 65536 fun t => by
    rw [Bool.and_eq_true, inI_iff, cov_cons]
    constructor
    · rintro ⟨t2, t3 | t3⟩
      · simp only at t3
        rw [hout t (by omega) (by omega)] at t2
        refine ⟨by omega, by omega, t3, ?_⟩
        cases hh : inI sy ly t
        · rfl
        · rw [hh] at t2
          exact absurd t2 (by decide)
      · exact absurd t3 (cov_nil _)
    · rintro ⟨t0, t1, t3, t4⟩
      refine ⟨?_, .inl t3⟩
      rw [hout t t0 (by omega)]
      cases hh : inI sy ly t
      · rfl
      · rw [hh] at t4
        exact absurd t4 (by decide)
  have huo := used_eq hIo
  have hu2 : numP (fun t => !decide (rd out t = 0)) 0 65536 = numP (inI sy ly) 0 65536 := numP_congr fun t t0 t1 => by
    show (!decide (rd out t = 0)) = inI sy ly t
    rw [hout t t0 (by omega)]
    cases inI sy ly t <;> decide
  rw [hol, hu2, ny] at huo
  have hof : ofV out sy = 1 := by
    unfold ofV
    rw [if_pos (by omega), hout sy (by omega) (by omega), if_pos (inI_iff.2 (by omega))]
  -- the law's steps
  have hcm : mx 0 (wrap64 (mn (wrap64 (sx + lx)) (wrap64 (sy + ly)) - mx sx sy)) = comI lx sx ly sy := rfl
  refine Ev.succ (g := fun k => (refcount_Counts_Single.f k c [(⟨0, lx, sx⟩ : S41), ⟨0, ly, sy⟩]).bind fun t244 => tegulalaw34_RefcountLarge.j1 k (comI lx sx ly sy) (t244 != wrap64 (wrap64 (lx + ly) - wrap64 (2 * comI lx sx ly sy))) c 0 lx sx 0 ly sy) (fun k => ?_) ?_
  · simp only [tegulalaw34_RefcountLarge.j0]
    rw [if_neg (by decide), hte]
    simp only [Option.bind_some, hcm]
    rw [w64 (n := lx + ly) (by omega) (by omega), if_pos (by omega), hue]
    simp only [Option.bind_some]
    rw [w64 (n := lx + ly - comI lx sx ly sy) (by omega) (by omega), if_pos (by omega)]
  refine Ev.bind hsg ?_
  have hne : ((numP (fun t => inI sx lx t && !inI sy ly t) 0 65536 + numP (fun t => inI sy ly t && !inI sx lx t) 0 65536) != wrap64 (wrap64 (lx + ly) - wrap64 (2 * comI lx sx ly sy))) = false := by
    rw [w64 (n := lx + ly) (by omega) (by omega), w64 (n := 2 * comI lx sx ly sy) (by omega) (by omega), w64 (by omega) (by omega)]
    rw [show numP (fun t => inI sx lx t && !inI sy ly t) 0 65536 + numP (fun t => inI sy ly t && !inI sx lx t) 0 65536 = lx + ly - 2 * comI lx sx ly sy by omega]
    exact bne_self_eq_false _
  rw [hne]
  refine Ev.succ (g := fun k => (refcount_Counts_Drop.f k c [(⟨0, lx, sx⟩ : S41)]).bind fun bt248 => tegulalaw34_RefcountLarge.l0 k (comI lx sx ly sy) bt248.2.1 bt248.2.2 0 0 0 lx sx 0 ly sy bt248.1) (fun k => ?_) ?_
  · simp only [tegulalaw34_RefcountLarge.j1]
    rw [if_neg (by decide)]
  refine Ev.bind e1 ?_
  refine large_loop (comI lx sx ly sy) 0 lx sx ly sy out R [] 0 (by simp; omega) (by omega) (by omega) hR.2.1 ?_
  refine Ev.succ (g := fun _ => some true) (fun k => ?_) (Ev.now fun _ => rfl)
  simp only [tegulalaw34_RefcountLarge.l0, List.nil_append]
  rw [if_neg (by omega), if_pos trivial, if_pos (by rw [w64 (by omega) (by omega)]; omega), huo]
  simp only [Option.bind_some]
  rw [if_pos trivial, code_Of, hof]
  rfl
theorem tmod_eq {a b : Int} (h0 : 0 ≤ a) (h1 : a ≤ 65535) (h2 : 0 ≤ b) (_h3 : b ≤ 65535) : ∃ n, wrap64 (1 + Int.tmod b (65536 - a)) = n ∧ 1 ≤ n ∧ a + n ≤ 65536 := by
  have h4 := Int.emod_nonneg b (b := 65536 - a) (by omega)
  have h5 := Int.emod_lt_of_pos b (b := 65536 - a) (by omega)
  refine ⟨1 + b % (65536 - a), ?_, by omega, by omega⟩
  rw [Int.tmod_eq_emod_of_nonneg h2, w64 (by omega) (by omega)]
theorem zeros_sum : ∀ n : Nat, (List.replicate n (0 : Int)).sum = 0
  | 0 => rfl
  | n + 1 => by rw [List.replicate_succ, List.sum_cons, zeros_sum n]; rfl
theorem zeros_rd (n : Nat) (t : Int) (t0 : 0 ≤ t) (t1 : t < n) : rd (List.replicate n 0) t = 0 := List.eq_of_mem_replicate (mem_rd.2 ⟨t, t0, by rw [List.length_replicate]; exact t1, rfl⟩)
theorem large_new : ∃ z : List Int, refcount_New.f 65536 = some (z, 0) ∧ z.length = 65536 ∧ (∀ t : Int, 0 ≤ t → t < 65536 → rd z t = 0) ∧ z.sum = 0 := by
  obtain ⟨n, hn⟩ : ∃ n : Nat, (n : Int) = 65536 := ⟨65536, rfl⟩
  refine ⟨List.replicate n 0, ?_, by rw [List.length_replicate]; omega, fun t t0 t1 => zeros_rd n t t0 (by omega), zeros_sum n⟩
  rw [← hn, new_code (n : Int) (by omega) (by omega), Int.toNat_natCast]
theorem large_ev (a0 a1 b0 b1 : Int) (ha0 : 0 ≤ a0 ∧ a0 ≤ 65535) (ha1 : 0 ≤ a1 ∧ a1 ≤ 65535) (hb0 : 0 ≤ b0 ∧ b0 ≤ 65535) (hb1 : 0 ≤ b1 ∧ b1 ≤ 65535) : Ev (fun k => tegulalaw34_RefcountLarge.f k a0 a1 b0 b1) true := by
  obtain ⟨lx, ex, x1, x2⟩ := tmod_eq ha0.1 ha0.2 ha1.1 ha1.2
  obtain ⟨ly, ey, y1, y2⟩ := tmod_eq hb0.1 hb0.2 hb1.1 hb1.2
  have wa : wrap64 a0 = a0 := w64 (by omega) (by omega)
  have wb : wrap64 b0 = b0 := w64 (by omega) (by omega)
  have wa1 : wrap64 a1 = a1 := w64 (by omega) (by omega)
  have wb1 : wrap64 b1 = b1 := w64 (by omega) (by omega)
  have ka : wrap64 (65536 - a0) = 65536 - a0 := w64 (by omega) (by omega)
  have kb : wrap64 (65536 - b0) = 65536 - b0 := w64 (by omega) (by omega)
  obtain ⟨z, hn, hl, hz, hs⟩ := large_new
  obtain ⟨hp, hm⟩ := large_main z hl hz hs lx a0 ly b0 x1 ha0.1 x2 y1 hb0.1 y2
  have hadd := code_Add z [(⟨0, lx, a0⟩ : S41), ⟨0, ly, b0⟩] (by omega) (by simp)
  have ha : addO [(⟨0, lx, a0⟩ : S41), ⟨0, ly, b0⟩] z = (chg 1 [(⟨0, lx, a0⟩ : S41), ⟨0, ly, b0⟩] z, 0) := if_pos hp
  rw [ha] at hadd
  refine Ev.bind awake_ev (Ev.ite (fun _ => ?_) (fun h => absurd rfl h))
  refine Ev.bind (Ev.now fun _ => hn) ?_
  refine Ev.same (g := fun k => (refcount_Counts_Add.f k z [(⟨0, lx, a0⟩ : S41), ⟨0, ly, b0⟩]).bind fun bt235 => tegulalaw34_RefcountLarge.j0 k (bt235.2 != 0) bt235.1 0 lx a0 0 ly b0) (fun k => ?_) (Ev.bind hadd hm)
  have q1 : ¬ (65536 - a0 = 0) := by omega
  have q2 : ¬ (65536 - b0 = 0) := by omega
  simp only [wa, wb, wa1, wb1, ka, kb, ex, ey, if_neg q1, if_neg q2, if_true]
end Go.Proofs.Ytnloofhpdlggnaa.PRefcountLarge
namespace Go.Proofs.Ytnloofhpdlggnaa.Pure
open Go.RowKit
theorem RefcountLarge : ∀ (a0_0 : Int) (a0_1 : Int) (a1_0 : Int) (a1_1 : Int), (Lit.int .u16 a0_0).wf = true → (Lit.int .u16 a0_1).wf = true → (Lit.int .u16 a1_0).wf = true → (Lit.int .u16 a1_1).wf = true → ∃ k, PRefcountLarge.tegulalaw34_RefcountLarge.f k a0_0 a0_1 a1_0 a1_1 = some true := fun a0 a1 b0 b1 h0 h1 h2 h3 => (PRefcountLarge.large_ev a0 a1 b0 b1 (bounds_u16 h0) (bounds_u16 h1) (bounds_u16 h2) (bounds_u16 h3)).ex
end Go.Proofs.Ytnloofhpdlggnaa.Pure
