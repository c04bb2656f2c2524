/- AllocRestores: giving back what Take returned restores the map; taken slots were free, and are different. No condition beside the law's own. -/
import Derived.Test.YtcjpikjbjehjeaaAlo7AllocB
import Derived.Test.YtcjpikjbjehjeaaPAllocByAllocRestores
import Derived.OpenShut
namespace Go.Proofs.Ytcjpikjbjehjeaa.PAllocB
open Go.RowKit Go.Proofs.YtcjpikjbjehjeaaW.PrintWords
set_option linter.unusedVariables false
set_option linter.unusedSimpArgs false
theorem res_inner {r : Bool} {m : List Bool} {rs1 : List S53} (hm : m.length ≤ 99) (hr1 : RO (-1) rs1) (ho1 : ∀ x ∈ rs1, OkS x) (hl1 : rs1.length ≤ 1000000) (l : List S53) (i : Int) (h0 : 0 ≤ i) (h1 : i < l.length) (x : S53) (hx : rd_T53 l i = x) (hok : okL m.length x) (n h M : Int) (rs : List S53) (M1 : Int) :
    ∀ (d : Nat) (s c : Int), x.f2 ≤ s → s + d = x.f2 + x.f1 → (∀ t, s ≤ t → t < s + d → fr m t ∧ covB rs1 t = false) → 0 ≤ c → c + d ≤ 100 →
      Ev (fun k => tegulalaw35_AllocRestores.l0 k m l (c + d) (wrap64 (i + 1)) n h M rs M1 rs1) r → Ev (fun k => tegulalaw35_AllocRestores.l1 k m l c i s n h M rs M1 rs1) r
  | 0, s, c, h2, h3, h4, h5, h6, hr => by
    obtain ⟨o1, o2, o3⟩ := hok
    rw [show c + ((0 : Nat) : Int) = c by omega] at hr
    refine Ev.succ (fun k => ?_) hr
    simp only [tegulalaw35_AllocRestores.l1]
    rw [if_pos h0, if_pos h1, hx, w64 (n := x.f2 + x.f1) (by omega) (by omega), if_neg (by omega)]
  | d + 1, s, c, h2, h3, h4, h5, h6, hr => by
    have hok' := hok
    obtain ⟨o1, o2, o3⟩ := hok'
    obtain ⟨⟨f1, f2, f3⟩, hc⟩ := h4 s (Int.le_refl _) (by omega)
    have hrd : rdOf false m s = false := by
      unfold frB at f3
      simpa using f3
    rw [show c + ((d + 1 : Nat) : Int) = c + 1 + (d : Int) by omega] at hr
    have ih := res_inner hm hr1 ho1 hl1 l i h0 h1 x hx hok n h M rs M1 d (s + 1) (c + 1) (by omega) (by omega) (fun t h7 h8 => h4 t (by omega) (by omega)) (by omega) (by omega) hr
    have hi := is_eq M1 hr1 ho1 hl1 s
    rw [hc] at hi
    refine Ev.succ (g := fun k => (alloc_Map_Is.f k M1 rs1 s).bind fun t652 => if t652 = true then some false else tegulalaw35_AllocRestores.l1 k m l (c + 1) i (s + 1) n h M rs M1 rs1) (fun k => ?_) (Ev.bind hi (Ev.ite (fun h => absurd h (by decide)) (fun _ => ih)))
    simp only [tegulalaw35_AllocRestores.l1]
    rw [if_pos h0, if_pos h1, hx, w64 (n := x.f2 + x.f1) (by omega) (by omega), if_pos (by omega), if_neg (by omega), if_neg (by omega), if_pos (by omega), if_pos (by omega), if_neg (by rw [hrd]; decide), w64 (n := c + 1) (by omega) (by omega), w64 (n := s + 1) (by omega) (by omega)]
    congr 1
    funext t652
    split
    · rfl
    · rw [if_neg (by omega)]
theorem res_loop {r : Bool} {m : List Bool} {rs1 : List S53} (hm : m.length ≤ 99) (hr1 : RO (-1) rs1) (ho1 : ∀ x ∈ rs1, OkS x) (hl1 : rs1.length ≤ 1000000) (n h M : Int) (rs : List S53) (M1 : Int) : ∀ (rest pre : List S53) (c : Int), (pre ++ rest).length ≤ 1000000 → (∀ x ∈ rest, okL m.length x) → (∀ t, Cov rest t → fr m t ∧ covB rs1 t = false) → 0 ≤ c → c + lenS rest ≤ 100 →
    Ev (fun k => tegulalaw35_AllocRestores.l0 k m (pre ++ rest) (c + lenS rest) ((pre ++ rest).length : Int) n h M rs M1 rs1) r → Ev (fun k => tegulalaw35_AllocRestores.l0 k m (pre ++ rest) c (pre.length : Int) n h M rs M1 rs1) r
  | [], pre, c, _, _, _, _, _, hr => by
    rw [lenS, Int.add_zero] at hr
    rw [List.append_nil] at hr ⊢
    exact hr
  | x :: rest, pre, c, hlen, hok, hcv, h0, h1, hr => by
    have hnext := next_mid pre x rest (by omega)
    have hx := hok x List.mem_cons_self
    have hx' := hx
    obtain ⟨o1, o2, o3⟩ := hx'
    have hrest := lenS_nonneg fun y hy => by have := (hok y (List.mem_cons_of_mem _ hy)).1; omega
    rw [lenS] at h1 hr
    rw [← Int.add_assoc] at hr
    have ih := res_loop (r := r) hm hr1 ho1 hl1 n h M rs M1 rest (pre ++ [x]) (c + x.f1) (by simpa using hlen) (fun y hy => hok y (List.mem_cons_of_mem _ hy)) (fun t ht => hcv t ((cov_cons _ _ _).2 (.inr ht))) (by omega) (by omega)
    rw [List.append_assoc, List.singleton_append, ← hnext] at ih
    have e : c + x.f1 = c + (x.f1.toNat : Int) := by omega
    rw [e] at ih
    refine Ev.succ (fun k => ?_) (res_inner hm hr1 ho1 hl1 (pre ++ x :: rest) (pre.length : Int) (by omega) (len_mid pre x rest) x (rd_mid pre x rest) hx n h M rs M1 x.f1.toNat x.f2 c (Int.le_refl _) (by omega) (fun t h7 h8 => hcv t ((cov_cons _ _ _).2 (.inl ⟨h7, by omega⟩))) h0 (by omega) (ih (by rw [← e]; exact hr)))
    simp only [tegulalaw35_AllocRestores.l0]
    rw [if_pos (len_mid pre x rest), if_pos (by omega), rd_mid]
theorem restores_ev (a0 : Int) (l : List S57) (n h : Int) (h0 : 0 ≤ a0) (h1 : a0 ≤ 255) (hl : l.length ≤ 9223372036854775807) : Ev (fun k => tegulalaw35_AllocRestores.f k a0 l n h) true := by
  refine Ev.bind awake_ev (Ev.ite (fun _ => ?_) (fun h => absurd rfl h))
  refine Ev.bind (few_eq l hl) ?_
  refine Ev.ite (fun hf => ?_) (fun _ => Ev.now fun _ => rfl)
  obtain ⟨m, rs, e, hm, hr⟩ := build_eq a0 l h0 h1 hf
  obtain ⟨l1, M', rs', m', er, e1, e2, hl1, hT⟩ := take_eq m hm rs hr (wrap64 n) (wrap64 h)
  refine Ev.bind e (Ev.ite (fun _ => Ev.bind e1 ?_) (fun h => absurd rfl h))
  rcases hT with ⟨he, _⟩ | ⟨he, _⟩ | ⟨he, hn0, hle, _, _, hM, hml, hr', hfr, hpl, hcf, hln, _⟩
  · exact Ev.ite (fun h => absurd (he.symm.trans h) (by decide)) (fun _ => Ev.now fun _ => rfl)
  · exact Ev.ite (fun h => absurd (he.symm.trans h) (by decide)) (fun _ => Ev.now fun _ => rfl)
  · refine Ev.ite (fun _ => ?_) (fun h => absurd he h)
    have hnb := (numP_bound (frB m) m.length 0).2
    have hnF : numF m = numP (frB m) 0 m.length := rfl
    have hs' := runs_short (N := m'.length) hr' fun t h => h.2.1
    have hno : ∀ t, Cov l1 t → ¬ fr m' t := fun t ht hf => ((hfr t).1 hf).2 ht
    have hloop := res_loop (r := true) (m := m) (rs1 := rs') hm hr'.1 hr'.2.1 (by omega) n h m.length rs M' l1 [] 0 (by simpa using (by omega)) (permB_iff.1 hpl.1) (fun t ht => ⟨hcf t ht, Bool.eq_false_iff.2 fun h => hno t ht ((hr'.2.2 t).1 (covB_iff.1 h))⟩) (Int.le_refl _) (by omega)
    refine hloop ?_
    rw [Int.zero_add, hln, List.nil_append]
    obtain ⟨R, eR, hR⟩ := (give_eq (n := m.length) (by omega) hr' (fun t h => ⟨h.1, by have := h.2.1; omega⟩) hl1).2.2 hpl hno
    have hRm : IsRuns (fr m) R := hR.of fun t => by
      rw [hfr t]
      constructor
      · rintro (h | h)
        · exact h.1
        · exact hcf t h
      · intro h
        by_cases hc : Cov l1 t
        · exact .inr hc
        · exact .inl ⟨h, hc⟩
    obtain ⟨Q, _, hQ⟩ := permitted_eq m.length (by omega) (by omega) [] l1 hl1 hpl.1
    have hsub := (sub_len (n := m.length) hr hQ (hr'.of hfr) (fun t h => ⟨h.1, h.2.1⟩) (ro_cov_ok hpl.1)).2 hcf
    have hQl := hpl.2 Q hQ
    have hf1 := free_ev M' (by omega) hr'
    have hf0 := free_ev m.length hm hr
    have e5 := lenS_free hr
    have e6 := lenS_free hr'
    have hM' : M' = m.length := by omega
    subst hM'
    refine Ev.shift ?_
    simp only [tegulalaw35_AllocRestores.l0]
    refine Ev.same (fun k => if_neg (by omega)) (Ev.bind eR (Ev.ite (fun _ => Ev.ite (fun _ => Ev.bind (same_true hm hRm) (Ev.ite (fun _ => Ev.bind hf1 (Ev.bind hf0 (Ev.now fun _ => ?_))) (fun h => absurd rfl h))) (fun h => absurd trivial h)) (fun h => absurd rfl h)))
    rw [w64 (n := numF m - wrap64 n) (by omega) (by omega), show numF m - wrap64 n = numF m' by omega]
    simp
end Go.Proofs.Ytcjpikjbjehjeaa.PAllocB
namespace Go.Proofs.Ytcjpikjbjehjeaa.Pure
open Go.RowKit
theorem AllocRestores : ∀ (a0 : Int) (l1 : (List PAllocB.S57)) (a2_0 : Int) (a2_1 : Int), (Lit.int .u8 a0).wf = true → (l1.length ≤ maxLen ∧ ∀ yl1 ∈ l1, ((Lit.int .u8 yl1.f0).wf = true ∧ (Lit.int .u8 yl1.f1).wf = true ∧ (Lit.int .u8 yl1.f2).wf = true ∧ (yl1.f3.length ≤ maxLen ∧ ∀ yyl1_f3 ∈ yl1.f3, ((Lit.int .i64 yyl1_f3.f0).wf = true ∧ (Lit.int .i64 yyl1_f3.f1).wf = true ∧ (Lit.int .i64 yyl1_f3.f2).wf = true)))) → (Lit.int .u8 a2_0).wf = true → (Lit.int .u8 a2_1).wf = true → ∃ k, PAllocB.tegulalaw35_AllocRestores.f k a0 l1 a2_0 a2_1 = some true := fun a0 l a1 a2 h0 hl _ _ => (PAllocB.restores_ev a0 l a1 a2 (bounds_u8 h0).1 (bounds_u8 h0).2 (Nat.le_trans hl.1 (by decide))).ex
end Go.Proofs.Ytcjpikjbjehjeaa.Pure
