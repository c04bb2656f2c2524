/- RefcountSums: Add increases Total by the number of listed slots; Used and the slots of Zero are the number of slots. No condition beside the law's own. -/
import Derived.Test.YtnloofhpdlggnaaRef5Refcount
import Derived.Test.YtnloofhpdlggnaaPRefcountyRefcountSums
import Derived.OpenShut
namespace Go.Proofs.Ytnloofhpdlggnaa.PRefcount
open Go.RowKit Go.Proofs.YtnloofhpdlggnaaW.PrintWords
theorem sums_loop {r : Bool} (z : Int) (c x : List Int) : ∀ (rest pre : List S41) (acc : Int), (pre ++ rest).length ≤ 1000000 → 0 ≤ acc → acc + rest.length * 65536 ≤ 1000000000000 → (∀ y ∈ rest, 0 ≤ y.f1 ∧ y.f1 ≤ 65536) →
    Ev (fun k => (refcount_Counts_Zero.f k x).bind fun t423 => (tegulalaw34_RefcountSums.l1 k (acc + lenS rest) z t423 0 c x)) r → Ev (fun k => tegulalaw34_RefcountSums.l0 k (pre ++ rest) acc z (pre.length : Int) c x) r
  | [], pre, acc, _, _, _, _, h => by
    refine Ev.succ (fun k => ?_) h
    simp only [tegulalaw34_RefcountSums.l0, List.append_nil, lenS, Int.add_zero]
    rw [if_neg (by omega)]
  | y :: rest, pre, acc, hlen, h0, h1, hy, h => by
    have hy0 := hy y List.mem_cons_self
    rw [List.length_cons] at h1
    have ih := sums_loop (r := r) z c x rest (pre ++ [y]) (acc + y.f1) (by rw [List.append_assoc]; exact hlen) (by omega) (by omega) (fun w hw => hy w (List.mem_cons_of_mem _ hw)) (by rw [lenS, ← Int.add_assoc] at h; exact h)
    rw [List.append_assoc, List.singleton_append] at ih
    refine Ev.succ (fun k => ?_) ih
    simp only [tegulalaw34_RefcountSums.l0]
    rw [if_pos (len_mid pre y rest), if_pos (by omega), rd_mid, next_mid pre y rest (by omega), w64 (n := acc + y.f1) (by omega) (by omega)]
theorem sums_loop2 {r : Bool} (m : Int) (c x : List Int) : ∀ (rest pre : List S41) (acc : Int), (pre ++ rest).length ≤ 1000000 → 0 ≤ acc → acc + rest.length * 65536 ≤ 1000000000000 → (∀ y ∈ rest, OkS y) →
    Ev (fun k => tegulalaw34_RefcountSums.l1 k m (acc + lenS rest) (pre ++ rest) ((pre ++ rest).length : Int) c x) r → Ev (fun k => tegulalaw34_RefcountSums.l1 k m acc (pre ++ rest) (pre.length : Int) c x) r
  | [], pre, acc, _, _, _, _, h => by
    rw [List.append_nil, lenS, Int.add_zero] at h
    rw [List.append_nil]
    exact h
  | y :: rest, pre, acc, hlen, h0, h1, hy, h => by
    have hy0 := hy y List.mem_cons_self
    unfold OkS at hy0
    rw [List.length_cons] at h1
    have ih := sums_loop2 (r := r) m c x rest (pre ++ [y]) (acc + y.f1) (by rw [List.append_assoc]; exact hlen) (by omega) (by omega) (fun w hw => hy w (List.mem_cons_of_mem _ hw)) (by rw [List.append_assoc, List.singleton_append]; rw [lenS, ← Int.add_assoc] at h; exact h)
    rw [List.append_assoc, List.singleton_append] at ih
    refine Ev.succ (fun k => ?_) ih
    simp only [tegulalaw34_RefcountSums.l1]
    rw [if_pos (len_mid pre y rest), if_pos (by omega), rd_mid, next_mid pre y rest (by omega), w64 (n := acc + y.f1) (by omega) (by omega)]
theorem lenS_bound : ∀ (l : List S41), (∀ y ∈ l, 0 ≤ y.f1 ∧ y.f1 ≤ 65536) → 0 ≤ lenS l ∧ lenS l ≤ l.length * 65536
  | [], _ => by simp [lenS]
  | y :: l, h => by
    have hy := h y List.mem_cons_self
    have ih := lenS_bound l fun z hz => h z (List.mem_cons_of_mem _ hz)
    rw [lenS, List.length_cons]
    omega
theorem sums_ev (a0 : Int) (l : List S57) (l2 : List S41) (h0 : 0 ≤ a0) (h1 : a0 ≤ 255) (hl : l.length ≤ 9223372036854775807) : Ev (fun k => tegulalaw34_RefcountSums.f k a0 l l2) true := by
  refine Ev.bind awake_ev (Ev.ite (fun _ => ?_) (fun h => absurd rfl h))
  refine Ev.bind (few_eq l hl) ?_
  refine Ev.ite (fun hf => ?_) (fun _ => Ev.succ (g := fun _ => some true) (fun k => by simp only [tegulalaw34_RefcountSums.j0]; rw [if_pos trivial]) (Ev.now fun _ => rfl))
  by_cases hl2 : (l2.length : Int) > 8
  · refine Ev.succ (g := fun _ => some true) (fun k => ?_) (Ev.now fun _ => rfl)
    simp only [tegulalaw34_RefcountSums.j0]
    rw [if_pos (decide_eq_true hl2)]
  · obtain ⟨c, e, hI, _⟩ := build_eq a0 l h0 h1 hf
    have hc := hI.1
    have hl8 : l2.length ≤ 8 := by omega
    refine Ev.succ (g := fun k => (tegulalaw34_build.f k a0 l).bind fun bt409 => (if bt409.2.2 = true then ((refcount_Counts_Add.f k bt409.1 l2).bind fun bt417 => (if bt417.2 = 0 then (tegulalaw34_RefcountSums.l0 k l2 0 0 0 bt409.1 bt417.1) else (some true))) else (some false))) (fun k => ?_) ?_
    · simp only [tegulalaw34_RefcountSums.j0]
      rw [if_neg (by rw [decide_eq_false hl2]; decide)]
    · refine Ev.bind e (Ev.ite (fun _ => ?_) (fun h => absurd rfl h))
      refine Ev.bind (code_Add c l2 (by omega) (by omega)) ?_
      by_cases hp : permB (c.length : Int) l2 = true
      · have ha : addO l2 c = (chg 1 l2 c, 0) := if_pos hp
        rw [ha]
        refine Ev.ite (fun _ => ?_) (fun h => absurd rfl h)
        have hx := hI.add (by omega) (by omega) hp
        have hxl : (chg 1 l2 c).length = c.length := chg_len _ _ _
        have hb2 : ∀ y ∈ l2, 0 ≤ y.f1 ∧ y.f1 ≤ 65536 := fun y hy => by
          have := permB_iff.1 hp y hy
          unfold okL at this
          omega
        have hlb := lenS_bound l2 hb2
        obtain ⟨R, e1, hR, hRl⟩ := code_Zero (chg 1 l2 c) (by omega)
        have hz := zero_len hR
        have hsum := sum_chg l2 c 0 160 hI.2 (by omega) (by omega) (permB_iff.1 hp)
        have hsb := sum_bound (by omega) c hI.nonneg
        have hnb := numP_bound (fun t => decide (rd (chg 1 l2 c) t = 0)) (chg 1 l2 c).length 0
        have hnot := numP_not (fun t => decide (rd (chg 1 l2 c) t = 0)) (chg 1 l2 c).length 0
        refine sums_loop 0 c (chg 1 l2 c) l2 [] 0 (by simp; omega) (by omega) (by omega) hb2 ?_
        refine Ev.bind e1 ?_
        refine sums_loop2 (0 + lenS l2) c (chg 1 l2 c) R [] 0 (by simp; omega) (by omega) (by omega) hR.2.1 ?_
        refine Ev.succ (g := fun _ => some true) (fun k => ?_) (Ev.now fun _ => rfl)
        simp only [tegulalaw34_RefcountSums.l1, List.nil_append]
        rw [if_neg (by omega), total_eq hx (by omega) (by omega), total_eq hI (by omega) (by omega)]
        simp only [Option.bind_some]
        rw [if_pos (by rw [w64 (by omega) (by omega)]; omega), used_eq hx]
        simp only [Option.bind_some, refcount_Counts_Slots.f]
        rw [if_pos (by rw [w64 (by omega) (by omega)]; omega), hxl]
        simp
      · have ha : addO l2 c = ([], 2) := if_neg hp
        rw [ha]
        exact Ev.ite (fun h => absurd h (by decide)) (fun _ => Ev.now fun _ => rfl)
end Go.Proofs.Ytnloofhpdlggnaa.PRefcount
namespace Go.Proofs.Ytnloofhpdlggnaa.Pure
open Go.RowKit
theorem RefcountSums : ∀ (a0 : Int) (l1 : (List PRefcount.S57)) (l2 : (List PRefcount.S41)), (Lit.int .u8 a0).wf = true → (l1.length ≤ maxLen ∧ ∀ yl1 ∈ l1, (True ∧ (yl1.f1.length ≤ maxLen ∧ ∀ yyl1_f1 ∈ yl1.f1, ((Lit.int .i64 yyl1_f1.f0).wf = true ∧ (Lit.int .i64 yyl1_f1.f1).wf = true ∧ (Lit.int .i64 yyl1_f1.f2).wf = true)))) → (l2.length ≤ maxLen ∧ ∀ yl2 ∈ l2, ((Lit.int .i64 yl2.f0).wf = true ∧ (Lit.int .i64 yl2.f1).wf = true ∧ (Lit.int .i64 yl2.f2).wf = true)) → ∃ k, PRefcount.tegulalaw34_RefcountSums.f k a0 l1 l2 = some true := fun a0 l l2 h0 hl _ => (PRefcount.sums_ev a0 l l2 (bounds_u8 h0).1 (bounds_u8 h0).2 (Nat.le_trans hl.1 (by decide))).ex
end Go.Proofs.Ytnloofhpdlggnaa.Pure
