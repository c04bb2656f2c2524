-- Written for this claim by a program of this session (wip/), out of the translation's own print: Lean checks it
import Derived.Test.YtcjpikjbjehjeaaPAllocBx0
import Derived.Test.YtcjpikjbjehjeaaPAllocBx11
namespace Go.Proofs.Ytcjpikjbjehjeaa.PAllocB
open Go.RowKit Go.Proofs.YtcjpikjbjehjeaaW.PrintWords Go.Proofs.YtcjpikjbjehjeaaW.PrintLast Go.Proofs.YtcjpikjbjehjeaaW.PrintMore
attribute [local go_sem] max2_int min2_int max_two min_two max_three min_three max_four min_four   -- for this text's walks alone
set_option linter.unusedVariables false
set_option linter.unusedSimpArgs false

/-! ### tegularef32_Runs: function 64 -/
mutual
def tegularef32_Runs.l0 : Nat → List (S53) → List (S53) → Int → Option ((List (S53)))
 | 0, _, _, _ => none
 | k + 1, x0, x3, x4 => tegularef32_Runs.l1 k x0 x3 x4 0 false 0
def tegularef32_Runs.l1 : Nat → List (S53) → List (S53) → Int → Int → Bool → Int → Option ((List (S53)))
 | 0, _, _, _, _, _, _ => none
 | k + 1, x0, x3, x4, x5, x6, x7 => if x7 < (x0.length : Int) then (if 0 ≤ x7 then ((tegularef32_One.f ((rd_T53 x0 x7).f0) ((rd_T53 x0 x7).f1) ((rd_T53 x0 x7).f2)).bind fun t380 => (if t380 = true then (tegularef32_Runs.j2 k x0 x3 x4 x5 x6 x7 (decide ((wrap64 (((rd_T53 x0 x7).f2) + ((rd_T53 x0 x7).f1))) ≤ x4))) else (tegularef32_Runs.j2 k x0 x3 x4 x5 x6 x7 true))) else (none)) else (if x6 = true then (tegularef32_Runs.l2 k x0 x3 x5 x5 0) else (some x3))
def tegularef32_Runs.j2 : Nat → List (S53) → List (S53) → Int → Int → Bool → Int → Bool → Option ((List (S53)))
 | 0, _, _, _, _, _, _, _ => none
 | k + 1, x0, x3, x4, x5, x6, x7, x37 => if x37 = true then (tegularef32_Runs.l1 k x0 x3 x4 x5 x6 (wrap64 (x7 + 1))) else (if 0 ≤ x7 then (if x7 < (x0.length : Int) then (if x6 = true then (if (mx ((rd_T53 x0 x7).f2) x4) < x5 then (tegularef32_Runs.l1 k x0 x3 x4 (mx ((rd_T53 x0 x7).f2) x4) true (wrap64 (x7 + 1))) else (tegularef32_Runs.l1 k x0 x3 x4 x5 x6 (wrap64 (x7 + 1)))) else (tegularef32_Runs.l1 k x0 x3 x4 (mx ((rd_T53 x0 x7).f2) x4) true (wrap64 (x7 + 1)))) else (none)) else (none))
def tegularef32_Runs.l2 : Nat → List (S53) → List (S53) → Int → Int → Int → Option ((List (S53)))
 | 0, _, _, _, _, _ => none
 | k + 1, x0, x3, x4, x5, x9 => if x9 < (x0.length : Int) then (if 0 ≤ x9 then ((tegularef32_One.f ((rd_T53 x0 x9).f0) ((rd_T53 x0 x9).f1) ((rd_T53 x0 x9).f2)).bind fun t385 => (if t385 = true then (if ((rd_T53 x0 x9).f2) ≤ x5 then (if (wrap64 (((rd_T53 x0 x9).f2) + ((rd_T53 x0 x9).f1))) > x4 then (tegularef32_Runs.l2 k x0 x3 (wrap64 (((rd_T53 x0 x9).f2) + ((rd_T53 x0 x9).f1))) x5 (wrap64 (x9 + 1))) else (tegularef32_Runs.l2 k x0 x3 x4 x5 (wrap64 (x9 + 1)))) else (tegularef32_Runs.l2 k x0 x3 x4 x5 (wrap64 (x9 + 1)))) else (tegularef32_Runs.l2 k x0 x3 x4 x5 (wrap64 (x9 + 1))))) else (none)) else (if (wrap64 ((x3.length : Int) - 1)) ≥ 0 then (if 0 ≤ (wrap64 ((x3.length : Int) - 1)) then (if (wrap64 ((x3.length : Int) - 1)) < (x3.length : Int) then (if (wrap64 (((rd_T53 x3 (wrap64 ((x3.length : Int) - 1))).f2) + ((rd_T53 x3 (wrap64 ((x3.length : Int) - 1))).f1))) = x5 then (tegularef32_Runs.l0 k x0 (x3.set ((wrap64 ((x3.length : Int) - 1)) : Int).toNat (⟨(rd_T53 x3 (wrap64 ((x3.length : Int) - 1))).f0, wrap64 (((rd_T53 x3 (wrap64 ((x3.length : Int) - 1))).f1) + (wrap64 (x4 - x5))), (rd_T53 x3 (wrap64 ((x3.length : Int) - 1))).f2⟩ : S53)) x4) else (if x3.length < 5864062014805 then (tegularef32_Runs.l0 k x0 (x3 ++ [(⟨0, wrap64 (x4 - x5), x5⟩ : S53)]) x4) else (none))) else (none)) else (none)) else (if x3.length < 5864062014805 then (tegularef32_Runs.l0 k x0 (x3 ++ [(⟨0, wrap64 (x4 - x5), x5⟩ : S53)]) x4) else (none)))
end
def tegularef32_Runs.f (k : Nat) (l0 : List (S53)) : Option ((List (S53))) := tegularef32_Runs.l0 k l0 ([] : List (S53)) 0
theorem tegularef32_Runs.mono_l : ∀ k, (∀ y0 y1 y2, LeO (tegularef32_Runs.l0 k y0 y1 y2) (tegularef32_Runs.l0 (k + 1) y0 y1 y2)) ∧ (∀ y0 y1 y2 y3 y4 y5, LeO (tegularef32_Runs.l1 k y0 y1 y2 y3 y4 y5) (tegularef32_Runs.l1 (k + 1) y0 y1 y2 y3 y4 y5)) ∧ (∀ y0 y1 y2 y3 y4 y5 y6, LeO (tegularef32_Runs.j2 k y0 y1 y2 y3 y4 y5 y6) (tegularef32_Runs.j2 (k + 1) y0 y1 y2 y3 y4 y5 y6)) ∧ (∀ y0 y1 y2 y3 y4, LeO (tegularef32_Runs.l2 k y0 y1 y2 y3 y4) (tegularef32_Runs.l2 (k + 1) y0 y1 y2 y3 y4))
 | 0 => ⟨fun _ _ _ r h => by simp [tegularef32_Runs.l0] at h, fun _ _ _ _ _ _ r h => by simp [tegularef32_Runs.l1] at h, fun _ _ _ _ _ _ _ r h => by simp [tegularef32_Runs.j2] at h, fun _ _ _ _ _ r h => by simp [tegularef32_Runs.l2] at h⟩
 | k + 1 => by
  obtain ⟨ih0, ih1, ih2, ih3⟩ := tegularef32_Runs.mono_l k
  refine ⟨?_, ?_, ?_, ?_⟩
  all_goals (intros; (first | unfold tegularef32_Runs.l0 | unfold tegularef32_Runs.l1 | unfold tegularef32_Runs.j2 | unfold tegularef32_Runs.l2))
  all_goals repeat' first
  | (with_reducible exact ih0 _ _ _)
  | (with_reducible exact ih1 _ _ _ _ _ _)
  | (with_reducible exact ih2 _ _ _ _ _ _ _)
  | (with_reducible exact ih3 _ _ _ _ _)
  | (with_reducible exact LeO.refl _)
  | (with_reducible exact LeO.none _)
  | (with_reducible refine LeO.ite ?_ ?_)
  | (with_reducible refine LeO.bind ?_ (fun _ => ?_))
  | exact ih0 _ _ _
  | exact ih1 _ _ _ _ _ _
  | exact ih2 _ _ _ _ _ _ _
  | exact ih3 _ _ _ _ _
  | exact LeO.none _
  | refine LeO.ite ?_ ?_
  | refine LeO.bind ?_ (fun _ => ?_)
theorem tegularef32_Runs.mono : ∀ a0 k, LeO (tegularef32_Runs.f k a0) (tegularef32_Runs.f (k + 1) a0) := by
 intro a0 k
 obtain ⟨ih0, ih1, ih2, ih3⟩ := tegularef32_Runs.mono_l k
 unfold tegularef32_Runs.f
 repeat' first
   | (with_reducible exact ih0 _ _ _)
   | (with_reducible exact ih1 _ _ _ _ _ _)
   | (with_reducible exact ih2 _ _ _ _ _ _ _)
   | (with_reducible exact ih3 _ _ _ _ _)
   | (with_reducible exact LeO.refl _)
   | (with_reducible exact LeO.none _)
   | (with_reducible refine LeO.ite ?_ ?_)
   | (with_reducible refine LeO.bind ?_ (fun _ => ?_))
   | exact ih0 _ _ _
   | exact ih1 _ _ _ _ _ _
   | exact ih2 _ _ _ _ _ _ _
   | exact ih3 _ _ _ _ _
   | exact LeO.none _
   | refine LeO.ite ?_ ?_
   | refine LeO.bind ?_ (fun _ => ?_)
def tegularef32_Runs.T7 : Bool × List (List Nat × List Nat) := (true, [([], []), ([], []), ([0, 1], [0, 1]), ([2], [2]), ([3], [3]), ([4], [4]), ([5, 4], [5]), ([6], [6]), ([6], [6]), ([7, 8, 6], [6, 7, 8]), ([9, 6], [6, 9]), ([10, 6], [6, 10]), ([6], [6]), ([6], [6]), ([12, 13, 6], [6, 12, 13]), ([14, 6], [6, 14]), ([15, 6], [6, 15]), ([11, 16, 6], [6, 11, 16]), ([6], [6]), ([17, 18, 6], [6, 17, 18]), ([6, 19], [6, 19])])
def tegularef32_Runs.B7 : List Nat := [0, 0, 3, 7, 15, 31, 63, 127, 127, 511, 1023, 2047, 127, 127, 12415, 28799, 61567, 131071, 127, 524287, 1048575]
theorem tegularef32_Runs.tab7 : rtab .any (opsOf Try.f64 7) = tegularef32_Runs.T7 := by kernel_rfl
theorem tegularef32_Runs.bits7 : waitsOk tegularef32_Runs.T7.2 tegularef32_Runs.B7 = true := by kernel_rfl
def tegularef32_Runs.T17 : Bool × List (List Nat × List Nat) := (true, [([], []), ([], []), ([0, 1], [0, 1]), ([2], [2]), ([3], [3]), ([4, 4], [4]), ([5], [5]), ([5], [5]), ([6, 7, 5], [5, 6, 7]), ([8, 5], [5, 8]), ([9, 5], [5, 9]), ([5], [5]), ([10, 11, 5], [5, 10, 11]), ([5, 12], [5, 12]), ([13, 5], [13]), ([14], [14]), ([14], [14]), ([15, 16, 14], [14, 15, 16]), ([17, 14], [14, 17]), ([18, 14], [14, 18]), ([14], [14]), ([14], [14]), ([20, 21, 14], [14, 20, 21]), ([22, 14], [14, 22]), ([23, 14], [14, 23]), ([19, 24, 14], [14, 19, 24]), ([14], [14]), ([25, 26, 14], [14, 25, 26]), ([14, 27], [14, 27])])
def tegularef32_Runs.B17 : List Nat := [0, 0, 3, 7, 15, 31, 63, 63, 255, 511, 1023, 63, 4095, 8191, 16383, 32767, 32767, 131071, 262143, 524287, 32767, 32767, 3178495, 7372799, 15761407, 33554431, 32767, 134217727, 268435455]
theorem tegularef32_Runs.tab17 : rtab .any (opsOf Try.f64 17) = tegularef32_Runs.T17 := by kernel_rfl
theorem tegularef32_Runs.bits17 : waitsOk tegularef32_Runs.T17.2 tegularef32_Runs.B17 = true := by kernel_rfl
def tegularef32_Runs.T18 : Bool × List (List Nat × List Nat) := (true, [([], []), ([], []), ([0, 1], [0, 1]), ([2], [2]), ([3], [3]), ([], []), ([], []), ([5, 6], [5, 6]), ([7], [7]), ([8], [8]), ([4, 9], [4, 9]), ([10, 0, 1, 2, 3, 4, 5, 6, 7, 8, 9, 10], [10])])
def tegularef32_Runs.B18 : List Nat := [0, 0, 3, 7, 15, 0, 0, 96, 224, 480, 1023, 2047]
theorem tegularef32_Runs.tab18 : rtab .any (opsOf Try.f64 18) = tegularef32_Runs.T18 := by kernel_rfl
theorem tegularef32_Runs.bits18 : waitsOk tegularef32_Runs.T18.2 tegularef32_Runs.B18 = true := by kernel_rfl
def tegularef32_Runs.T20 : Bool × List (List Nat × List Nat) := (true, [([], []), ([0], [0]), ([1], [1]), ([2], [2]), ([2], [2]), ([3, 4, 2], [2, 3, 4]), ([5, 2], [2, 5]), ([6, 2], [2, 6]), ([2], [2]), ([2], [2]), ([8, 9, 2], [2, 8, 9]), ([10, 2], [2, 10]), ([11, 2], [2, 11]), ([7, 12, 2], [2, 7, 12]), ([2], [2]), ([13, 14, 2], [2, 13, 14]), ([2, 15], [2, 15])])
def tegularef32_Runs.B20 : List Nat := [0, 1, 3, 7, 7, 31, 63, 127, 7, 7, 775, 1799, 3847, 8191, 7, 32767, 65535]
theorem tegularef32_Runs.tab20 : rtab .any (opsOf Try.f64 20) = tegularef32_Runs.T20 := by kernel_rfl
theorem tegularef32_Runs.bits20 : waitsOk tegularef32_Runs.T20.2 tegularef32_Runs.B20 = true := by kernel_rfl
set_option maxHeartbeats 8000000 in
set_option maxRecDepth 100000 in
theorem tegularef32_Runs.calls (k : Nat) (A0 : Option Addr) (c0 : Nat) (l0 : List (S53)) (r : List (S53)) (w : World) (hr0 : Kd.C k53 w A0 l0.length l0) (hc0 : l0.length ≤ c0) (h : tegularef32_Runs.f k l0 = some r) :
  Calls Try.prog 64 #[.slice A0 l0.length c0] w fun e w' => ∃ v0_ : Value, e = .returned (v0_) ∧ Kd.R k53 53 w' w.heap.size (fun _ => True) v0_ r ∧ Below w.heap.size w w' := by
 have hu53 := Try.underlying53
 have HR0 := Aside0.mk hr0
 have HC0 := Aside0.mk hc0
 clear hr0 hc0
 have HB := Aa (Below.refl w.heap.size w)
 have H : (tegularef32_Runs.l0 k l0 ([] : List (S53)) 0) = some r := h
 clear h
 have H' := Aside0.mk H
 clear H
 go_enter Try.func64, Try.ntmps64
 go_wp2
 go_loopg [3, 4] k (fun kq v3 v4 w' => ∃ (x3_1 : List (S53)) (x4_1 : Int), v4 = .int .i64 x4_1 ∧ Aside0 (tegularef32_Runs.l0 kq l0 x3_1 x4_1 = some r) ∧ Aside0 (kq ≤ k) ∧ Aside0 (Kd.R k53 53 w' w.heap.size (fun _ => True) v3 x3_1) ∧ Aside0 (Below w.heap.size w w'))
 case atStart => exact ⟨(([] : List (S53))), (0), (by first | rfl | (simp; done) | (simp [*]; done)), H', ⟨Nat.le_refl _⟩, ⟨by first | exact Kd.R_nil _ _ _ _ _ | exact Kd.N_nil _ _ _ _ _ | exact Kd.V_nil _ _ _ _ _ | exact Kd.Q_nil _ _ _ _ _ | exact Kd.S_nil _ _ _ _ _⟩, ⟨bU HB.1⟩⟩
 case round =>
  clear H'
  obtain ⟨x3_1, x4_1, rfl, HA, HK1, HO_3, HB⟩ := hrel
  cases gk with
  | zero => exact absurd HA.1 (by simp [tegularef32_Runs.l0])
  | succ k1 =>
   have H := HA.1
   clear HA
   simp only [tegularef32_Runs.l0] at H
   have H' := Aside0.mk H
   clear H
   go_wp2
   go_loopg [5, 6, 7] k1 (fun kq v5 v6 v7 w' => ∃ (x5_2 : Int) (x6_2 : Bool) (x7_2 : Int), v5 = .int .i64 x5_2 ∧ v6 = .bool x6_2 ∧ v7 = .int .i64 x7_2 ∧ Aside0 (tegularef32_Runs.l1 kq l0 x3_1 x4_1 x5_2 x6_2 x7_2 = some r) ∧ Aside0 (kq ≤ k1) ∧ Aside0 (Kd.R k53 53 w' w.heap.size (fun _ => True) u3 x3_1) ∧ Aside0 (Below w.heap.size w w'))
   case atStart => exact ⟨(0), (false), (0), (by first | rfl | (simp; done) | (simp [*]; done)), (by first | rfl | (simp; done) | (simp [*]; done)), (by first | rfl | (simp; done) | (simp [*]; done)), H', ⟨Nat.le_refl _⟩, ⟨rU HO_3.1⟩, ⟨bU HB.1⟩⟩
   case round =>
    clear H'
    obtain ⟨x5_2, x6_2, x7_2, rfl, rfl, rfl, HA, HK2, HO_3, HB⟩ := hrel
    cases gk with
    | zero => exact absurd HA.1 (by simp [tegularef32_Runs.l1])
    | succ k2 =>
     have H := HA.1
     clear HA
     simp only [tegularef32_Runs.l1] at H
     by_cases c2 : x7_2 < (l0.length : Int)
     ·
      rw [if_pos c2] at H
      have c2b0 := decide_eq_true c2
      clear c2
      have HC3 := Aside0.mk H
      clear H
      go_upto_region 7 with (fail)
      go_cut [37] (fun v37 wc => ∃ (kq : Nat) (x37_2 : Bool), v37 = .bool x37_2 ∧ Aside0 (tegularef32_Runs.j2 kq l0 x3_1 x4_1 x5_2 x6_2 x7_2 x37_2 = some r) ∧ Aside0 (kq ≤ k2) ∧ Aside0 (Kd.R k53 53 wc w.heap.size (fun _ => True) u3 x3_1) ∧ Aside0 (Below w.heap.size w wc))
      case first =>
       have H := HC3.1
       clear HC3
       by_cases c4 : 0 ≤ x7_2
       ·
        rw [if_pos c4] at H
        have c4b0 := decide_eq_true c4
        clear c4
        (first | rw [c4b0] | (simp only [i64_w, i32_w]; rw [c4b0]) | skip)
        replace H := Option.bind_eq_some_iff.mp H
        obtain ⟨t380, A50, H⟩ := H
        replace H : (if t380 = true then (tegularef32_Runs.j2 k2 l0 x3_1 x4_1 x5_2 x6_2 x7_2 (decide ((wrap64 (((rd_T53 l0 x7_2).f2) + ((rd_T53 l0 x7_2).f1))) ≤ x4_1))) else (tegularef32_Runs.j2 k2 l0 x3_1 x4_1 x5_2 x6_2 x7_2 true)) = some r := H
        have A5 := Aside0.mk A50
        clear A50
        by_cases c6 : t380 = true
        ·
         subst c6
         have H1 : (tegularef32_Runs.j2 k2 l0 x3_1 x4_1 x5_2 x6_2 x7_2 (decide ((wrap64 (((rd_T53 l0 x7_2).f2) + ((rd_T53 l0 x7_2).f1))) ≤ x4_1))) = some r := by rw [if_pos rfl] at H; exact H
         clear H
         have H := H1
         clear H1
         have H' := Aside0.mk H
         clear H
         try go_wp2
         replace HO_3 := Aa (Kd.R_drew HO_3.1)
         replace HB := Aa (below_drew1 HB.1)
         have p379 : 0 ≤ (x7_2 : Int) := dT
         have q379 : x7_2 < (l0.length : Int) := dT
         obtain ⟨ad379, e379, hx379_0, hx379_1, hx379_2⟩ := at_T53 HR0.1 x7_2 p379 q379
         have hw379_2 := hx379_2
         have hw379_1 := hx379_1
         have hw379_0 := hx379_0
         cases e379
         replace hx379_0 := cB HB hx379_0
         replace hx379_1 := cB HB hx379_1
         replace hx379_2 := cB HB hx379_2
         replace p379 := eq_true p379
         replace q379 := eq_true q379
         have p381 : 0 ≤ (x7_2 : Int) := dT
         have q381 : x7_2 < (l0.length : Int) := dT
         obtain ⟨ad381, e381, hx381_0, hx381_1, hx381_2⟩ := at_T53 HR0.1 x7_2 p381 q381
         have hw381_2 := hx381_2
         have hw381_1 := hx381_1
         have hw381_0 := hx381_0
         obtain rfl : ad379 = ad381 := (by injection e381)
         replace hx381_0 := cB HB hx381_0
         replace hx381_1 := cB HB hx381_1
         replace hx381_2 := cB HB hx381_2
         replace p381 := eq_true p381
         replace q381 := eq_true q381
         have p382 : 0 ≤ (x7_2 : Int) := dT
         have q382 : x7_2 < (l0.length : Int) := dT
         obtain ⟨ad382, e382, hx382_0, hx382_1, hx382_2⟩ := at_T53 HR0.1 x7_2 p382 q382
         have hw382_2 := hx382_2
         have hw382_1 := hx382_1
         have hw382_0 := hx382_0
         obtain rfl : ad379 = ad382 := (by injection e382)
         replace hx382_0 := cB HB hx382_0
         replace hx382_1 := cB HB hx382_1
         replace hx382_2 := cB HB hx382_2
         replace p382 := eq_true p382
         replace q382 := eq_true q382
         refine start_ (n := 21) (S := fun w' => w'.cell? (ad379.add ((x7_2).toNat * 3)) = some (.int .i64 ((rd_T53 l0 x7_2).f0)) ∧ w'.cell? ⟨(ad379.add ((x7_2).toNat * 3)).block, (ad379.add ((x7_2).toNat * 3)).off + 1, none⟩ = some (.int .i64 ((rd_T53 l0 x7_2).f1)) ∧ w'.cell? ⟨(ad379.add ((x7_2).toNat * 3)).block, (ad379.add ((x7_2).toNat * 3)).off + 2, none⟩ = some (.int .i64 ((rd_T53 l0 x7_2).f2)) ∧ w'.cell? (ad379.add ((x7_2).toNat * 3)) = some (.int .i64 ((rd_T53 l0 x7_2).f0)) ∧ w'.cell? ⟨(ad379.add ((x7_2).toNat * 3)).block, (ad379.add ((x7_2).toNat * 3)).off + 1, none⟩ = some (.int .i64 ((rd_T53 l0 x7_2).f1)) ∧ w'.cell? ⟨(ad379.add ((x7_2).toNat * 3)).block, (ad379.add ((x7_2).toNat * 3)).off + 2, none⟩ = some (.int .i64 ((rd_T53 l0 x7_2).f2)) ∧ w'.cell? (ad379.add ((x7_2).toNat * 3)) = some (.int .i64 ((rd_T53 l0 x7_2).f0)) ∧ w'.cell? ⟨(ad379.add ((x7_2).toNat * 3)).block, (ad379.add ((x7_2).toNat * 3)).off + 1, none⟩ = some (.int .i64 ((rd_T53 l0 x7_2).f1)) ∧ w'.cell? ⟨(ad379.add ((x7_2).toNat * 3)).block, (ad379.add ((x7_2).toNat * 3)).off + 2, none⟩ = some (.int .i64 ((rd_T53 l0 x7_2).f2))) (ds := []) (bm 21 0) (by kernel_rfl) rfl (bm0 _) ⟨(cB HB hw379_0), (cB HB hw379_1), (cB HB hw379_2), (cB HB hw381_0), (cB HB hw381_1), (cB HB hw381_2), (cB HB hw382_0), (cB HB hw382_1), (cB HB hw382_2)⟩ (fun hHeld => ?_); refine with_tabW tegularef32_Runs.tab7 tegularef32_Runs.bits7 (fun HT_ HW_ => ?_)
         generalize wr.drew = w7 at HO_3 HB hx379_0 hx379_1 hx379_2 hx381_0 hx381_1 hx381_2 hx382_0 hx382_1 hx382_2 hHeld ⊢
         refine pA 1 0 17 ?_
         refine pA 3 1 18 ?_
         refine pA 7 2 19 ?_
         refine tA 15 3 20 hHeld ?_
         refine oA 31 4 21 (fun K hK => ?_)
         refine gR Try.func68 #[.agg #[.int .i64 ((rd_T53 l0 x7_2).f0), .int .i64 ((rd_T53 l0 x7_2).f1), .int .i64 ((rd_T53 l0 x7_2).f2)]] ?_
         with_reducible refine (tegularef32_One.calls ((rd_T53 l0 x7_2).f0) ((rd_T53 l0 x7_2).f1) ((rd_T53 l0 x7_2).f2) true _ A5.1).mono ?_
         rintro e w8 ⟨rfl, hb⟩
         refine ⟨_, rfl, ?_⟩
         replace HO_3 := rB HO_3 hb
         replace HB := sU HB hb
         (try clear hb)
         (try clear hb2)
         (try clear hk)
         (try clear hi)
         refine hK.out _ _ ⟨(cB HB hw379_0), (cB HB hw379_1), (cB HB hw379_2), (cB HB hw381_0), (cB HB hw381_1), (cB HB hw381_2), (cB HB hw382_0), (cB HB hw382_1), (cB HB hw382_2)⟩ (fun hHeld => ?_)
         clear hK K
         refine nA ?_
         refine pA 63 5 22 ?_
         refine pA 127 6 23 ?_
         refine pA 255 7 24 ?_
         refine pA 511 8 25 ?_
         refine pA 1023 9 26 ?_
         refine pA 2047 10 27 ?_
         refine pA 6143 12 29 ?_
         refine pA 14335 13 30 ?_
         refine pA 30719 14 31 ?_
         refine pA 63487 15 32 ?_
         refine pA 325631 18 35 ?_
         refine tA 327679 11 28 hHeld ?_
         refine tA 393215 16 33 hHeld ?_
         refine pA 524287 17 34 ?_
         refine pA 1048575 19 36 ?_
         refine pA 2097151 20 37 ?_
         refine done_ (done_of HT_.1 (by kernel_rfl)) ?_
         try go_wp2
         go_meet
         case rel => exact ⟨_, (decide ((wrap64 (((rd_T53 l0 x7_2).f2) + ((rd_T53 l0 x7_2).f1))) ≤ x4_1)), (by first | rfl | (simp; done) | (simp [*]; done)), H', ⟨by have := HK1.1; have := HK2.1; first | omega | exact Nat.le_refl _⟩, ⟨rU HO_3.1⟩, ⟨bU HB.1⟩⟩
        ·
         replace c6 := Bool.eq_false_iff.mpr c6
         subst c6
         have H1 : (tegularef32_Runs.j2 k2 l0 x3_1 x4_1 x5_2 x6_2 x7_2 true) = some r := by rw [if_neg (show ¬ (false = true) by decide)] at H; exact H
         clear H
         have H := H1
         clear H1
         have H' := Aside0.mk H
         clear H
         try go_wp2
         replace HO_3 := Aa (Kd.R_drew HO_3.1)
         replace HB := Aa (below_drew1 HB.1)
         have p379 : 0 ≤ (x7_2 : Int) := dT
         have q379 : x7_2 < (l0.length : Int) := dT
         obtain ⟨ad379, e379, hx379_0, hx379_1, hx379_2⟩ := at_T53 HR0.1 x7_2 p379 q379
         have hw379_2 := hx379_2
         have hw379_1 := hx379_1
         have hw379_0 := hx379_0
         cases e379
         replace hx379_0 := cB HB hx379_0
         replace hx379_1 := cB HB hx379_1
         replace hx379_2 := cB HB hx379_2
         replace p379 := eq_true p379
         replace q379 := eq_true q379
         refine start_ (n := 21) (S := fun w' => w'.cell? (ad379.add ((x7_2).toNat * 3)) = some (.int .i64 ((rd_T53 l0 x7_2).f0)) ∧ w'.cell? ⟨(ad379.add ((x7_2).toNat * 3)).block, (ad379.add ((x7_2).toNat * 3)).off + 1, none⟩ = some (.int .i64 ((rd_T53 l0 x7_2).f1)) ∧ w'.cell? ⟨(ad379.add ((x7_2).toNat * 3)).block, (ad379.add ((x7_2).toNat * 3)).off + 2, none⟩ = some (.int .i64 ((rd_T53 l0 x7_2).f2))) (ds := []) (bm 21 0) (by kernel_rfl) rfl (bm0 _) ⟨(cB HB hw379_0), (cB HB hw379_1), (cB HB hw379_2)⟩ (fun hHeld => ?_); refine with_tabW tegularef32_Runs.tab7 tegularef32_Runs.bits7 (fun HT_ HW_ => ?_)
         generalize wr.drew = w9 at HO_3 HB hx379_0 hx379_1 hx379_2 hHeld ⊢
         refine pA 1 0 17 ?_
         refine pA 3 1 18 ?_
         refine pA 7 2 19 ?_
         refine tA 15 3 20 hHeld ?_
         refine oA 31 4 21 (fun K hK => ?_)
         refine gR Try.func68 #[.agg #[.int .i64 ((rd_T53 l0 x7_2).f0), .int .i64 ((rd_T53 l0 x7_2).f1), .int .i64 ((rd_T53 l0 x7_2).f2)]] ?_
         with_reducible refine (tegularef32_One.calls ((rd_T53 l0 x7_2).f0) ((rd_T53 l0 x7_2).f1) ((rd_T53 l0 x7_2).f2) false _ A5.1).mono ?_
         rintro e w10 ⟨rfl, hb⟩
         refine ⟨_, rfl, ?_⟩
         replace HO_3 := rB HO_3 hb
         replace HB := sU HB hb
         (try clear hb)
         (try clear hb2)
         (try clear hk)
         (try clear hi)
         refine hK.out _ _ ⟨(cB HB hw379_0), (cB HB hw379_1), (cB HB hw379_2)⟩ (fun hHeld => ?_)
         clear hK K
         refine nA ?_
         refine pA 63 5 22 ?_
         refine pA 127 6 23 ?_
         refine pU 255 7 24 ?_
         refine pU 511 8 25 ?_
         refine pU 1023 9 26 ?_
         refine pU 2047 10 27 ?_
         refine pU 4095 11 28 ?_
         refine pU 8191 12 29 ?_
         refine pU 16383 13 30 ?_
         refine pU 32767 14 31 ?_
         refine pU 65535 15 32 ?_
         refine pU 131071 16 33 ?_
         refine pU 262143 17 34 ?_
         refine pU 524287 18 35 ?_
         refine pU 1048575 19 36 ?_
         refine pA 2097151 20 37 ?_
         refine done_ (done_of HT_.1 (by kernel_rfl)) ?_
         try go_wp2
         go_meet
         case rel => exact ⟨_, (true), (by first | rfl | (simp; done) | (simp [*]; done)), H', ⟨by have := HK1.1; have := HK2.1; first | omega | exact Nat.le_refl _⟩, ⟨rU HO_3.1⟩, ⟨bU HB.1⟩⟩
       ·
        rw [if_neg c4] at H
        exact absurd H (by simp)
      case rest =>
       clear HC3
       try clear c2
       try clear c2b0
       try clear p2
       try clear p3
       try clear q3
       try clear hx3
       try clear c4
       try clear c4b0
       try clear c6
       try clear p6
       try clear hx379_0
       try clear hx379_1
       try clear hx379_2
       try clear hx381_0
       try clear hx381_1
       try clear hx381_2
       try clear hx382_0
       try clear hx382_1
       try clear hx382_2
       try clear p379
       try clear p381
       try clear p382
       try clear q379
       try clear q381
       try clear q382
       obtain ⟨kq, x37_2, rfl, HA, HJ2, HO_3, HB⟩ := hcut
       cases kq with
       | zero => exact absurd HA.1 (by simp [tegularef32_Runs.j2])
       | succ kj2 =>
        have H := HA.1
        clear HA
        simp only [tegularef32_Runs.j2] at H
        by_cases c11 : x37_2 = true
        ·
         subst c11
         have H1 : (tegularef32_Runs.l1 kj2 l0 x3_1 x4_1 x5_2 x6_2 (wrap64 (x7_2 + 1))) = some r := by rw [if_pos rfl] at H; exact H
         clear H
         have H := H1
         clear H1
         have H' := Aside0.mk H
         clear H
         go_wp2
         go_roundg kj2
         case measure => have := HK1.1; have := HK2.1; have := HJ2.1; omega
         case rel => exact ⟨(x5_2), (x6_2), (wrap64 (x7_2 + 1)), (by first | rfl | (simp; done) | (simp [*]; done)), (by first | rfl | (simp; done) | (simp [*]; done)), (by first | rfl | (simp; done) | (simp [*]; done)), H', ⟨by have := HK1.1; have := HK2.1; have := HJ2.1; omega⟩, ⟨rU HO_3.1⟩, ⟨bU HB.1⟩⟩
        ·
         replace c11 := Bool.eq_false_iff.mpr c11
         subst c11
         have H1 : (if 0 ≤ x7_2 then (if x7_2 < (l0.length : Int) then (if x6_2 = true then (if (mx ((rd_T53 l0 x7_2).f2) x4_1) < x5_2 then (tegularef32_Runs.l1 kj2 l0 x3_1 x4_1 (mx ((rd_T53 l0 x7_2).f2) x4_1) true (wrap64 (x7_2 + 1))) else (tegularef32_Runs.l1 kj2 l0 x3_1 x4_1 x5_2 x6_2 (wrap64 (x7_2 + 1)))) else (tegularef32_Runs.l1 kj2 l0 x3_1 x4_1 (mx ((rd_T53 l0 x7_2).f2) x4_1) true (wrap64 (x7_2 + 1)))) else (none)) else (none)) = some r := by rw [if_neg (show ¬ (false = true) by decide)] at H; exact H
         clear H
         have H := H1
         clear H1
         by_cases c12 : 0 ≤ x7_2
         ·
          rw [if_pos c12] at H
          have c12b0 := decide_eq_true c12
          clear c12
          by_cases c13 : x7_2 < (l0.length : Int)
          ·
           rw [if_pos c13] at H
           have c13b0 := decide_eq_true c13
           clear c13
           obtain ⟨ji14, hji14⟩ : ∃ j_ : Int, (mx ((rd_T53 l0 x7_2).f2) x4_1) = j_ := ⟨_, rfl⟩
           replace H : (if x6_2 = true then (if (ji14) < x5_2 then (tegularef32_Runs.l1 kj2 l0 x3_1 x4_1 ji14 true (wrap64 (x7_2 + 1))) else (tegularef32_Runs.l1 kj2 l0 x3_1 x4_1 x5_2 x6_2 (wrap64 (x7_2 + 1)))) else (tegularef32_Runs.l1 kj2 l0 x3_1 x4_1 ji14 true (wrap64 (x7_2 + 1)))) = some r := by first | (rw [hji14] at H; exact H) | (simp only [hji14] at H ⊢; exact H)
           have hji14_ : (if ((rd_T53 l0 x7_2).f2) < x4_1 then x4_1 else ((rd_T53 l0 x7_2).f2)) = ji14 := hji14
           by_cases c15 : x6_2 = true
           ·
            subst c15
            have H1 : (if (ji14) < x5_2 then (tegularef32_Runs.l1 kj2 l0 x3_1 x4_1 ji14 true (wrap64 (x7_2 + 1))) else (tegularef32_Runs.l1 kj2 l0 x3_1 x4_1 x5_2 true (wrap64 (x7_2 + 1)))) = some r := by rw [if_pos rfl] at H; exact H
            clear H
            have H := H1
            clear H1
            by_cases c16 : (ji14) < x5_2
            ·
             rw [if_pos c16] at H
             have c16b0 := decide_eq_true c16
             clear c16
             have H' := Aside0.mk H
             clear H
             have p383 : 0 ≤ (x7_2 : Int) := dT
             have q383 : x7_2 < (l0.length : Int) := dT
             obtain ⟨ad383, e383, hx383_0, hx383_1, hx383_2⟩ := at_T53 HR0.1 x7_2 p383 q383
             cases e383
             replace hx383_0 := cB HB hx383_0
             replace hx383_1 := cB HB hx383_1
             replace hx383_2 := cB HB hx383_2
             replace p383 := eq_true p383
             replace q383 := eq_true q383
             go_wp2
             go_roundg kj2
             case measure => have := HK1.1; have := HK2.1; have := HJ2.1; omega
             case rel => exact ⟨(ji14), (true), (wrap64 (x7_2 + 1)), (by first | rfl | (simp; done) | (simp only [← hji14] <;> (first | rfl | simp)) | (simp [*]; done)), (by first | rfl | (simp; done) | (simp [*]; done)), (by first | rfl | (simp; done) | (simp [*]; done)), H', ⟨by have := HK1.1; have := HK2.1; have := HJ2.1; omega⟩, ⟨rU HO_3.1⟩, ⟨bU HB.1⟩⟩
            ·
             rw [if_neg c16] at H
             have c16b0 := decide_eq_false c16
             clear c16
             have H' := Aside0.mk H
             clear H
             have p383 : 0 ≤ (x7_2 : Int) := dT
             have q383 : x7_2 < (l0.length : Int) := dT
             obtain ⟨ad383, e383, hx383_0, hx383_1, hx383_2⟩ := at_T53 HR0.1 x7_2 p383 q383
             cases e383
             replace hx383_0 := cB HB hx383_0
             replace hx383_1 := cB HB hx383_1
             replace hx383_2 := cB HB hx383_2
             replace p383 := eq_true p383
             replace q383 := eq_true q383
             go_wp2
             go_roundg kj2
             case measure => have := HK1.1; have := HK2.1; have := HJ2.1; omega
             case rel => exact ⟨(x5_2), (true), (wrap64 (x7_2 + 1)), (by first | rfl | (simp; done) | (simp [*]; done)), (by first | rfl | (simp; done) | (simp [*]; done)), (by first | rfl | (simp; done) | (simp [*]; done)), H', ⟨by have := HK1.1; have := HK2.1; have := HJ2.1; omega⟩, ⟨rU HO_3.1⟩, ⟨bU HB.1⟩⟩
           ·
            replace c15 := Bool.eq_false_iff.mpr c15
            subst c15
            have H1 : (tegularef32_Runs.l1 kj2 l0 x3_1 x4_1 ji14 true (wrap64 (x7_2 + 1))) = some r := by rw [if_neg (show ¬ (false = true) by decide)] at H; exact H
            clear H
            have H := H1
            clear H1
            have H' := Aside0.mk H
            clear H
            have p383 : 0 ≤ (x7_2 : Int) := dT
            have q383 : x7_2 < (l0.length : Int) := dT
            obtain ⟨ad383, e383, hx383_0, hx383_1, hx383_2⟩ := at_T53 HR0.1 x7_2 p383 q383
            cases e383
            replace hx383_0 := cB HB hx383_0
            replace hx383_1 := cB HB hx383_1
            replace hx383_2 := cB HB hx383_2
            replace p383 := eq_true p383
            replace q383 := eq_true q383
            go_wp2
            go_roundg kj2
            case measure => have := HK1.1; have := HK2.1; have := HJ2.1; omega
            case rel => exact ⟨(ji14), (true), (wrap64 (x7_2 + 1)), (by first | rfl | (simp; done) | (simp only [← hji14] <;> (first | rfl | simp)) | (simp [*]; done)), (by first | rfl | (simp; done) | (simp [*]; done)), (by first | rfl | (simp; done) | (simp [*]; done)), H', ⟨by have := HK1.1; have := HK2.1; have := HJ2.1; omega⟩, ⟨rU HO_3.1⟩, ⟨bU HB.1⟩⟩
          ·
           rw [if_neg c13] at H
           exact absurd H (by simp)
         ·
          rw [if_neg c12] at H
          exact absurd H (by simp)
     ·
      rw [if_neg c2] at H
      have c2b0 := decide_eq_false c2
      clear c2
      by_cases c17 : x6_2 = true
      ·
       subst c17
       have H1 : (tegularef32_Runs.l2 k2 l0 x3_1 x5_2 x5_2 0) = some r := by rw [if_pos rfl] at H; exact H
       clear H
       have H := H1
       clear H1
       have H' := Aside0.mk H
       clear H
       go_wp2
       go_loopg [4, 9] k2 (fun kq v4 v9 w' => ∃ (x4_3 : Int) (x9_3 : Int), v4 = .int .i64 x4_3 ∧ v9 = .int .i64 x9_3 ∧ Aside0 (tegularef32_Runs.l2 kq l0 x3_1 x4_3 x5_2 x9_3 = some r) ∧ Aside0 (kq ≤ k2) ∧ Aside0 (Kd.R k53 53 w' w.heap.size (fun _ => True) u3 x3_1) ∧ Aside0 (Below w.heap.size w w'))
       case atStart => exact ⟨(x5_2), (0), (by first | rfl | (simp; done) | (simp [*]; done)), (by first | rfl | (simp; done) | (simp [*]; done)), H', ⟨Nat.le_refl _⟩, ⟨rU HO_3.1⟩, ⟨bU HB.1⟩⟩
       case round =>
        clear H'
        try clear c1
        try clear c2
        try clear c2b0
        try clear p2
        try clear p3
        try clear q3
        try clear hx3
        try clear c4
        try clear c4b0
        try clear c6
        try clear p6
        try clear c11
        try clear c12
        try clear c12b0
        try clear c13
        try clear c13b0
        try clear c15
        try clear c16
        try clear c16b0
        try clear c17
        try clear hx379_0
        try clear hx379_1
        try clear hx379_2
        try clear hx381_0
        try clear hx381_1
        try clear hx381_2
        try clear hx382_0
        try clear hx382_1
        try clear hx382_2
        try clear hx383_0
        try clear hx383_1
        try clear hx383_2
        try clear p2
        try clear p3
        try clear p379
        try clear p381
        try clear p382
        try clear p383
        try clear p6
        try clear q3
        try clear q379
        try clear q381
        try clear q382
        try clear q383
        obtain ⟨x4_3, x9_3, rfl, rfl, HA, HK3, HO_3, HB⟩ := hrel
        cases gk with
        | zero => exact absurd HA.1 (by simp [tegularef32_Runs.l2])
        | succ k3 =>
         have H := HA.1
         clear HA
         simp only [tegularef32_Runs.l2] at H
         by_cases c18 : x9_3 < (l0.length : Int)
         ·
          rw [if_pos c18] at H
          have c18b0 := decide_eq_true c18
          clear c18
          by_cases c19 : 0 ≤ x9_3
          ·
           rw [if_pos c19] at H
           have c19b0 := decide_eq_true c19
           clear c19
           replace H := Option.bind_eq_some_iff.mp H
           obtain ⟨t385, A200, H⟩ := H
           replace H : (if t385 = true then (if ((rd_T53 l0 x9_3).f2) ≤ x5_2 then (if (wrap64 (((rd_T53 l0 x9_3).f2) + ((rd_T53 l0 x9_3).f1))) > x4_3 then (tegularef32_Runs.l2 k3 l0 x3_1 (wrap64 (((rd_T53 l0 x9_3).f2) + ((rd_T53 l0 x9_3).f1))) x5_2 (wrap64 (x9_3 + 1))) else (tegularef32_Runs.l2 k3 l0 x3_1 x4_3 x5_2 (wrap64 (x9_3 + 1)))) else (tegularef32_Runs.l2 k3 l0 x3_1 x4_3 x5_2 (wrap64 (x9_3 + 1)))) else (tegularef32_Runs.l2 k3 l0 x3_1 x4_3 x5_2 (wrap64 (x9_3 + 1)))) = some r := H
           have A20 := Aside0.mk A200
           clear A200
           by_cases c21 : t385 = true
           ·
            subst c21
            have H1 : (if ((rd_T53 l0 x9_3).f2) ≤ x5_2 then (if (wrap64 (((rd_T53 l0 x9_3).f2) + ((rd_T53 l0 x9_3).f1))) > x4_3 then (tegularef32_Runs.l2 k3 l0 x3_1 (wrap64 (((rd_T53 l0 x9_3).f2) + ((rd_T53 l0 x9_3).f1))) x5_2 (wrap64 (x9_3 + 1))) else (tegularef32_Runs.l2 k3 l0 x3_1 x4_3 x5_2 (wrap64 (x9_3 + 1)))) else (tegularef32_Runs.l2 k3 l0 x3_1 x4_3 x5_2 (wrap64 (x9_3 + 1)))) = some r := by rw [if_pos rfl] at H; exact H
            clear H
            have H := H1
            clear H1
            by_cases c22 : ((rd_T53 l0 x9_3).f2) ≤ x5_2
            ·
             rw [if_pos c22] at H
             have c22b0 := decide_eq_true c22
             clear c22
             by_cases c23 : (wrap64 (((rd_T53 l0 x9_3).f2) + ((rd_T53 l0 x9_3).f1))) > x4_3
             ·
              rw [if_pos c23] at H
              have c23b0 := decide_eq_true c23
              clear c23
              have H' := Aside0.mk H
              clear H
              try go_wp2
              replace HO_3 := Aa (Kd.R_drew HO_3.1)
              replace HB := Aa (below_drew1 HB.1)
              have p384 : 0 ≤ (x9_3 : Int) := dT
              have q384 : x9_3 < (l0.length : Int) := dT
              obtain ⟨ad384, e384, hx384_0, hx384_1, hx384_2⟩ := at_T53 HR0.1 x9_3 p384 q384
              have hw384_2 := hx384_2
              have hw384_1 := hx384_1
              have hw384_0 := hx384_0
              cases e384
              replace hx384_0 := cB HB hx384_0
              replace hx384_1 := cB HB hx384_1
              replace hx384_2 := cB HB hx384_2
              replace p384 := eq_true p384
              replace q384 := eq_true q384
              have p386 : 0 ≤ (x9_3 : Int) := dT
              have q386 : x9_3 < (l0.length : Int) := dT
              obtain ⟨ad386, e386, hx386_0, hx386_1, hx386_2⟩ := at_T53 HR0.1 x9_3 p386 q386
              have hw386_2 := hx386_2
              have hw386_1 := hx386_1
              have hw386_0 := hx386_0
              obtain rfl : ad384 = ad386 := (by injection e386)
              replace hx386_0 := cB HB hx386_0
              replace hx386_1 := cB HB hx386_1
              replace hx386_2 := cB HB hx386_2
              replace p386 := eq_true p386
              replace q386 := eq_true q386
              have p387 : 0 ≤ (x9_3 : Int) := dT
              have q387 : x9_3 < (l0.length : Int) := dT
              obtain ⟨ad387, e387, hx387_0, hx387_1, hx387_2⟩ := at_T53 HR0.1 x9_3 p387 q387
              have hw387_2 := hx387_2
              have hw387_1 := hx387_1
              have hw387_0 := hx387_0
              obtain rfl : ad384 = ad387 := (by injection e387)
              replace hx387_0 := cB HB hx387_0
              replace hx387_1 := cB HB hx387_1
              replace hx387_2 := cB HB hx387_2
              replace p387 := eq_true p387
              replace q387 := eq_true q387
              have p388 : 0 ≤ (x9_3 : Int) := dT
              have q388 : x9_3 < (l0.length : Int) := dT
              obtain ⟨ad388, e388, hx388_0, hx388_1, hx388_2⟩ := at_T53 HR0.1 x9_3 p388 q388
              have hw388_2 := hx388_2
              have hw388_1 := hx388_1
              have hw388_0 := hx388_0
              obtain rfl : ad384 = ad388 := (by injection e388)
              replace hx388_0 := cB HB hx388_0
              replace hx388_1 := cB HB hx388_1
              replace hx388_2 := cB HB hx388_2
              replace p388 := eq_true p388
              replace q388 := eq_true q388
              refine start_ (n := 29) (S := fun w' => w'.cell? (ad384.add ((x9_3).toNat * 3)) = some (.int .i64 ((rd_T53 l0 x9_3).f0)) ∧ w'.cell? ⟨(ad384.add ((x9_3).toNat * 3)).block, (ad384.add ((x9_3).toNat * 3)).off + 1, none⟩ = some (.int .i64 ((rd_T53 l0 x9_3).f1)) ∧ w'.cell? ⟨(ad384.add ((x9_3).toNat * 3)).block, (ad384.add ((x9_3).toNat * 3)).off + 2, none⟩ = some (.int .i64 ((rd_T53 l0 x9_3).f2)) ∧ w'.cell? (ad384.add ((x9_3).toNat * 3)) = some (.int .i64 ((rd_T53 l0 x9_3).f0)) ∧ w'.cell? ⟨(ad384.add ((x9_3).toNat * 3)).block, (ad384.add ((x9_3).toNat * 3)).off + 1, none⟩ = some (.int .i64 ((rd_T53 l0 x9_3).f1)) ∧ w'.cell? ⟨(ad384.add ((x9_3).toNat * 3)).block, (ad384.add ((x9_3).toNat * 3)).off + 2, none⟩ = some (.int .i64 ((rd_T53 l0 x9_3).f2)) ∧ w'.cell? (ad384.add ((x9_3).toNat * 3)) = some (.int .i64 ((rd_T53 l0 x9_3).f0)) ∧ w'.cell? ⟨(ad384.add ((x9_3).toNat * 3)).block, (ad384.add ((x9_3).toNat * 3)).off + 1, none⟩ = some (.int .i64 ((rd_T53 l0 x9_3).f1)) ∧ w'.cell? ⟨(ad384.add ((x9_3).toNat * 3)).block, (ad384.add ((x9_3).toNat * 3)).off + 2, none⟩ = some (.int .i64 ((rd_T53 l0 x9_3).f2)) ∧ w'.cell? (ad384.add ((x9_3).toNat * 3)) = some (.int .i64 ((rd_T53 l0 x9_3).f0)) ∧ w'.cell? ⟨(ad384.add ((x9_3).toNat * 3)).block, (ad384.add ((x9_3).toNat * 3)).off + 1, none⟩ = some (.int .i64 ((rd_T53 l0 x9_3).f1)) ∧ w'.cell? ⟨(ad384.add ((x9_3).toNat * 3)).block, (ad384.add ((x9_3).toNat * 3)).off + 2, none⟩ = some (.int .i64 ((rd_T53 l0 x9_3).f2))) (ds := []) (bm 29 0) (by kernel_rfl) rfl (bm0 _) ⟨(cB HB hw384_0), (cB HB hw384_1), (cB HB hw384_2), (cB HB hw386_0), (cB HB hw386_1), (cB HB hw386_2), (cB HB hw387_0), (cB HB hw387_1), (cB HB hw387_2), (cB HB hw388_0), (cB HB hw388_1), (cB HB hw388_2)⟩ (fun hHeld => ?_); refine with_tabW tegularef32_Runs.tab17 tegularef32_Runs.bits17 (fun HT_ HW_ => ?_)
              generalize wr.drew = w24 at HO_3 HB hx384_0 hx384_1 hx384_2 hx386_0 hx386_1 hx386_2 hx387_0 hx387_1 hx387_2 hx388_0 hx388_1 hx388_2 hHeld ⊢
              refine pA 1 0 63 ?_
              refine pA 3 1 64 ?_
              refine pA 7 2 65 ?_
              refine tA 15 3 66 hHeld ?_
              refine oA 31 4 67 (fun K hK => ?_)
              refine gR Try.func68 #[.agg #[.int .i64 ((rd_T53 l0 x9_3).f0), .int .i64 ((rd_T53 l0 x9_3).f1), .int .i64 ((rd_T53 l0 x9_3).f2)]] ?_
              with_reducible refine (tegularef32_One.calls ((rd_T53 l0 x9_3).f0) ((rd_T53 l0 x9_3).f1) ((rd_T53 l0 x9_3).f2) true _ A20.1).mono ?_
              rintro e w25 ⟨rfl, hb⟩
              refine ⟨_, rfl, ?_⟩
              replace HO_3 := rB HO_3 hb
              replace HB := sU HB hb
              (try clear hb)
              (try clear hb2)
              (try clear hk)
              (try clear hi)
              refine hK.out _ _ ⟨(cB HB hw384_0), (cB HB hw384_1), (cB HB hw384_2), (cB HB hw386_0), (cB HB hw386_1), (cB HB hw386_2), (cB HB hw387_0), (cB HB hw387_1), (cB HB hw387_2), (cB HB hw388_0), (cB HB hw388_1), (cB HB hw388_2)⟩ (fun hHeld => ?_)
              clear hK K
              refine nA ?_
              refine pA 63 5 68 ?_
              refine pA 127 6 69 ?_
              refine pA 255 7 70 ?_
              refine pA 511 8 71 ?_
              refine pA 1023 9 72 ?_
              refine pA 3071 11 74 ?_
              refine tA 4095 10 73 hHeld ?_
              refine pA 8191 12 75 ?_
              refine pA 16383 13 76 ?_
              refine pA 32767 14 77 ?_
              refine pA 65535 15 78 ?_
              refine pA 131071 16 79 ?_
              refine pA 262143 17 80 ?_
              refine pA 524287 18 81 ?_
              refine pA 1572863 20 83 ?_
              refine pA 3670015 21 84 ?_
              refine pA 7864319 22 85 ?_
              refine pA 16252927 23 86 ?_
              refine pA 83361791 26 89 ?_
              refine tA 83886079 19 82 hHeld ?_
              refine tA 100663295 24 87 hHeld ?_
              refine pA 134217727 25 88 ?_
              refine pA 268435455 27 90 ?_
              refine pA 536870911 28 91 ?_
              refine done_ (done_of HT_.1 (by kernel_rfl)) ?_
              try go_wp2
              replace HO_3 := Aa (Kd.R_drew HO_3.1)
              replace HB := Aa (below_drew1 HB.1)
              have p389 : 0 ≤ (x9_3 : Int) := dT
              have q389 : x9_3 < (l0.length : Int) := dT
              obtain ⟨ad389, e389, hx389_0, hx389_1, hx389_2⟩ := at_T53 HR0.1 x9_3 p389 q389
              have hw389_2 := hx389_2
              have hw389_1 := hx389_1
              have hw389_0 := hx389_0
              obtain rfl : ad384 = ad389 := (by injection e389)
              replace hx389_0 := cB HB hx389_0
              replace hx389_1 := cB HB hx389_1
              replace hx389_2 := cB HB hx389_2
              replace p389 := eq_true p389
              replace q389 := eq_true q389
              have p390 : 0 ≤ (x9_3 : Int) := dT
              have q390 : x9_3 < (l0.length : Int) := dT
              obtain ⟨ad390, e390, hx390_0, hx390_1, hx390_2⟩ := at_T53 HR0.1 x9_3 p390 q390
              have hw390_2 := hx390_2
              have hw390_1 := hx390_1
              have hw390_0 := hx390_0
              obtain rfl : ad384 = ad390 := (by injection e390)
              replace hx390_0 := cB HB hx390_0
              replace hx390_1 := cB HB hx390_1
              replace hx390_2 := cB HB hx390_2
              replace p390 := eq_true p390
              replace q390 := eq_true q390
              refine start_ (n := 12) (S := fun w' => w'.cell? (ad384.add ((x9_3).toNat * 3)) = some (.int .i64 ((rd_T53 l0 x9_3).f0)) ∧ w'.cell? ⟨(ad384.add ((x9_3).toNat * 3)).block, (ad384.add ((x9_3).toNat * 3)).off + 1, none⟩ = some (.int .i64 ((rd_T53 l0 x9_3).f1)) ∧ w'.cell? ⟨(ad384.add ((x9_3).toNat * 3)).block, (ad384.add ((x9_3).toNat * 3)).off + 2, none⟩ = some (.int .i64 ((rd_T53 l0 x9_3).f2)) ∧ w'.cell? (ad384.add ((x9_3).toNat * 3)) = some (.int .i64 ((rd_T53 l0 x9_3).f0)) ∧ w'.cell? ⟨(ad384.add ((x9_3).toNat * 3)).block, (ad384.add ((x9_3).toNat * 3)).off + 1, none⟩ = some (.int .i64 ((rd_T53 l0 x9_3).f1)) ∧ w'.cell? ⟨(ad384.add ((x9_3).toNat * 3)).block, (ad384.add ((x9_3).toNat * 3)).off + 2, none⟩ = some (.int .i64 ((rd_T53 l0 x9_3).f2))) (ds := []) (bm 12 0) (by kernel_rfl) rfl (bm0 _) ⟨(cB HB hw389_0), (cB HB hw389_1), (cB HB hw389_2), (cB HB hw390_0), (cB HB hw390_1), (cB HB hw390_2)⟩ (fun hHeld => ?_); refine with_tabW tegularef32_Runs.tab18 tegularef32_Runs.bits18 (fun HT_ HW_ => ?_)
              generalize w25.drew = w26 at HO_3 HB hx389_0 hx389_1 hx389_2 hx390_0 hx390_1 hx390_2 hHeld ⊢
              refine pA 1 0 92 ?_
              refine pA 3 1 93 ?_
              refine pA 7 2 94 ?_
              refine pA 15 3 95 ?_
              refine pA 47 5 97 ?_
              refine pA 111 6 98 ?_
              refine pA 239 7 99 ?_
              refine pA 495 8 100 ?_
              refine tA 511 4 96 hHeld ?_
              refine tA 1023 9 101 hHeld ?_
              refine pA 2047 10 102 ?_
              refine pA 4095 11 4 ?_
              refine done_ (done_of HT_.1 (by kernel_rfl)) ?_
              try go_wp2
              go_roundg k3
              case measure => have := HK1.1; have := HK2.1; have := HK3.1; omega
              case rel => exact ⟨(wrap64 (((rd_T53 l0 x9_3).f2) + ((rd_T53 l0 x9_3).f1))), (wrap64 (x9_3 + 1)), (by first | rfl | (simp; done) | (simp [*]; done)), (by first | rfl | (simp; done) | (simp [*]; done)), H', ⟨by have := HK1.1; have := HK2.1; have := HK3.1; omega⟩, ⟨rU HO_3.1⟩, ⟨bU HB.1⟩⟩
             ·
              rw [if_neg c23] at H
              have c23b0 := decide_eq_false c23
              clear c23
              have H' := Aside0.mk H
              clear H
              try go_wp2
              replace HO_3 := Aa (Kd.R_drew HO_3.1)
              replace HB := Aa (below_drew1 HB.1)
              have p384 : 0 ≤ (x9_3 : Int) := dT
              have q384 : x9_3 < (l0.length : Int) := dT
              obtain ⟨ad384, e384, hx384_0, hx384_1, hx384_2⟩ := at_T53 HR0.1 x9_3 p384 q384
              have hw384_2 := hx384_2
              have hw384_1 := hx384_1
              have hw384_0 := hx384_0
              cases e384
              replace hx384_0 := cB HB hx384_0
              replace hx384_1 := cB HB hx384_1
              replace hx384_2 := cB HB hx384_2
              replace p384 := eq_true p384
              replace q384 := eq_true q384
              have p386 : 0 ≤ (x9_3 : Int) := dT
              have q386 : x9_3 < (l0.length : Int) := dT
              obtain ⟨ad386, e386, hx386_0, hx386_1, hx386_2⟩ := at_T53 HR0.1 x9_3 p386 q386
              have hw386_2 := hx386_2
              have hw386_1 := hx386_1
              have hw386_0 := hx386_0
              obtain rfl : ad384 = ad386 := (by injection e386)
              replace hx386_0 := cB HB hx386_0
              replace hx386_1 := cB HB hx386_1
              replace hx386_2 := cB HB hx386_2
              replace p386 := eq_true p386
              replace q386 := eq_true q386
              have p387 : 0 ≤ (x9_3 : Int) := dT
              have q387 : x9_3 < (l0.length : Int) := dT
              obtain ⟨ad387, e387, hx387_0, hx387_1, hx387_2⟩ := at_T53 HR0.1 x9_3 p387 q387
              have hw387_2 := hx387_2
              have hw387_1 := hx387_1
              have hw387_0 := hx387_0
              obtain rfl : ad384 = ad387 := (by injection e387)
              replace hx387_0 := cB HB hx387_0
              replace hx387_1 := cB HB hx387_1
              replace hx387_2 := cB HB hx387_2
              replace p387 := eq_true p387
              replace q387 := eq_true q387
              have p388 : 0 ≤ (x9_3 : Int) := dT
              have q388 : x9_3 < (l0.length : Int) := dT
              obtain ⟨ad388, e388, hx388_0, hx388_1, hx388_2⟩ := at_T53 HR0.1 x9_3 p388 q388
              have hw388_2 := hx388_2
              have hw388_1 := hx388_1
              have hw388_0 := hx388_0
              obtain rfl : ad384 = ad388 := (by injection e388)
              replace hx388_0 := cB HB hx388_0
              replace hx388_1 := cB HB hx388_1
              replace hx388_2 := cB HB hx388_2
              replace p388 := eq_true p388
              replace q388 := eq_true q388
              refine start_ (n := 29) (S := fun w' => w'.cell? (ad384.add ((x9_3).toNat * 3)) = some (.int .i64 ((rd_T53 l0 x9_3).f0)) ∧ w'.cell? ⟨(ad384.add ((x9_3).toNat * 3)).block, (ad384.add ((x9_3).toNat * 3)).off + 1, none⟩ = some (.int .i64 ((rd_T53 l0 x9_3).f1)) ∧ w'.cell? ⟨(ad384.add ((x9_3).toNat * 3)).block, (ad384.add ((x9_3).toNat * 3)).off + 2, none⟩ = some (.int .i64 ((rd_T53 l0 x9_3).f2)) ∧ w'.cell? (ad384.add ((x9_3).toNat * 3)) = some (.int .i64 ((rd_T53 l0 x9_3).f0)) ∧ w'.cell? ⟨(ad384.add ((x9_3).toNat * 3)).block, (ad384.add ((x9_3).toNat * 3)).off + 1, none⟩ = some (.int .i64 ((rd_T53 l0 x9_3).f1)) ∧ w'.cell? ⟨(ad384.add ((x9_3).toNat * 3)).block, (ad384.add ((x9_3).toNat * 3)).off + 2, none⟩ = some (.int .i64 ((rd_T53 l0 x9_3).f2)) ∧ w'.cell? (ad384.add ((x9_3).toNat * 3)) = some (.int .i64 ((rd_T53 l0 x9_3).f0)) ∧ w'.cell? ⟨(ad384.add ((x9_3).toNat * 3)).block, (ad384.add ((x9_3).toNat * 3)).off + 1, none⟩ = some (.int .i64 ((rd_T53 l0 x9_3).f1)) ∧ w'.cell? ⟨(ad384.add ((x9_3).toNat * 3)).block, (ad384.add ((x9_3).toNat * 3)).off + 2, none⟩ = some (.int .i64 ((rd_T53 l0 x9_3).f2)) ∧ w'.cell? (ad384.add ((x9_3).toNat * 3)) = some (.int .i64 ((rd_T53 l0 x9_3).f0)) ∧ w'.cell? ⟨(ad384.add ((x9_3).toNat * 3)).block, (ad384.add ((x9_3).toNat * 3)).off + 1, none⟩ = some (.int .i64 ((rd_T53 l0 x9_3).f1)) ∧ w'.cell? ⟨(ad384.add ((x9_3).toNat * 3)).block, (ad384.add ((x9_3).toNat * 3)).off + 2, none⟩ = some (.int .i64 ((rd_T53 l0 x9_3).f2))) (ds := []) (bm 29 0) (by kernel_rfl) rfl (bm0 _) ⟨(cB HB hw384_0), (cB HB hw384_1), (cB HB hw384_2), (cB HB hw386_0), (cB HB hw386_1), (cB HB hw386_2), (cB HB hw387_0), (cB HB hw387_1), (cB HB hw387_2), (cB HB hw388_0), (cB HB hw388_1), (cB HB hw388_2)⟩ (fun hHeld => ?_); refine with_tabW tegularef32_Runs.tab17 tegularef32_Runs.bits17 (fun HT_ HW_ => ?_)
              generalize wr.drew = w27 at HO_3 HB hx384_0 hx384_1 hx384_2 hx386_0 hx386_1 hx386_2 hx387_0 hx387_1 hx387_2 hx388_0 hx388_1 hx388_2 hHeld ⊢
              refine pA 1 0 63 ?_
              refine pA 3 1 64 ?_
              refine pA 7 2 65 ?_
              refine tA 15 3 66 hHeld ?_
              refine oA 31 4 67 (fun K hK => ?_)
              refine gR Try.func68 #[.agg #[.int .i64 ((rd_T53 l0 x9_3).f0), .int .i64 ((rd_T53 l0 x9_3).f1), .int .i64 ((rd_T53 l0 x9_3).f2)]] ?_
              with_reducible refine (tegularef32_One.calls ((rd_T53 l0 x9_3).f0) ((rd_T53 l0 x9_3).f1) ((rd_T53 l0 x9_3).f2) true _ A20.1).mono ?_
              rintro e w28 ⟨rfl, hb⟩
              refine ⟨_, rfl, ?_⟩
              replace HO_3 := rB HO_3 hb
              replace HB := sU HB hb
              (try clear hb)
              (try clear hb2)
              (try clear hk)
              (try clear hi)
              refine hK.out _ _ ⟨(cB HB hw384_0), (cB HB hw384_1), (cB HB hw384_2), (cB HB hw386_0), (cB HB hw386_1), (cB HB hw386_2), (cB HB hw387_0), (cB HB hw387_1), (cB HB hw387_2), (cB HB hw388_0), (cB HB hw388_1), (cB HB hw388_2)⟩ (fun hHeld => ?_)
              clear hK K
              refine nA ?_
              refine pA 63 5 68 ?_
              refine pA 127 6 69 ?_
              refine pA 255 7 70 ?_
              refine pA 511 8 71 ?_
              refine pA 1023 9 72 ?_
              refine pA 3071 11 74 ?_
              refine tA 4095 10 73 hHeld ?_
              refine pA 8191 12 75 ?_
              refine pA 16383 13 76 ?_
              refine pA 32767 14 77 ?_
              refine pA 65535 15 78 ?_
              refine pA 131071 16 79 ?_
              refine pA 262143 17 80 ?_
              refine pA 524287 18 81 ?_
              refine pA 1572863 20 83 ?_
              refine pA 3670015 21 84 ?_
              refine pA 7864319 22 85 ?_
              refine pA 16252927 23 86 ?_
              refine pA 83361791 26 89 ?_
              refine tA 83886079 19 82 hHeld ?_
              refine tA 100663295 24 87 hHeld ?_
              refine pA 134217727 25 88 ?_
              refine pA 268435455 27 90 ?_
              refine pA 536870911 28 91 ?_
              refine done_ (done_of HT_.1 (by kernel_rfl)) ?_
              try go_wp2
              go_roundg k3
              case measure => have := HK1.1; have := HK2.1; have := HK3.1; omega
              case rel => exact ⟨(x4_3), (wrap64 (x9_3 + 1)), (by first | rfl | (simp; done) | (simp [*]; done)), (by first | rfl | (simp; done) | (simp [*]; done)), H', ⟨by have := HK1.1; have := HK2.1; have := HK3.1; omega⟩, ⟨rU HO_3.1⟩, ⟨bU HB.1⟩⟩
            ·
             rw [if_neg c22] at H
             have c22b0 := decide_eq_false c22
             clear c22
             have H' := Aside0.mk H
             clear H
             try go_wp2
             replace HO_3 := Aa (Kd.R_drew HO_3.1)
             replace HB := Aa (below_drew1 HB.1)
             have p384 : 0 ≤ (x9_3 : Int) := dT
             have q384 : x9_3 < (l0.length : Int) := dT
             obtain ⟨ad384, e384, hx384_0, hx384_1, hx384_2⟩ := at_T53 HR0.1 x9_3 p384 q384
             have hw384_2 := hx384_2
             have hw384_1 := hx384_1
             have hw384_0 := hx384_0
             cases e384
             replace hx384_0 := cB HB hx384_0
             replace hx384_1 := cB HB hx384_1
             replace hx384_2 := cB HB hx384_2
             replace p384 := eq_true p384
             replace q384 := eq_true q384
             have p386 : 0 ≤ (x9_3 : Int) := dT
             have q386 : x9_3 < (l0.length : Int) := dT
             obtain ⟨ad386, e386, hx386_0, hx386_1, hx386_2⟩ := at_T53 HR0.1 x9_3 p386 q386
             have hw386_2 := hx386_2
             have hw386_1 := hx386_1
             have hw386_0 := hx386_0
             obtain rfl : ad384 = ad386 := (by injection e386)
             replace hx386_0 := cB HB hx386_0
             replace hx386_1 := cB HB hx386_1
             replace hx386_2 := cB HB hx386_2
             replace p386 := eq_true p386
             replace q386 := eq_true q386
             refine start_ (n := 29) (S := fun w' => w'.cell? (ad384.add ((x9_3).toNat * 3)) = some (.int .i64 ((rd_T53 l0 x9_3).f0)) ∧ w'.cell? ⟨(ad384.add ((x9_3).toNat * 3)).block, (ad384.add ((x9_3).toNat * 3)).off + 1, none⟩ = some (.int .i64 ((rd_T53 l0 x9_3).f1)) ∧ w'.cell? ⟨(ad384.add ((x9_3).toNat * 3)).block, (ad384.add ((x9_3).toNat * 3)).off + 2, none⟩ = some (.int .i64 ((rd_T53 l0 x9_3).f2)) ∧ w'.cell? (ad384.add ((x9_3).toNat * 3)) = some (.int .i64 ((rd_T53 l0 x9_3).f0)) ∧ w'.cell? ⟨(ad384.add ((x9_3).toNat * 3)).block, (ad384.add ((x9_3).toNat * 3)).off + 1, none⟩ = some (.int .i64 ((rd_T53 l0 x9_3).f1)) ∧ w'.cell? ⟨(ad384.add ((x9_3).toNat * 3)).block, (ad384.add ((x9_3).toNat * 3)).off + 2, none⟩ = some (.int .i64 ((rd_T53 l0 x9_3).f2))) (ds := []) (bm 29 0) (by kernel_rfl) rfl (bm0 _) ⟨(cB HB hw384_0), (cB HB hw384_1), (cB HB hw384_2), (cB HB hw386_0), (cB HB hw386_1), (cB HB hw386_2)⟩ (fun hHeld => ?_); refine with_tabW tegularef32_Runs.tab17 tegularef32_Runs.bits17 (fun HT_ HW_ => ?_)
             generalize wr.drew = w29 at HO_3 HB hx384_0 hx384_1 hx384_2 hx386_0 hx386_1 hx386_2 hHeld ⊢
             refine pA 1 0 63 ?_
             refine pA 3 1 64 ?_
             refine pA 7 2 65 ?_
             refine tA 15 3 66 hHeld ?_
             refine oA 31 4 67 (fun K hK => ?_)
             refine gR Try.func68 #[.agg #[.int .i64 ((rd_T53 l0 x9_3).f0), .int .i64 ((rd_T53 l0 x9_3).f1), .int .i64 ((rd_T53 l0 x9_3).f2)]] ?_
             with_reducible refine (tegularef32_One.calls ((rd_T53 l0 x9_3).f0) ((rd_T53 l0 x9_3).f1) ((rd_T53 l0 x9_3).f2) true _ A20.1).mono ?_
             rintro e w30 ⟨rfl, hb⟩
             refine ⟨_, rfl, ?_⟩
             replace HO_3 := rB HO_3 hb
             replace HB := sU HB hb
             (try clear hb)
             (try clear hb2)
             (try clear hk)
             (try clear hi)
             refine hK.out _ _ ⟨(cB HB hw384_0), (cB HB hw384_1), (cB HB hw384_2), (cB HB hw386_0), (cB HB hw386_1), (cB HB hw386_2)⟩ (fun hHeld => ?_)
             clear hK K
             refine nA ?_
             refine pA 63 5 68 ?_
             refine pA 127 6 69 ?_
             refine pA 255 7 70 ?_
             refine pA 511 8 71 ?_
             refine pA 1023 9 72 ?_
             refine pA 3071 11 74 ?_
             refine tA 4095 10 73 hHeld ?_
             refine pA 8191 12 75 ?_
             refine pA 16383 13 76 ?_
             refine pA 32767 14 77 ?_
             refine pU 65535 15 78 ?_
             refine pU 131071 16 79 ?_
             refine pU 262143 17 80 ?_
             refine pU 524287 18 81 ?_
             refine pU 1048575 19 82 ?_
             refine pU 2097151 20 83 ?_
             refine pU 4194303 21 84 ?_
             refine pU 8388607 22 85 ?_
             refine pU 16777215 23 86 ?_
             refine pU 33554431 24 87 ?_
             refine pU 67108863 25 88 ?_
             refine pU 134217727 26 89 ?_
             refine pU 268435455 27 90 ?_
             refine pA 536870911 28 91 ?_
             refine done_ (done_of HT_.1 (by kernel_rfl)) ?_
             try go_wp2
             go_roundg k3
             case measure => have := HK1.1; have := HK2.1; have := HK3.1; omega
             case rel => exact ⟨(x4_3), (wrap64 (x9_3 + 1)), (by first | rfl | (simp; done) | (simp [*]; done)), (by first | rfl | (simp; done) | (simp [*]; done)), H', ⟨by have := HK1.1; have := HK2.1; have := HK3.1; omega⟩, ⟨rU HO_3.1⟩, ⟨bU HB.1⟩⟩
           ·
            replace c21 := Bool.eq_false_iff.mpr c21
            subst c21
            have H1 : (tegularef32_Runs.l2 k3 l0 x3_1 x4_3 x5_2 (wrap64 (x9_3 + 1))) = some r := by rw [if_neg (show ¬ (false = true) by decide)] at H; exact H
            clear H
            have H := H1
            clear H1
            have H' := Aside0.mk H
            clear H
            try go_wp2
            replace HO_3 := Aa (Kd.R_drew HO_3.1)
            replace HB := Aa (below_drew1 HB.1)
            have p384 : 0 ≤ (x9_3 : Int) := dT
            have q384 : x9_3 < (l0.length : Int) := dT
            obtain ⟨ad384, e384, hx384_0, hx384_1, hx384_2⟩ := at_T53 HR0.1 x9_3 p384 q384
            have hw384_2 := hx384_2
            have hw384_1 := hx384_1
            have hw384_0 := hx384_0
            cases e384
            replace hx384_0 := cB HB hx384_0
            replace hx384_1 := cB HB hx384_1
            replace hx384_2 := cB HB hx384_2
            replace p384 := eq_true p384
            replace q384 := eq_true q384
            refine start_ (n := 29) (S := fun w' => w'.cell? (ad384.add ((x9_3).toNat * 3)) = some (.int .i64 ((rd_T53 l0 x9_3).f0)) ∧ w'.cell? ⟨(ad384.add ((x9_3).toNat * 3)).block, (ad384.add ((x9_3).toNat * 3)).off + 1, none⟩ = some (.int .i64 ((rd_T53 l0 x9_3).f1)) ∧ w'.cell? ⟨(ad384.add ((x9_3).toNat * 3)).block, (ad384.add ((x9_3).toNat * 3)).off + 2, none⟩ = some (.int .i64 ((rd_T53 l0 x9_3).f2))) (ds := []) (bm 29 0) (by kernel_rfl) rfl (bm0 _) ⟨(cB HB hw384_0), (cB HB hw384_1), (cB HB hw384_2)⟩ (fun hHeld => ?_); refine with_tabW tegularef32_Runs.tab17 tegularef32_Runs.bits17 (fun HT_ HW_ => ?_)
            generalize wr.drew = w31 at HO_3 HB hx384_0 hx384_1 hx384_2 hHeld ⊢
            refine pA 1 0 63 ?_
            refine pA 3 1 64 ?_
            refine pA 7 2 65 ?_
            refine tA 15 3 66 hHeld ?_
            refine oA 31 4 67 (fun K hK => ?_)
            refine gR Try.func68 #[.agg #[.int .i64 ((rd_T53 l0 x9_3).f0), .int .i64 ((rd_T53 l0 x9_3).f1), .int .i64 ((rd_T53 l0 x9_3).f2)]] ?_
            with_reducible refine (tegularef32_One.calls ((rd_T53 l0 x9_3).f0) ((rd_T53 l0 x9_3).f1) ((rd_T53 l0 x9_3).f2) false _ A20.1).mono ?_
            rintro e w32 ⟨rfl, hb⟩
            refine ⟨_, rfl, ?_⟩
            replace HO_3 := rB HO_3 hb
            replace HB := sU HB hb
            (try clear hb)
            (try clear hb2)
            (try clear hk)
            (try clear hi)
            refine hK.out _ _ ⟨(cB HB hw384_0), (cB HB hw384_1), (cB HB hw384_2)⟩ (fun hHeld => ?_)
            clear hK K
            refine nA ?_
            refine pA 63 5 68 ?_
            refine pU 127 6 69 ?_
            refine pU 255 7 70 ?_
            refine pU 511 8 71 ?_
            refine pU 1023 9 72 ?_
            refine pU 2047 10 73 ?_
            refine pU 4095 11 74 ?_
            refine pU 8191 12 75 ?_
            refine pA 16383 13 76 ?_
            refine pA 32767 14 77 ?_
            refine pU 65535 15 78 ?_
            refine pU 131071 16 79 ?_
            refine pU 262143 17 80 ?_
            refine pU 524287 18 81 ?_
            refine pU 1048575 19 82 ?_
            refine pU 2097151 20 83 ?_
            refine pU 4194303 21 84 ?_
            refine pU 8388607 22 85 ?_
            refine pU 16777215 23 86 ?_
            refine pU 33554431 24 87 ?_
            refine pU 67108863 25 88 ?_
            refine pU 134217727 26 89 ?_
            refine pU 268435455 27 90 ?_
            refine pA 536870911 28 91 ?_
            refine done_ (done_of HT_.1 (by kernel_rfl)) ?_
            try go_wp2
            go_roundg k3
            case measure => have := HK1.1; have := HK2.1; have := HK3.1; omega
            case rel => exact ⟨(x4_3), (wrap64 (x9_3 + 1)), (by first | rfl | (simp; done) | (simp [*]; done)), (by first | rfl | (simp; done) | (simp [*]; done)), H', ⟨by have := HK1.1; have := HK2.1; have := HK3.1; omega⟩, ⟨rU HO_3.1⟩, ⟨bU HB.1⟩⟩
          ·
           rw [if_neg c19] at H
           exact absurd H (by simp)
         ·
          rw [if_neg c18] at H
          have c18b0 := decide_eq_false c18
          clear c18
          by_cases c33 : (wrap64 ((x3_1.length : Int) - 1)) ≥ 0
          ·
           rw [if_pos c33] at H
           have c33b0 := decide_eq_true c33
           clear c33
           obtain ⟨ji34, hji34⟩ : ∃ j_ : Int, (wrap64 ((x3_1.length : Int) - 1)) = j_ := ⟨_, rfl⟩
           replace H : (if 0 ≤ (ji34) then (if (ji34) < (x3_1.length : Int) then (if (wrap64 (((rd_T53 x3_1 (ji34)).f2) + ((rd_T53 x3_1 (ji34)).f1))) = x5_2 then (tegularef32_Runs.l0 k3 l0 (x3_1.set ((ji34) : Int).toNat (⟨(rd_T53 x3_1 (ji34)).f0, wrap64 (((rd_T53 x3_1 (ji34)).f1) + (wrap64 (x4_3 - x5_2))), (rd_T53 x3_1 (ji34)).f2⟩ : S53)) x4_3) else (if x3_1.length < 5864062014805 then (tegularef32_Runs.l0 k3 l0 (x3_1 ++ [(⟨0, wrap64 (x4_3 - x5_2), x5_2⟩ : S53)]) x4_3) else (none))) else (none)) else (none)) = some r := by first | (rw [hji34] at H; exact H) | (simp only [hji34] at H ⊢; exact H)
           (try rw [hji34] at c33b0)
           have hji34w : (IntKind.i64.wrap ((x3_1.length : Int) - 1)) = ji34 := (i64_w _).trans hji34
           by_cases c35 : 0 ≤ (ji34)
           ·
            rw [if_pos c35] at H
            have c35b0 := decide_eq_true c35
            clear c35
            by_cases c36 : (ji34) < (x3_1.length : Int)
            ·
             rw [if_pos c36] at H
             have c36b0 := decide_eq_true c36
             clear c36
             by_cases c37 : (wrap64 (((rd_T53 x3_1 (ji34)).f2) + ((rd_T53 x3_1 (ji34)).f1))) = x5_2
             ·
              rw [if_pos c37] at H
              have c37b0 : ((wrap64 (((rd_T53 x3_1 (ji34)).f2) + ((rd_T53 x3_1 (ji34)).f1))) == x5_2) = true := beq_iff_eq.mpr c37
              have c37b1 : ((wrap64 (((rd_T53 x3_1 (ji34)).f2) + ((rd_T53 x3_1 (ji34)).f1))) != x5_2) = false := bne_eq_false_iff_eq.mpr c37
              clear c37
              obtain ⟨y394, hy394⟩ : ∃ y_ : List (S53), y_ = (x3_1.set ((ji34) : Int).toNat (⟨(rd_T53 x3_1 (ji34)).f0, wrap64 (((rd_T53 x3_1 (ji34)).f1) + (wrap64 (x4_3 - x5_2))), (rd_T53 x3_1 (ji34)).f2⟩ : S53)) := ⟨_, rfl⟩
              replace H : (tegularef32_Runs.l0 k3 l0 y394 x4_3) = some r := by first | (rw [hy394]; exact H) | exact H
              have Ny394 := Aside0.mk hy394
              clear hy394
              have H' := Aside0.mk H
              clear H
              obtain ⟨Ao39, co39, eo39⟩ := Kd.R_slice HO_3.1
              subst eo39
              try go_wp2
              replace HO_3 := Aa (Kd.R_drew HO_3.1)
              replace HB := Aa (below_drew1 HB.1)
              have p391 : 0 ≤ ((ji34) : Int) := dT
              have q391 : (ji34) < (x3_1.length : Int) := dT
              obtain ⟨ad391, e391, hx391_0, hx391_1, hx391_2⟩ := at_T53 (Kd.R_reads' HO_3.1).2.2 (ji34) p391 q391
              cases e391
              replace p391 := eq_true p391
              replace q391 := eq_true q391
              have p392 : 0 ≤ ((ji34) : Int) := dT
              have q392 : (ji34) < (x3_1.length : Int) := dT
              obtain ⟨ad392, e392, hx392_0, hx392_1, hx392_2⟩ := at_T53 (Kd.R_reads' HO_3.1).2.2 (ji34) p392 q392
              obtain rfl : ad391 = ad392 := (by injection e392)
              replace p392 := eq_true p392
              replace q392 := eq_true q392
              refine start_ (n := 17) (S := fun w' => w'.cell? (ad391.add (((ji34)).toNat * 3)) = some (.int .i64 ((rd_T53 x3_1 (ji34)).f0)) ∧ w'.cell? ⟨(ad391.add (((ji34)).toNat * 3)).block, (ad391.add (((ji34)).toNat * 3)).off + 1, none⟩ = some (.int .i64 ((rd_T53 x3_1 (ji34)).f1)) ∧ w'.cell? ⟨(ad391.add (((ji34)).toNat * 3)).block, (ad391.add (((ji34)).toNat * 3)).off + 2, none⟩ = some (.int .i64 ((rd_T53 x3_1 (ji34)).f2)) ∧ w'.cell? (ad391.add (((ji34)).toNat * 3)) = some (.int .i64 ((rd_T53 x3_1 (ji34)).f0)) ∧ w'.cell? ⟨(ad391.add (((ji34)).toNat * 3)).block, (ad391.add (((ji34)).toNat * 3)).off + 1, none⟩ = some (.int .i64 ((rd_T53 x3_1 (ji34)).f1)) ∧ w'.cell? ⟨(ad391.add (((ji34)).toNat * 3)).block, (ad391.add (((ji34)).toNat * 3)).off + 2, none⟩ = some (.int .i64 ((rd_T53 x3_1 (ji34)).f2))) (ds := []) (bm 17 0) (by kernel_rfl) rfl (bm0 _) ⟨hx391_0, hx391_1, hx391_2, hx392_0, hx392_1, hx392_2⟩ (fun hHeld => ?_); refine with_tabW tegularef32_Runs.tab20 tegularef32_Runs.bits20 (fun HT_ HW_ => ?_)
              generalize wr.drew = w40 at HO_3 HB hx391_0 hx391_1 hx391_2 hx392_0 hx392_1 hx392_2 hHeld ⊢
              refine pA 1 0 106 ?_
              refine pA 3 1 107 ?_
              refine pA 7 2 108 ?_
              refine pA 15 3 109 ?_
              refine pA 31 4 110 ?_
              refine pA 63 5 111 ?_
              refine pA 127 6 112 ?_
              refine pA 383 8 114 ?_
              refine pA 895 9 115 ?_
              refine pA 1919 10 116 ?_
              refine pA 3967 11 117 ?_
              refine pA 20351 14 120 ?_
              refine tA 20479 7 113 hHeld ?_
              refine tA 24575 12 118 hHeld ?_
              refine pA 32767 13 119 ?_
              refine pA 65535 15 121 ?_
              refine pA 131071 16 122 ?_
              refine done_ (done_of HT_.1 (by kernel_rfl)) ?_
              have p393 : 0 ≤ ((ji34) : Int) := dT
              have q393 : (ji34) < (x3_1.length : Int) := dT
              obtain ⟨ad393, e393, hx393_0, hx393_1, hx393_2⟩ := at_T53 (Kd.R_reads' HO_3.1).2.2 (ji34) p393 q393
              obtain rfl : ad391 = ad393 := (by injection e393)
              replace p393 := eq_true p393
              replace q393 := eq_true q393
              have p38 : 0 ≤ ((ji34) : Int) := dT
              have q38 : ((ji34) : Int) < ((x3_1.length : Int) : Int) := dT
              obtain ⟨go38, co38, eo38, gb38, gl38, cl38, HG38⟩ := Kd.R_form HO_3.1 (by omega)
              (first | cases eo38 | (injection eo38 with ea_ en_ ec_; (first | subst ea_ | (injection ea_ with ea_; subst ea_)); subst ec_; clear en_))
              have GB38 := Aside0.mk gb38
              have GG38 := Aside0.mk HG38
              clear gb38 gl38 HG38
              (first | simp only [add_plain] at hx391_0 | skip)
              (first | simp only [add_plain] at hx391_1 | skip)
              (first | simp only [add_plain] at hx391_2 | skip)
              (first | simp only [add_plain] at hx392_0 | skip)
              (first | simp only [add_plain] at hx392_1 | skip)
              (first | simp only [add_plain] at hx392_2 | skip)
              (first | simp only [add_plain] at hx393_0 | skip)
              (first | simp only [add_plain] at hx393_1 | skip)
              (first | simp only [add_plain] at hx393_2 | skip)
              obtain ⟨ce38, hcl38, hM38, hcc38, hfr38⟩ := Kd.R_elem HO_3.1 z53 ((ji34) : Int) p38 q38
              obtain rfl := k53_openM hM38
              have hx38_0 : w40.cell? ⟨go38, ((ji34) : Int).toNat * 3, none⟩ = some (.int .i64 ((rd_T53 x3_1 (ji34)).f0)) := hcc38 0 _ rfl
              have hx38_1 : w40.cell? ⟨go38, ((ji34) : Int).toNat * 3 + 1, none⟩ = some (.int .i64 ((rd_T53 x3_1 (ji34)).f1)) := hcc38 1 _ rfl
              have hx38_2 : w40.cell? ⟨go38, ((ji34) : Int).toNat * 3 + 2, none⟩ = some (.int .i64 ((rd_T53 x3_1 (ji34)).f2)) := hcc38 2 _ rfl
              have hf38_0 : w40.frozen? ⟨go38, ((ji34) : Int).toNat * 3, none⟩ = false := hfr38 0
              have hf38_1 : w40.frozen? ⟨go38, ((ji34) : Int).toNat * 3 + 1, none⟩ = false := hfr38 1
              have hf38_2 : w40.frozen? ⟨go38, ((ji34) : Int).toNat * 3 + 2, none⟩ = false := hfr38 2
              clear hcl38 hcc38 hfr38 hM38
              replace p38 := eq_true p38
              replace q38 := eq_true q38
              have HX41 := Aa (show Kd.R k53 53 w40 w.heap.size (fun _ => True) (.slice (some ⟨go38, 0, none⟩) x3_1.length co39) x3_1 from (rU HO_3.1))
              obtain ⟨ce41, hcl41, hM41, hcc41, hfr41⟩ := Kd.R_elem HX41.1 z53 ((ji34) : Int) (dT) (by have h_ : ((ji34) : Int) < ((x3_1.length : Int) : Int) := dT; first | exact h_ | (have e_ := (Kd.R_reads' HO_3.1).1; omega) | simpa using h_)
              obtain rfl := k53_openM hM41
              have HP41 := Kd.R_seg HX41.1 ((ji34) : Int) (dT) (by have h_ : ((ji34) : Int) < ((x3_1.length : Int) : Int) := dT; first | exact h_ | (have e_ := (Kd.R_reads' HO_3.1).1; omega) | simpa using h_) (seg := [.int .i64 (wrap64 (((rd_T53 x3_1 (ji34)).f1) + (wrap64 (x4_3 - x5_2))))]) (j := 1) hcl41 hcc41 (show 2 ≤ 3 from by decide) (x' := (⟨(rd_T53 x3_1 (ji34)).f0, wrap64 (((rd_T53 x3_1 (ji34)).f1) + (wrap64 (x4_3 - x5_2))), (rd_T53 x3_1 (ji34)).f2⟩ : S53)) (k53_mkM _ _ _ (⟨(rd_T53 x3_1 (ji34)).f0, wrap64 (((rd_T53 x3_1 (ji34)).f1) + (wrap64 (x4_3 - x5_2))), (rd_T53 x3_1 (ji34)).f2⟩ : S53) ) (fun _ hk => hk)
              have hx41_1 := hcc41 1 _ rfl
              (try simp only [show (k53).sz = 3 from rfl, Nat.mul_one, Nat.add_zero] at hx41_1)
              have hf41_1 := hfr41 1
              (try simp only [show (k53).sz = 3 from rfl, Nat.mul_one, Nat.add_zero] at hf41_1)
              clear hcl41 hcc41 hfr41 hM41
              try go_wp2_with (first | ((with_reducible refine gT 3 133 ?_); refine sE (w40.setCell ⟨go38, ((ji34) : Int).toNat * 3 + 1, none⟩ (.int .i64 (wrap64 (((rd_T53 x3_1 (ji34)).f1) + (wrap64 (x4_3 - x5_2)))))) ?_; intro w42 hw; have hg : w40.grownBy w42 (some go38) := (by rw [hw]; exact HP41.2); have hp_ : Kd.R k53 53 w42 w.heap.size (fun _ => True) (.slice (some ⟨go38, 0, none⟩) x3_1.length co39) y394 := (by rw [hw, Ny394.1]; exact HP41.1); clear HP41; replace HO_3 := Aa (hp_); replace HB := Aa ((by rw [hw]; exact below_set (HB.1) GB38.1 : Below w.heap.size w w42)); clear hg hw hp_))
              go_roundg k3
              case measure => have := HK1.1; have := HK2.1; have := HK3.1; omega
              case rel => exact ⟨(y394), (x4_3), (by first | rfl | (simp; done) | (simp [*]; done)), H', ⟨by have := HK1.1; have := HK2.1; have := HK3.1; omega⟩, ⟨rU HO_3.1⟩, ⟨bU HB.1⟩⟩
             ·
              rw [if_neg c37] at H
              have c37b0 : ((wrap64 (((rd_T53 x3_1 (ji34)).f2) + ((rd_T53 x3_1 (ji34)).f1))) == x5_2) = false := beq_eq_false_iff_ne.mpr c37
              have c37b1 : ((wrap64 (((rd_T53 x3_1 (ji34)).f2) + ((rd_T53 x3_1 (ji34)).f1))) != x5_2) = true := bne_iff_ne.mpr c37
              by_cases c43 : x3_1.length < 5864062014805
              ·
               rw [if_pos c43] at H
               have LMc43 := Aside0.mk c43
               clear c43
               obtain ⟨y395, hy395⟩ : ∃ y_ : List (S53), y_ = (x3_1 ++ [(⟨0, wrap64 (x4_3 - x5_2), x5_2⟩ : S53)]) := ⟨_, rfl⟩
               replace H : (tegularef32_Runs.l0 k3 l0 y395 x4_3) = some r := by first | (rw [hy395]; exact H) | exact H
               have Ny395 := Aside0.mk hy395
               clear hy395
               have H' := Aside0.mk H
               clear H
               obtain ⟨Ao44, co44, eo44⟩ := Kd.R_slice HO_3.1
               subst eo44
               try go_wp2
               replace HO_3 := Aa (Kd.R_drew HO_3.1)
               replace HB := Aa (below_drew1 HB.1)
               have p391 : 0 ≤ ((ji34) : Int) := dT
               have q391 : (ji34) < (x3_1.length : Int) := dT
               obtain ⟨ad391, e391, hx391_0, hx391_1, hx391_2⟩ := at_T53 (Kd.R_reads' HO_3.1).2.2 (ji34) p391 q391
               cases e391
               replace p391 := eq_true p391
               replace q391 := eq_true q391
               have p392 : 0 ≤ ((ji34) : Int) := dT
               have q392 : (ji34) < (x3_1.length : Int) := dT
               obtain ⟨ad392, e392, hx392_0, hx392_1, hx392_2⟩ := at_T53 (Kd.R_reads' HO_3.1).2.2 (ji34) p392 q392
               obtain rfl : ad391 = ad392 := (by injection e392)
               replace p392 := eq_true p392
               replace q392 := eq_true q392
               refine start_ (n := 17) (S := fun w' => w'.cell? (ad391.add (((ji34)).toNat * 3)) = some (.int .i64 ((rd_T53 x3_1 (ji34)).f0)) ∧ w'.cell? ⟨(ad391.add (((ji34)).toNat * 3)).block, (ad391.add (((ji34)).toNat * 3)).off + 1, none⟩ = some (.int .i64 ((rd_T53 x3_1 (ji34)).f1)) ∧ w'.cell? ⟨(ad391.add (((ji34)).toNat * 3)).block, (ad391.add (((ji34)).toNat * 3)).off + 2, none⟩ = some (.int .i64 ((rd_T53 x3_1 (ji34)).f2)) ∧ w'.cell? (ad391.add (((ji34)).toNat * 3)) = some (.int .i64 ((rd_T53 x3_1 (ji34)).f0)) ∧ w'.cell? ⟨(ad391.add (((ji34)).toNat * 3)).block, (ad391.add (((ji34)).toNat * 3)).off + 1, none⟩ = some (.int .i64 ((rd_T53 x3_1 (ji34)).f1)) ∧ w'.cell? ⟨(ad391.add (((ji34)).toNat * 3)).block, (ad391.add (((ji34)).toNat * 3)).off + 2, none⟩ = some (.int .i64 ((rd_T53 x3_1 (ji34)).f2))) (ds := []) (bm 17 0) (by kernel_rfl) rfl (bm0 _) ⟨hx391_0, hx391_1, hx391_2, hx392_0, hx392_1, hx392_2⟩ (fun hHeld => ?_); refine with_tabW tegularef32_Runs.tab20 tegularef32_Runs.bits20 (fun HT_ HW_ => ?_)
               generalize wr.drew = w45 at HO_3 HB hx391_0 hx391_1 hx391_2 hx392_0 hx392_1 hx392_2 hHeld ⊢
               refine pA 1 0 106 ?_
               refine pA 3 1 107 ?_
               refine pA 7 2 108 ?_
               refine pA 15 3 109 ?_
               refine pA 31 4 110 ?_
               refine pA 63 5 111 ?_
               refine pA 127 6 112 ?_
               refine pA 383 8 114 ?_
               refine pA 895 9 115 ?_
               refine pA 1919 10 116 ?_
               refine pA 3967 11 117 ?_
               refine pA 20351 14 120 ?_
               refine tA 20479 7 113 hHeld ?_
               refine tA 24575 12 118 hHeld ?_
               refine pA 32767 13 119 ?_
               refine pA 65535 15 121 ?_
               refine pA 131071 16 122 ?_
               refine done_ (done_of HT_.1 (by kernel_rfl)) ?_
               try go_wp2_with (first | ((with_reducible refine gate_builtin (b := .append) (xs := #[.tmp 134, .tmp 140]) rfl ?_); at_builtin; refine Kd.R_append k53 (w0 := w) w.heap.size rfl (.tmp 134) (.tmp 140) 24 53 (.agg #[(.int .i64 0), (.int .i64 0), (.int .i64 0)]) 24 rfl Try.underlying24 info53 rfl (by decide) (by omega) (.slice (some ad391) x3_1.length co44) x3_1 (⟨0, wrap64 (x4_3 - x5_2), x5_2⟩ : S53) [.int .i64 0, .int .i64 (wrap64 (x4_3 - x5_2)), .int .i64 x5_2] (fun _ => True) (fun _ => False) rfl rfl ?aP (fun _ hk => hk.elim) ?aF ?aO ?aB ?aS ?aL ?_; (case aP => exact k53_mkM _ _ _ (⟨0, wrap64 (x4_3 - x5_2), x5_2⟩ : S53)); (case aB => exact (bU HB.1)); (case aF => exact (fun _ _ => trivial)); (case aO => exact (rU HO_3.1)); (case aS => exact (below_size (bU HB.1))); (case aL => have := LMc43.1; omega); intro v396 w46 ho hb hg hat; rw [← Ny395.1] at ho; have n0_ := Aa (hb); have n1_ := Aa (ho); clear HB; clear HO_3; have HB := n0_; have HO397 := n1_; clear n0_ n1_; clear ho hb hg hat))
               go_roundg k3
               case measure => have := HK1.1; have := HK2.1; have := HK3.1; omega
               case rel => exact ⟨(y395), (x4_3), (by first | rfl | (simp; done) | (simp [*]; done)), H', ⟨by have := HK1.1; have := HK2.1; have := HK3.1; omega⟩, ⟨rU HO397.1⟩, ⟨bU HB.1⟩⟩
              ·
               rw [if_neg c43] at H
               exact absurd H (by simp)
            ·
             rw [if_neg c36] at H
             exact absurd H (by simp)
           ·
            rw [if_neg c35] at H
            exact absurd H (by simp)
          ·
           rw [if_neg c33] at H
           have c33b0 := decide_eq_false c33
           clear c33
           by_cases c47 : x3_1.length < 5864062014805
           ·
            rw [if_pos c47] at H
            have LMc47 := Aside0.mk c47
            clear c47
            obtain ⟨y398, hy398⟩ : ∃ y_ : List (S53), y_ = (x3_1 ++ [(⟨0, wrap64 (x4_3 - x5_2), x5_2⟩ : S53)]) := ⟨_, rfl⟩
            replace H : (tegularef32_Runs.l0 k3 l0 y398 x4_3) = some r := by first | (rw [hy398]; exact H) | exact H
            have Ny398 := Aside0.mk hy398
            clear hy398
            have H' := Aside0.mk H
            clear H
            obtain ⟨Ao48, co48, eo48⟩ := Kd.R_slice HO_3.1
            subst eo48
            try go_wp2
            replace HO_3 := Aa (Kd.R_drew HO_3.1)
            replace HB := Aa (below_drew1 HB.1)
            refine start_ (n := 17) (S := fun w' => True) (ds := []) (bm 17 0) (by kernel_rfl) rfl (bm0 _) trivial (fun hHeld => ?_); refine with_tabW tegularef32_Runs.tab20 tegularef32_Runs.bits20 (fun HT_ HW_ => ?_)
            generalize wr.drew = w49 at HO_3 HB hHeld ⊢
            refine pA 1 0 106 ?_
            refine pA 3 1 107 ?_
            refine pA 7 2 108 ?_
            refine pU 15 3 109 ?_
            refine pU 31 4 110 ?_
            refine pU 63 5 111 ?_
            refine pU 127 6 112 ?_
            refine pU 255 7 113 ?_
            refine pU 511 8 114 ?_
            refine pU 1023 9 115 ?_
            refine pU 2047 10 116 ?_
            refine pU 4095 11 117 ?_
            refine pU 8191 12 118 ?_
            refine pU 16383 13 119 ?_
            refine pU 32767 14 120 ?_
            refine pU 65535 15 121 ?_
            refine pA 131071 16 122 ?_
            refine done_ (done_of HT_.1 (by kernel_rfl)) ?_
            try go_wp2_with (first | ((with_reducible refine gate_builtin (b := .append) (xs := #[.tmp 134, .tmp 140]) rfl ?_); at_builtin; refine Kd.R_append k53 (w0 := w) w.heap.size rfl (.tmp 134) (.tmp 140) 24 53 (.agg #[(.int .i64 0), (.int .i64 0), (.int .i64 0)]) 24 rfl Try.underlying24 info53 rfl (by decide) (by omega) (.slice Ao48 x3_1.length co48) x3_1 (⟨0, wrap64 (x4_3 - x5_2), x5_2⟩ : S53) [.int .i64 0, .int .i64 (wrap64 (x4_3 - x5_2)), .int .i64 x5_2] (fun _ => True) (fun _ => False) rfl rfl ?aP (fun _ hk => hk.elim) ?aF ?aO ?aB ?aS ?aL ?_; (case aP => exact k53_mkM _ _ _ (⟨0, wrap64 (x4_3 - x5_2), x5_2⟩ : S53)); (case aB => exact (bU HB.1)); (case aF => exact (fun _ _ => trivial)); (case aO => exact (rU HO_3.1)); (case aS => exact (below_size (bU HB.1))); (case aL => have := LMc47.1; omega); intro v399 w50 ho hb hg hat; rw [← Ny398.1] at ho; have n0_ := Aa (hb); have n1_ := Aa (ho); clear HB; clear HO_3; have HB := n0_; have HO400 := n1_; clear n0_ n1_; clear ho hb hg hat))
            go_roundg k3
            case measure => have := HK1.1; have := HK2.1; have := HK3.1; omega
            case rel => exact ⟨(y398), (x4_3), (by first | rfl | (simp; done) | (simp [*]; done)), H', ⟨by have := HK1.1; have := HK2.1; have := HK3.1; omega⟩, ⟨rU HO400.1⟩, ⟨bU HB.1⟩⟩
           ·
            rw [if_neg c47] at H
            exact absurd H (by simp)
      ·
       replace c17 := Bool.eq_false_iff.mpr c17
       subst c17
       have H1 : (some x3_1) = some r := by rw [if_neg (show ¬ (false = true) by decide)] at H; exact H
       clear H
       have H := H1
       clear H1
       obtain rfl := Option.some.inj H
       go_wp2
       go_ret
       exact ⟨_, fT, rU HO_3.1, bU HB.1⟩

end Go.Proofs.Ytcjpikjbjehjeaa.PAllocB
