-- Written for this claim by a program of this session (wip/), out of the translation's own print: Lean checks it
import Derived.Test.YtcgihjpnemnkeaaPExtentRunsx0
import Derived.Test.YtcgihjpnemnkeaaPExtentRunsx9
namespace Go.Proofs.Ytcgihjpnemnkeaa.PExtentRuns
open Go.RowKit Go.Proofs.YtcgihjpnemnkeaaW.PrintWords Go.Proofs.YtcgihjpnemnkeaaW.PrintLast Go.Proofs.YtcgihjpnemnkeaaW.PrintMore
attribute [local go_sem] max2_int min2_int max_two min_two max_three min_three max_four min_four   -- for this text's walks alone
set_option linter.unusedVariables false
set_option linter.unusedSimpArgs false

/-! ### tegularef32_Runs: function 28 -/
mutual
def tegularef32_Runs.l0 : Nat → List (S33) → List (S33) → Int → Option ((List (S33)))
 | 0, _, _, _ => none
 | k + 1, x0, x3, x4 => tegularef32_Runs.l1 k x0 x3 x4 0 false 0
def tegularef32_Runs.l1 : Nat → List (S33) → List (S33) → Int → Int → Bool → Int → Option ((List (S33)))
 | 0, _, _, _, _, _, _ => none
 | k + 1, x0, x3, x4, x5, x6, x7 => if x7 < (x0.length : Int) then (if 0 ≤ x7 then ((tegularef32_One.f ((rd_T33 x0 x7).f0) ((rd_T33 x0 x7).f1) ((rd_T33 x0 x7).f2)).bind fun t216 => (if t216 = true then (tegularef32_Runs.j2 k x0 x3 x4 x5 x6 x7 (decide ((wrap64 (((rd_T33 x0 x7).f2) + ((rd_T33 x0 x7).f1))) ≤ x4))) else (tegularef32_Runs.j2 k x0 x3 x4 x5 x6 x7 true))) else (none)) else (if x6 = true then (tegularef32_Runs.l2 k x0 x3 x5 x5 0) else (some x3))
def tegularef32_Runs.j2 : Nat → List (S33) → List (S33) → Int → Int → Bool → Int → Bool → Option ((List (S33)))
 | 0, _, _, _, _, _, _, _ => none
 | k + 1, x0, x3, x4, x5, x6, x7, x37 => if x37 = true then (tegularef32_Runs.l1 k x0 x3 x4 x5 x6 (wrap64 (x7 + 1))) else (if 0 ≤ x7 then (if x7 < (x0.length : Int) then (if x6 = true then (if (mx ((rd_T33 x0 x7).f2) x4) < x5 then (tegularef32_Runs.l1 k x0 x3 x4 (mx ((rd_T33 x0 x7).f2) x4) true (wrap64 (x7 + 1))) else (tegularef32_Runs.l1 k x0 x3 x4 x5 x6 (wrap64 (x7 + 1)))) else (tegularef32_Runs.l1 k x0 x3 x4 (mx ((rd_T33 x0 x7).f2) x4) true (wrap64 (x7 + 1)))) else (none)) else (none))
def tegularef32_Runs.l2 : Nat → List (S33) → List (S33) → Int → Int → Int → Option ((List (S33)))
 | 0, _, _, _, _, _ => none
 | k + 1, x0, x3, x4, x5, x9 => if x9 < (x0.length : Int) then (if 0 ≤ x9 then ((tegularef32_One.f ((rd_T33 x0 x9).f0) ((rd_T33 x0 x9).f1) ((rd_T33 x0 x9).f2)).bind fun t221 => (if t221 = true then (if ((rd_T33 x0 x9).f2) ≤ x5 then (if (wrap64 (((rd_T33 x0 x9).f2) + ((rd_T33 x0 x9).f1))) > x4 then (tegularef32_Runs.l2 k x0 x3 (wrap64 (((rd_T33 x0 x9).f2) + ((rd_T33 x0 x9).f1))) x5 (wrap64 (x9 + 1))) else (tegularef32_Runs.l2 k x0 x3 x4 x5 (wrap64 (x9 + 1)))) else (tegularef32_Runs.l2 k x0 x3 x4 x5 (wrap64 (x9 + 1)))) else (tegularef32_Runs.l2 k x0 x3 x4 x5 (wrap64 (x9 + 1))))) else (none)) else (if (wrap64 ((x3.length : Int) - 1)) ≥ 0 then (if 0 ≤ (wrap64 ((x3.length : Int) - 1)) then (if (wrap64 ((x3.length : Int) - 1)) < (x3.length : Int) then (if (wrap64 (((rd_T33 x3 (wrap64 ((x3.length : Int) - 1))).f2) + ((rd_T33 x3 (wrap64 ((x3.length : Int) - 1))).f1))) = x5 then (tegularef32_Runs.l0 k x0 (x3.set ((wrap64 ((x3.length : Int) - 1)) : Int).toNat (⟨(rd_T33 x3 (wrap64 ((x3.length : Int) - 1))).f0, wrap64 (((rd_T33 x3 (wrap64 ((x3.length : Int) - 1))).f1) + (wrap64 (x4 - x5))), (rd_T33 x3 (wrap64 ((x3.length : Int) - 1))).f2⟩ : S33)) x4) else (if x3.length < 5864062014805 then (tegularef32_Runs.l0 k x0 (x3 ++ [(⟨0, wrap64 (x4 - x5), x5⟩ : S33)]) x4) else (none))) else (none)) else (none)) else (if x3.length < 5864062014805 then (tegularef32_Runs.l0 k x0 (x3 ++ [(⟨0, wrap64 (x4 - x5), x5⟩ : S33)]) x4) else (none)))
end
def tegularef32_Runs.f (k : Nat) (l0 : List (S33)) : Option ((List (S33))) := tegularef32_Runs.l0 k l0 ([] : List (S33)) 0
theorem tegularef32_Runs.mono_l : ∀ k, (∀ y0 y1 y2, LeO (tegularef32_Runs.l0 k y0 y1 y2) (tegularef32_Runs.l0 (k + 1) y0 y1 y2)) ∧ (∀ y0 y1 y2 y3 y4 y5, LeO (tegularef32_Runs.l1 k y0 y1 y2 y3 y4 y5) (tegularef32_Runs.l1 (k + 1) y0 y1 y2 y3 y4 y5)) ∧ (∀ y0 y1 y2 y3 y4 y5 y6, LeO (tegularef32_Runs.j2 k y0 y1 y2 y3 y4 y5 y6) (tegularef32_Runs.j2 (k + 1) y0 y1 y2 y3 y4 y5 y6)) ∧ (∀ y0 y1 y2 y3 y4, LeO (tegularef32_Runs.l2 k y0 y1 y2 y3 y4) (tegularef32_Runs.l2 (k + 1) y0 y1 y2 y3 y4))
 | 0 => ⟨fun _ _ _ r h => by simp [tegularef32_Runs.l0] at h, fun _ _ _ _ _ _ r h => by simp [tegularef32_Runs.l1] at h, fun _ _ _ _ _ _ _ r h => by simp [tegularef32_Runs.j2] at h, fun _ _ _ _ _ r h => by simp [tegularef32_Runs.l2] at h⟩
 | k + 1 => by
  obtain ⟨ih0, ih1, ih2, ih3⟩ := tegularef32_Runs.mono_l k
  refine ⟨?_, ?_, ?_, ?_⟩
  ·
   intro y0 y1 y2
   unfold tegularef32_Runs.l0
   repeat' first
   | (with_reducible exact ih0 _ _ _)
   | (with_reducible exact ih1 _ _ _ _ _ _)
   | (with_reducible exact ih2 _ _ _ _ _ _ _)
   | (with_reducible exact ih3 _ _ _ _ _)
   | (with_reducible exact LeO.refl _)
   | (with_reducible exact LeO.none _)
   | (with_reducible refine LeO.ite ?_ ?_)
   | (with_reducible refine LeO.bind ?_ (fun _ => ?_))
   | exact ih0 _ _ _
   | exact ih1 _ _ _ _ _ _
   | exact ih2 _ _ _ _ _ _ _
   | exact ih3 _ _ _ _ _
   | exact LeO.none _
   | refine LeO.ite ?_ ?_
   | refine LeO.bind ?_ (fun _ => ?_)
  ·
   intro y0 y1 y2 y3 y4 y5
   unfold tegularef32_Runs.l1
   repeat' first
   | (with_reducible exact ih0 _ _ _)
   | (with_reducible exact ih1 _ _ _ _ _ _)
   | (with_reducible exact ih2 _ _ _ _ _ _ _)
   | (with_reducible exact ih3 _ _ _ _ _)
   | (with_reducible exact LeO.refl _)
   | (with_reducible exact LeO.none _)
   | (with_reducible refine LeO.ite ?_ ?_)
   | (with_reducible refine LeO.bind ?_ (fun _ => ?_))
   | exact ih0 _ _ _
   | exact ih1 _ _ _ _ _ _
   | exact ih2 _ _ _ _ _ _ _
   | exact ih3 _ _ _ _ _
   | exact LeO.none _
   | refine LeO.ite ?_ ?_
   | refine LeO.bind ?_ (fun _ => ?_)
  ·
   intro y0 y1 y2 y3 y4 y5 y6
   unfold tegularef32_Runs.j2
   repeat' first
   | (with_reducible exact ih0 _ _ _)
   | (with_reducible exact ih1 _ _ _ _ _ _)
   | (with_reducible exact ih2 _ _ _ _ _ _ _)
   | (with_reducible exact ih3 _ _ _ _ _)
   | (with_reducible exact LeO.refl _)
   | (with_reducible exact LeO.none _)
   | (with_reducible refine LeO.ite ?_ ?_)
   | (with_reducible refine LeO.bind ?_ (fun _ => ?_))
   | exact ih0 _ _ _
   | exact ih1 _ _ _ _ _ _
   | exact ih2 _ _ _ _ _ _ _
   | exact ih3 _ _ _ _ _
   | exact LeO.none _
   | refine LeO.ite ?_ ?_
   | refine LeO.bind ?_ (fun _ => ?_)
  ·
   intro y0 y1 y2 y3 y4
   unfold tegularef32_Runs.l2
   repeat' first
   | (with_reducible exact ih0 _ _ _)
   | (with_reducible exact ih1 _ _ _ _ _ _)
   | (with_reducible exact ih2 _ _ _ _ _ _ _)
   | (with_reducible exact ih3 _ _ _ _ _)
   | (with_reducible exact LeO.refl _)
   | (with_reducible exact LeO.none _)
   | (with_reducible refine LeO.ite ?_ ?_)
   | (with_reducible refine LeO.bind ?_ (fun _ => ?_))
   | exact ih0 _ _ _
   | exact ih1 _ _ _ _ _ _
   | exact ih2 _ _ _ _ _ _ _
   | exact ih3 _ _ _ _ _
   | exact LeO.none _
   | refine LeO.ite ?_ ?_
   | refine LeO.bind ?_ (fun _ => ?_)
theorem tegularef32_Runs.mono : ∀ a0 k, LeO (tegularef32_Runs.f k a0) (tegularef32_Runs.f (k + 1) a0) := by
 intro a0 k
 obtain ⟨ih0, ih1, ih2, ih3⟩ := tegularef32_Runs.mono_l k
 unfold tegularef32_Runs.f
 repeat' first
   | (with_reducible exact ih0 _ _ _)
   | (with_reducible exact ih1 _ _ _ _ _ _)
   | (with_reducible exact ih2 _ _ _ _ _ _ _)
   | (with_reducible exact ih3 _ _ _ _ _)
   | (with_reducible exact LeO.refl _)
   | (with_reducible exact LeO.none _)
   | (with_reducible refine LeO.ite ?_ ?_)
   | (with_reducible refine LeO.bind ?_ (fun _ => ?_))
   | exact ih0 _ _ _
   | exact ih1 _ _ _ _ _ _
   | exact ih2 _ _ _ _ _ _ _
   | exact ih3 _ _ _ _ _
   | exact LeO.none _
   | refine LeO.ite ?_ ?_
   | refine LeO.bind ?_ (fun _ => ?_)
def tegularef32_Runs.T7 : Bool × List (List Nat × List Nat) := (true, [([], []), ([], []), ([0, 1], [0, 1]), ([2], [2]), ([3], [3]), ([4], [4]), ([5, 4], [5]), ([6], [6]), ([6], [6]), ([7, 8, 6], [6, 7, 8]), ([9, 6], [6, 9]), ([10, 6], [6, 10]), ([6], [6]), ([6], [6]), ([12, 13, 6], [6, 12, 13]), ([14, 6], [6, 14]), ([15, 6], [6, 15]), ([11, 16, 6], [6, 11, 16]), ([6], [6]), ([17, 18, 6], [6, 17, 18]), ([6, 19], [6, 19])])
def tegularef32_Runs.B7 : List Nat := [0, 0, 3, 7, 15, 31, 63, 127, 127, 511, 1023, 2047, 127, 127, 12415, 28799, 61567, 131071, 127, 524287, 1048575]
theorem tegularef32_Runs.tab7 : rtab .any (opsOf Try.f28 7) = tegularef32_Runs.T7 := by kernel_rfl
theorem tegularef32_Runs.bits7 : waitsOk tegularef32_Runs.T7.2 tegularef32_Runs.B7 = true := by kernel_rfl
def tegularef32_Runs.T17 : Bool × List (List Nat × List Nat) := (true, [([], []), ([], []), ([0, 1], [0, 1]), ([2], [2]), ([3], [3]), ([4, 4], [4]), ([5], [5]), ([5], [5]), ([6, 7, 5], [5, 6, 7]), ([8, 5], [5, 8]), ([9, 5], [5, 9]), ([5], [5]), ([10, 11, 5], [5, 10, 11]), ([5, 12], [5, 12]), ([13, 5], [13]), ([14], [14]), ([14], [14]), ([15, 16, 14], [14, 15, 16]), ([17, 14], [14, 17]), ([18, 14], [14, 18]), ([14], [14]), ([14], [14]), ([20, 21, 14], [14, 20, 21]), ([22, 14], [14, 22]), ([23, 14], [14, 23]), ([19, 24, 14], [14, 19, 24]), ([14], [14]), ([25, 26, 14], [14, 25, 26]), ([14, 27], [14, 27])])
def tegularef32_Runs.B17 : List Nat := [0, 0, 3, 7, 15, 31, 63, 63, 255, 511, 1023, 63, 4095, 8191, 16383, 32767, 32767, 131071, 262143, 524287, 32767, 32767, 3178495, 7372799, 15761407, 33554431, 32767, 134217727, 268435455]
theorem tegularef32_Runs.tab17 : rtab .any (opsOf Try.f28 17) = tegularef32_Runs.T17 := by kernel_rfl
theorem tegularef32_Runs.bits17 : waitsOk tegularef32_Runs.T17.2 tegularef32_Runs.B17 = true := by kernel_rfl
def tegularef32_Runs.T18 : Bool × List (List Nat × List Nat) := (true, [([], []), ([], []), ([0, 1], [0, 1]), ([2], [2]), ([3], [3]), ([], []), ([], []), ([5, 6], [5, 6]), ([7], [7]), ([8], [8]), ([4, 9], [4, 9]), ([10, 0, 1, 2, 3, 4, 5, 6, 7, 8, 9, 10], [10])])
def tegularef32_Runs.B18 : List Nat := [0, 0, 3, 7, 15, 0, 0, 96, 224, 480, 1023, 2047]
theorem tegularef32_Runs.tab18 : rtab .any (opsOf Try.f28 18) = tegularef32_Runs.T18 := by kernel_rfl
theorem tegularef32_Runs.bits18 : waitsOk tegularef32_Runs.T18.2 tegularef32_Runs.B18 = true := by kernel_rfl
def tegularef32_Runs.T20 : Bool × List (List Nat × List Nat) := (true, [([], []), ([0], [0]), ([1], [1]), ([2], [2]), ([2], [2]), ([3, 4, 2], [2, 3, 4]), ([5, 2], [2, 5]), ([6, 2], [2, 6]), ([2], [2]), ([2], [2]), ([8, 9, 2], [2, 8, 9]), ([10, 2], [2, 10]), ([11, 2], [2, 11]), ([7, 12, 2], [2, 7, 12]), ([2], [2]), ([13, 14, 2], [2, 13, 14]), ([2, 15], [2, 15])])
def tegularef32_Runs.B20 : List Nat := [0, 1, 3, 7, 7, 31, 63, 127, 7, 7, 775, 1799, 3847, 8191, 7, 32767, 65535]
theorem tegularef32_Runs.tab20 : rtab .any (opsOf Try.f28 20) = tegularef32_Runs.T20 := by kernel_rfl
theorem tegularef32_Runs.bits20 : waitsOk tegularef32_Runs.T20.2 tegularef32_Runs.B20 = true := by kernel_rfl
set_option maxHeartbeats 8000000 in
set_option maxRecDepth 100000 in
theorem tegularef32_Runs.calls (k : Nat) (A0 : Option Addr) (c0 : Nat) (l0 : List (S33)) (r : List (S33)) (w : World) (hr0 : Kd.C k33 w A0 l0.length l0) (hc0 : l0.length ≤ c0) (h : tegularef32_Runs.f k l0 = some r) :
  Calls Try.prog 28 #[.slice A0 l0.length c0] w fun e w' => ∃ v0_ : Value, e = .returned (v0_) ∧ Kd.R k33 33 w' w.heap.size (fun _ => True) v0_ r ∧ Below w.heap.size w w' := by
 have hu33 := Try.underlying33
 have HR0 := Aside0.mk hr0
 have HC0 := Aside0.mk hc0
 clear hr0 hc0
 have HB := Aside0.mk (Below.refl w.heap.size w)
 have H : (tegularef32_Runs.l0 k l0 ([] : List (S33)) 0) = some r := h
 clear h
 have H' := Aside0.mk H
 clear H
 go_enter Try.func28, Try.ntmps28
 go_wp2
 go_loopg [3, 4] k (fun kq v3 v4 w' => ∃ (x3_1 : List (S33)) (x4_1 : Int), v4 = .int .i64 x4_1 ∧ Aside0 (tegularef32_Runs.l0 kq l0 x3_1 x4_1 = some r) ∧ Aside0 (kq ≤ k) ∧ Aside0 (Kd.R k33 33 w' w.heap.size (fun _ => True) v3 x3_1) ∧ Aside0 (Below w.heap.size w w'))
 case atStart => exact ⟨(([] : List (S33))), (0), (by first | rfl | (simp; done) | (simp [*]; done)), H', ⟨Nat.le_refl _⟩, ⟨by first | exact Kd.R_nil _ _ _ _ _ | exact Kd.N_nil _ _ _ _ _ | exact Kd.V_nil _ _ _ _ _ | exact Kd.Q_nil _ _ _ _ _ | exact Kd.S_nil _ _ _ _ _⟩, ⟨bU HB.out⟩⟩
 case round =>
  clear H'
  obtain ⟨x3_1, x4_1, rfl, HA, HK1, HO_3, HB⟩ := hrel
  cases gk with
  | zero => exact absurd HA.out (by simp [tegularef32_Runs.l0])
  | succ k1 =>
   have H := HA.out
   clear HA
   simp only [tegularef32_Runs.l0] at H
   have H' := Aside0.mk H
   clear H
   go_wp2
   go_loopg [5, 6, 7] k1 (fun kq v5 v6 v7 w' => ∃ (x5_2 : Int) (x6_2 : Bool) (x7_2 : Int), v5 = .int .i64 x5_2 ∧ v6 = .bool x6_2 ∧ v7 = .int .i64 x7_2 ∧ Aside0 (tegularef32_Runs.l1 kq l0 x3_1 x4_1 x5_2 x6_2 x7_2 = some r) ∧ Aside0 (kq ≤ k1) ∧ Aside0 (Kd.R k33 33 w' w.heap.size (fun _ => True) u3 x3_1) ∧ Aside0 (Below w.heap.size w w'))
   case atStart => exact ⟨(0), (false), (0), (by first | rfl | (simp; done) | (simp [*]; done)), (by first | rfl | (simp; done) | (simp [*]; done)), (by first | rfl | (simp; done) | (simp [*]; done)), H', ⟨Nat.le_refl _⟩, ⟨rU HO_3.out⟩, ⟨bU HB.out⟩⟩
   case round =>
    clear H'
    obtain ⟨x5_2, x6_2, x7_2, rfl, rfl, rfl, HA, HK2, HO_3, HB⟩ := hrel
    cases gk with
    | zero => exact absurd HA.out (by simp [tegularef32_Runs.l1])
    | succ k2 =>
     have H := HA.out
     clear HA
     simp only [tegularef32_Runs.l1] at H
     by_cases c2 : x7_2 < (l0.length : Int)
     ·
      rw [if_pos c2] at H
      have c2b0 := decide_eq_true c2
      clear c2
      have HC3 := Aside0.mk H
      clear H
      go_upto_region 7 with (fail)
      go_cut [37] (fun v37 wc => ∃ (kq : Nat) (x37_2 : Bool), v37 = .bool x37_2 ∧ Aside0 (tegularef32_Runs.j2 kq l0 x3_1 x4_1 x5_2 x6_2 x7_2 x37_2 = some r) ∧ Aside0 (kq ≤ k2) ∧ Aside0 (Kd.R k33 33 wc w.heap.size (fun _ => True) u3 x3_1) ∧ Aside0 (Below w.heap.size w wc))
      case first =>
       have H := HC3.out
       clear HC3
       by_cases c4 : 0 ≤ x7_2
       ·
        rw [if_pos c4] at H
        have c4b0 := decide_eq_true c4
        clear c4
        (first | rw [c4b0] | (simp only [i64_w, i32_w]; rw [c4b0]) | skip)
        replace H := Option.bind_eq_some_iff.mp H
        obtain ⟨t216, A50, H⟩ := H
        replace H : (if t216 = true then (tegularef32_Runs.j2 k2 l0 x3_1 x4_1 x5_2 x6_2 x7_2 (decide ((wrap64 (((rd_T33 l0 x7_2).f2) + ((rd_T33 l0 x7_2).f1))) ≤ x4_1))) else (tegularef32_Runs.j2 k2 l0 x3_1 x4_1 x5_2 x6_2 x7_2 true)) = some r := H
        have A5 := Aside0.mk A50
        clear A50
        by_cases c6 : t216 = true
        ·
         subst c6
         have H1 : (tegularef32_Runs.j2 k2 l0 x3_1 x4_1 x5_2 x6_2 x7_2 (decide ((wrap64 (((rd_T33 l0 x7_2).f2) + ((rd_T33 l0 x7_2).f1))) ≤ x4_1))) = some r := by rw [if_pos rfl] at H; exact H
         clear H
         have H := H1
         clear H1
         have H' := Aside0.mk H
         clear H
         try go_wp2
         have n0_ := Aside0.mk (Kd.R_drew HO_3.out)
         have n1_ := Aside0.mk (below_drew1 HB.out)
         clear HO_3
         clear HB
         have HO_3 := n0_
         have HB := n1_
         clear n0_ n1_
         have p215 : 0 ≤ (x7_2 : Int) := of_decide_eq_true (by first | (with_reducible assumption) | assumption)
         have q215 : x7_2 < (l0.length : Int) := of_decide_eq_true (by first | (with_reducible assumption) | assumption)
         obtain ⟨ad215, e215, hx215_0, hx215_1, hx215_2⟩ := at_T33 HR0.out x7_2 p215 q215
         have hw215_2 := hx215_2
         have hw215_1 := hx215_1
         have hw215_0 := hx215_0
         cases e215
         replace hx215_0 := (HB.out.cell (World.block_lt_of_cell? w _ hx215_0)).trans hx215_0
         replace hx215_1 := (HB.out.cell (World.block_lt_of_cell? w _ hx215_1)).trans hx215_1
         replace hx215_2 := (HB.out.cell (World.block_lt_of_cell? w _ hx215_2)).trans hx215_2
         replace p215 := eq_true p215
         replace q215 := eq_true q215
         have p217 : 0 ≤ (x7_2 : Int) := of_decide_eq_true (by first | (with_reducible assumption) | assumption)
         have q217 : x7_2 < (l0.length : Int) := of_decide_eq_true (by first | (with_reducible assumption) | assumption)
         obtain ⟨ad217, e217, hx217_0, hx217_1, hx217_2⟩ := at_T33 HR0.out x7_2 p217 q217
         have hw217_2 := hx217_2
         have hw217_1 := hx217_1
         have hw217_0 := hx217_0
         obtain rfl : ad215 = ad217 := (by injection e217)
         replace hx217_0 := (HB.out.cell (World.block_lt_of_cell? w _ hx217_0)).trans hx217_0
         replace hx217_1 := (HB.out.cell (World.block_lt_of_cell? w _ hx217_1)).trans hx217_1
         replace hx217_2 := (HB.out.cell (World.block_lt_of_cell? w _ hx217_2)).trans hx217_2
         replace p217 := eq_true p217
         replace q217 := eq_true q217
         have p218 : 0 ≤ (x7_2 : Int) := of_decide_eq_true (by first | (with_reducible assumption) | assumption)
         have q218 : x7_2 < (l0.length : Int) := of_decide_eq_true (by first | (with_reducible assumption) | assumption)
         obtain ⟨ad218, e218, hx218_0, hx218_1, hx218_2⟩ := at_T33 HR0.out x7_2 p218 q218
         have hw218_2 := hx218_2
         have hw218_1 := hx218_1
         have hw218_0 := hx218_0
         obtain rfl : ad215 = ad218 := (by injection e218)
         replace hx218_0 := (HB.out.cell (World.block_lt_of_cell? w _ hx218_0)).trans hx218_0
         replace hx218_1 := (HB.out.cell (World.block_lt_of_cell? w _ hx218_1)).trans hx218_1
         replace hx218_2 := (HB.out.cell (World.block_lt_of_cell? w _ hx218_2)).trans hx218_2
         replace p218 := eq_true p218
         replace q218 := eq_true q218
         refine start_ (n := 21) (S := fun w' => w'.cell? (ad215.add ((x7_2).toNat * 3)) = some (.int .i64 ((rd_T33 l0 x7_2).f0)) ∧ w'.cell? ⟨(ad215.add ((x7_2).toNat * 3)).block, (ad215.add ((x7_2).toNat * 3)).off + 1, none⟩ = some (.int .i64 ((rd_T33 l0 x7_2).f1)) ∧ w'.cell? ⟨(ad215.add ((x7_2).toNat * 3)).block, (ad215.add ((x7_2).toNat * 3)).off + 2, none⟩ = some (.int .i64 ((rd_T33 l0 x7_2).f2)) ∧ w'.cell? (ad215.add ((x7_2).toNat * 3)) = some (.int .i64 ((rd_T33 l0 x7_2).f0)) ∧ w'.cell? ⟨(ad215.add ((x7_2).toNat * 3)).block, (ad215.add ((x7_2).toNat * 3)).off + 1, none⟩ = some (.int .i64 ((rd_T33 l0 x7_2).f1)) ∧ w'.cell? ⟨(ad215.add ((x7_2).toNat * 3)).block, (ad215.add ((x7_2).toNat * 3)).off + 2, none⟩ = some (.int .i64 ((rd_T33 l0 x7_2).f2)) ∧ w'.cell? (ad215.add ((x7_2).toNat * 3)) = some (.int .i64 ((rd_T33 l0 x7_2).f0)) ∧ w'.cell? ⟨(ad215.add ((x7_2).toNat * 3)).block, (ad215.add ((x7_2).toNat * 3)).off + 1, none⟩ = some (.int .i64 ((rd_T33 l0 x7_2).f1)) ∧ w'.cell? ⟨(ad215.add ((x7_2).toNat * 3)).block, (ad215.add ((x7_2).toNat * 3)).off + 2, none⟩ = some (.int .i64 ((rd_T33 l0 x7_2).f2))) (ds := []) #[false, false, false, false, false, false, false, false, false, false, false, false, false, false, false, false, false, false, false, false, false] (by kernel_rfl) rfl rfl ⟨((HB.out.cell (World.block_lt_of_cell? w _ hw215_0)).trans hw215_0), ((HB.out.cell (World.block_lt_of_cell? w _ hw215_1)).trans hw215_1), ((HB.out.cell (World.block_lt_of_cell? w _ hw215_2)).trans hw215_2), ((HB.out.cell (World.block_lt_of_cell? w _ hw217_0)).trans hw217_0), ((HB.out.cell (World.block_lt_of_cell? w _ hw217_1)).trans hw217_1), ((HB.out.cell (World.block_lt_of_cell? w _ hw217_2)).trans hw217_2), ((HB.out.cell (World.block_lt_of_cell? w _ hw218_0)).trans hw218_0), ((HB.out.cell (World.block_lt_of_cell? w _ hw218_1)).trans hw218_1), ((HB.out.cell (World.block_lt_of_cell? w _ hw218_2)).trans hw218_2)⟩ (fun hHeld => ?_); refine with_tabW tegularef32_Runs.tab7 tegularef32_Runs.bits7 (fun HT_ HW_ => ?_)
         generalize wr.drew = w7 at HO_3 HB hx215_0 hx215_1 hx215_2 hx217_0 hx217_1 hx217_2 hx218_0 hx218_1 hx218_2 hHeld ⊢
         refine pure_ (i := 0) (N := some 17) (v := ?_) (a' := ?_) #[true, false, false, false, false, false, false, false, false, false, false, false, false, false, false, false, false, false, false, false, false] rfl rfl (any_of HT_.out (by kernel_rfl)) (fun _ _ _ h => h) (Or.inl ⟨by rfl, ?_⟩) ?_ ?_
         rotate_left
         ·
          intro w'; go_simp; with_reducible rfl
         rotate_left
         ·
          simp only [AP]; rfl
         refine pure_ (i := 1) (N := some 18) (v := ?_) (a' := ?_) #[true, true, false, false, false, false, false, false, false, false, false, false, false, false, false, false, false, false, false, false, false] rfl rfl (any_of HT_.out (by kernel_rfl)) (fun _ _ _ h => h) (Or.inl ⟨by rfl, ?_⟩) ?_ ?_
         rotate_left
         ·
          intro w'; go_simp; with_reducible rfl
         rotate_left
         ·
          simp only [AP]; rfl
         refine pure_ (i := 2) (N := some 19) (v := ?_) (a' := ?_) #[true, true, true, false, false, false, false, false, false, false, false, false, false, false, false, false, false, false, false, false, false] rfl rfl (any_of HT_.out (by kernel_rfl)) (fun _ _ _ h => h) (Or.inl ⟨by rfl, ?_⟩) ?_ ?_
         rotate_left
         ·
          intro w'; go_simp; with_reducible rfl
         rotate_left
         ·
          simp only [AP]; rfl
         refine take_ (i := 3) (N := some 20) (v := ?_) (a' := ?_) #[true, true, true, true, false, false, false, false, false, false, false, false, false, false, false, false, false, false, false, false, false] rfl rfl (take_ofW HT_.out HW_.out (by kernel_rfl)) (fun _ _ _ h => h) (Or.inl ⟨by rfl, ?_⟩) hHeld ?_ ?_
         rotate_left
         ·
          rintro w' ⟨s0, s1, s2, s3, s4, s5, s6, s7, s8⟩
          go_simp; with_reducible rfl
         rotate_left
         ·
          simp only [AP]; rfl
         refine one_ (i := 4) (N := some 21) #[true, true, true, true, true, false, false, false, false, false, false, false, false, false, false, false, false, false, false, false, false] rfl rfl (one_of HT_.out (by kernel_rfl)) (by decide) (fun K hK => ?_)
         refine goes_ Try.func26 (by kernel_rfl) rfl #[.agg #[.int .i64 ((rd_T33 l0 x7_2).f0), .int .i64 ((rd_T33 l0 x7_2).f1), .int .i64 ((rd_T33 l0 x7_2).f2)]] (by rfl) rfl rfl (by (try simp only [List.map_toArray, List.map_cons, List.map_nil]); first | done | rfl | (simp only [List.length_drop, List.length_take]; rfl)) ?_
         with_reducible refine (tegularef32_One.calls ((rd_T33 l0 x7_2).f0) ((rd_T33 l0 x7_2).f1) ((rd_T33 l0 x7_2).f2) true _ A5.out).mono ?_
         rintro e w8 ⟨rfl, hb⟩
         refine ⟨_, rfl, ?_⟩
         have n0_ := Aside0.mk (Kd.R_below (rU HO_3.out) hb)
         have n1_ := Aside0.mk (below_step (bU HB.out) hb)
         clear HO_3
         clear HB
         have HO_3 := n0_
         have HB := n1_
         clear n0_ n1_
         (try clear hb)
         (try clear hb2)
         (try clear hk)
         (try clear hi)
         refine hK.out _ _ ⟨((HB.out.cell (World.block_lt_of_cell? w _ hw215_0)).trans hw215_0), ((HB.out.cell (World.block_lt_of_cell? w _ hw215_1)).trans hw215_1), ((HB.out.cell (World.block_lt_of_cell? w _ hw215_2)).trans hw215_2), ((HB.out.cell (World.block_lt_of_cell? w _ hw217_0)).trans hw217_0), ((HB.out.cell (World.block_lt_of_cell? w _ hw217_1)).trans hw217_1), ((HB.out.cell (World.block_lt_of_cell? w _ hw217_2)).trans hw217_2), ((HB.out.cell (World.block_lt_of_cell? w _ hw218_0)).trans hw218_0), ((HB.out.cell (World.block_lt_of_cell? w _ hw218_1)).trans hw218_1), ((HB.out.cell (World.block_lt_of_cell? w _ hw218_2)).trans hw218_2)⟩ (fun hHeld => ?_)
         clear hK K
         refine norm_ (a' := ?_) ?_ ?_
         rotate_left
         ·
          show Act.put _ (some 21) _ = _
          simp only [AP]; rfl
         refine pure_ (i := 5) (N := some 22) (v := ?_) (a' := ?_) #[true, true, true, true, true, true, false, false, false, false, false, false, false, false, false, false, false, false, false, false, false] rfl rfl (any_of HT_.out (by kernel_rfl)) (fun _ _ _ h => h) (Or.inl ⟨by rfl, ?_⟩) ?_ ?_
         rotate_left
         ·
          intro w'; go_simp; with_reducible rfl
         rotate_left
         ·
          simp only [AP]; rfl
         refine pure_ (i := 6) (N := some 23) (v := ?_) (a' := ?_) #[true, true, true, true, true, true, true, false, false, false, false, false, false, false, false, false, false, false, false, false, false] rfl rfl (any_of HT_.out (by kernel_rfl)) (fun _ _ _ h => h) (Or.inl ⟨by rfl, ?_⟩) ?_ ?_
         rotate_left
         ·
          intro w'; go_simp; with_reducible rfl
         rotate_left
         ·
          simp only [AP]; rfl
         refine pure_ (i := 7) (N := some 24) (v := ?_) (a' := ?_) #[true, true, true, true, true, true, true, true, false, false, false, false, false, false, false, false, false, false, false, false, false] rfl rfl (any_of HT_.out (by kernel_rfl)) (fun _ _ _ h => h) (Or.inl ⟨by rfl, ?_⟩) ?_ ?_
         rotate_left
         ·
          intro w'; go_simp; with_reducible rfl
         rotate_left
         ·
          simp only [AP]; rfl
         refine pure_ (i := 8) (N := some 25) (v := ?_) (a' := ?_) #[true, true, true, true, true, true, true, true, true, false, false, false, false, false, false, false, false, false, false, false, false] rfl rfl (any_of HT_.out (by kernel_rfl)) (fun _ _ _ h => h) (Or.inl ⟨by rfl, ?_⟩) ?_ ?_
         rotate_left
         ·
          intro w'; go_simp; with_reducible rfl
         rotate_left
         ·
          simp only [AP]; rfl
         refine pure_ (i := 9) (N := some 26) (v := ?_) (a' := ?_) #[true, true, true, true, true, true, true, true, true, true, false, false, false, false, false, false, false, false, false, false, false] rfl rfl (any_of HT_.out (by kernel_rfl)) (fun _ _ _ h => h) (Or.inl ⟨by rfl, ?_⟩) ?_ ?_
         rotate_left
         ·
          intro w'; go_simp; with_reducible rfl
         rotate_left
         ·
          simp only [AP]; rfl
         refine pure_ (i := 10) (N := some 27) (v := ?_) (a' := ?_) #[true, true, true, true, true, true, true, true, true, true, true, false, false, false, false, false, false, false, false, false, false] rfl rfl (any_of HT_.out (by kernel_rfl)) (fun _ _ _ h => h) (Or.inl ⟨by rfl, ?_⟩) ?_ ?_
         rotate_left
         ·
          intro w'; go_simp; with_reducible rfl
         rotate_left
         ·
          simp only [AP]; rfl
         refine pure_ (i := 12) (N := some 29) (v := ?_) (a' := ?_) #[true, true, true, true, true, true, true, true, true, true, true, false, true, false, false, false, false, false, false, false, false] rfl rfl (any_of HT_.out (by kernel_rfl)) (fun _ _ _ h => h) (Or.inl ⟨by rfl, ?_⟩) ?_ ?_
         rotate_left
         ·
          intro w'; go_simp; with_reducible rfl
         rotate_left
         ·
          simp only [AP]; rfl
         refine pure_ (i := 13) (N := some 30) (v := ?_) (a' := ?_) #[true, true, true, true, true, true, true, true, true, true, true, false, true, true, false, false, false, false, false, false, false] rfl rfl (any_of HT_.out (by kernel_rfl)) (fun _ _ _ h => h) (Or.inl ⟨by rfl, ?_⟩) ?_ ?_
         rotate_left
         ·
          intro w'; go_simp; with_reducible rfl
         rotate_left
         ·
          simp only [AP]; rfl
         refine pure_ (i := 14) (N := some 31) (v := ?_) (a' := ?_) #[true, true, true, true, true, true, true, true, true, true, true, false, true, true, true, false, false, false, false, false, false] rfl rfl (any_of HT_.out (by kernel_rfl)) (fun _ _ _ h => h) (Or.inl ⟨by rfl, ?_⟩) ?_ ?_
         rotate_left
         ·
          intro w'; go_simp; with_reducible rfl
         rotate_left
         ·
          simp only [AP]; rfl
         refine pure_ (i := 15) (N := some 32) (v := ?_) (a' := ?_) #[true, true, true, true, true, true, true, true, true, true, true, false, true, true, true, true, false, false, false, false, false] rfl rfl (any_of HT_.out (by kernel_rfl)) (fun _ _ _ h => h) (Or.inl ⟨by rfl, ?_⟩) ?_ ?_
         rotate_left
         ·
          intro w'; go_simp; with_reducible rfl
         rotate_left
         ·
          simp only [AP]; rfl
         refine pure_ (i := 18) (N := some 35) (v := ?_) (a' := ?_) #[true, true, true, true, true, true, true, true, true, true, true, false, true, true, true, true, false, false, true, false, false] rfl rfl (any_of HT_.out (by kernel_rfl)) (fun _ _ _ h => h) (Or.inl ⟨by rfl, ?_⟩) ?_ ?_
         rotate_left
         ·
          intro w'; go_simp; with_reducible rfl
         rotate_left
         ·
          simp only [AP]; rfl
         refine take_ (i := 11) (N := some 28) (v := ?_) (a' := ?_) #[true, true, true, true, true, true, true, true, true, true, true, true, true, true, true, true, false, false, true, false, false] rfl rfl (take_ofW HT_.out HW_.out (by kernel_rfl)) (fun _ _ _ h => h) (Or.inl ⟨by rfl, ?_⟩) hHeld ?_ ?_
         rotate_left
         ·
          rintro w' ⟨s0, s1, s2, s3, s4, s5, s6, s7, s8⟩
          go_simp; with_reducible rfl
         rotate_left
         ·
          simp only [AP]; rfl
         refine take_ (i := 16) (N := some 33) (v := ?_) (a' := ?_) #[true, true, true, true, true, true, true, true, true, true, true, true, true, true, true, true, true, false, true, false, false] rfl rfl (take_ofW HT_.out HW_.out (by kernel_rfl)) (fun _ _ _ h => h) (Or.inl ⟨by rfl, ?_⟩) hHeld ?_ ?_
         rotate_left
         ·
          rintro w' ⟨s0, s1, s2, s3, s4, s5, s6, s7, s8⟩
          go_simp; with_reducible rfl
         rotate_left
         ·
          simp only [AP]; rfl
         refine pure_ (i := 17) (N := some 34) (v := ?_) (a' := ?_) #[true, true, true, true, true, true, true, true, true, true, true, true, true, true, true, true, true, true, true, false, false] rfl rfl (any_of HT_.out (by kernel_rfl)) (fun _ _ _ h => h) (Or.inl ⟨by rfl, ?_⟩) ?_ ?_
         rotate_left
         ·
          intro w'; go_simp; with_reducible rfl
         rotate_left
         ·
          simp only [AP]; rfl
         refine pure_ (i := 19) (N := some 36) (v := ?_) (a' := ?_) #[true, true, true, true, true, true, true, true, true, true, true, true, true, true, true, true, true, true, true, true, false] rfl rfl (any_of HT_.out (by kernel_rfl)) (fun _ _ _ h => h) (Or.inl ⟨by rfl, ?_⟩) ?_ ?_
         rotate_left
         ·
          intro w'; go_simp; with_reducible rfl
         rotate_left
         ·
          simp only [AP]; rfl
         refine pure_ (i := 20) (N := some 37) (v := ?_) (a' := ?_) #[true, true, true, true, true, true, true, true, true, true, true, true, true, true, true, true, true, true, true, true, true] rfl rfl (any_of HT_.out (by kernel_rfl)) (fun _ _ _ h => h) (Or.inl ⟨by rfl, ?_⟩) ?_ ?_
         rotate_left
         ·
          intro w'; go_simp; with_reducible rfl
         rotate_left
         ·
          simp only [AP]; rfl
         refine done_ (done_of HT_.out (by kernel_rfl)) ?_
         try go_wp2
         go_meet
         case rel => exact ⟨_, (decide ((wrap64 (((rd_T33 l0 x7_2).f2) + ((rd_T33 l0 x7_2).f1))) ≤ x4_1)), (by first | rfl | (simp; done) | (simp [*]; done)), H', ⟨by have := HK1.out; have := HK2.out; first | omega | exact Nat.le_refl _⟩, ⟨rU HO_3.out⟩, ⟨bU HB.out⟩⟩
        ·
         replace c6 := Bool.eq_false_iff.mpr c6
         subst c6
         have H1 : (tegularef32_Runs.j2 k2 l0 x3_1 x4_1 x5_2 x6_2 x7_2 true) = some r := by rw [if_neg (show ¬ (false = true) by decide)] at H; exact H
         clear H
         have H := H1
         clear H1
         have H' := Aside0.mk H
         clear H
         try go_wp2
         have n0_ := Aside0.mk (Kd.R_drew HO_3.out)
         have n1_ := Aside0.mk (below_drew1 HB.out)
         clear HO_3
         clear HB
         have HO_3 := n0_
         have HB := n1_
         clear n0_ n1_
         have p215 : 0 ≤ (x7_2 : Int) := of_decide_eq_true (by first | (with_reducible assumption) | assumption)
         have q215 : x7_2 < (l0.length : Int) := of_decide_eq_true (by first | (with_reducible assumption) | assumption)
         obtain ⟨ad215, e215, hx215_0, hx215_1, hx215_2⟩ := at_T33 HR0.out x7_2 p215 q215
         have hw215_2 := hx215_2
         have hw215_1 := hx215_1
         have hw215_0 := hx215_0
         cases e215
         replace hx215_0 := (HB.out.cell (World.block_lt_of_cell? w _ hx215_0)).trans hx215_0
         replace hx215_1 := (HB.out.cell (World.block_lt_of_cell? w _ hx215_1)).trans hx215_1
         replace hx215_2 := (HB.out.cell (World.block_lt_of_cell? w _ hx215_2)).trans hx215_2
         replace p215 := eq_true p215
         replace q215 := eq_true q215
         refine start_ (n := 21) (S := fun w' => w'.cell? (ad215.add ((x7_2).toNat * 3)) = some (.int .i64 ((rd_T33 l0 x7_2).f0)) ∧ w'.cell? ⟨(ad215.add ((x7_2).toNat * 3)).block, (ad215.add ((x7_2).toNat * 3)).off + 1, none⟩ = some (.int .i64 ((rd_T33 l0 x7_2).f1)) ∧ w'.cell? ⟨(ad215.add ((x7_2).toNat * 3)).block, (ad215.add ((x7_2).toNat * 3)).off + 2, none⟩ = some (.int .i64 ((rd_T33 l0 x7_2).f2))) (ds := []) #[false, false, false, false, false, false, false, false, false, false, false, false, false, false, false, false, false, false, false, false, false] (by kernel_rfl) rfl rfl ⟨((HB.out.cell (World.block_lt_of_cell? w _ hw215_0)).trans hw215_0), ((HB.out.cell (World.block_lt_of_cell? w _ hw215_1)).trans hw215_1), ((HB.out.cell (World.block_lt_of_cell? w _ hw215_2)).trans hw215_2)⟩ (fun hHeld => ?_); refine with_tabW tegularef32_Runs.tab7 tegularef32_Runs.bits7 (fun HT_ HW_ => ?_)
         generalize wr.drew = w9 at HO_3 HB hx215_0 hx215_1 hx215_2 hHeld ⊢
         refine pure_ (i := 0) (N := some 17) (v := ?_) (a' := ?_) #[true, false, false, false, false, false, false, false, false, false, false, false, false, false, false, false, false, false, false, false, false] rfl rfl (any_of HT_.out (by kernel_rfl)) (fun _ _ _ h => h) (Or.inl ⟨by rfl, ?_⟩) ?_ ?_
         rotate_left
         ·
          intro w'; go_simp; with_reducible rfl
         rotate_left
         ·
          simp only [AP]; rfl
         refine pure_ (i := 1) (N := some 18) (v := ?_) (a' := ?_) #[true, true, false, false, false, false, false, false, false, false, false, false, false, false, false, false, false, false, false, false, false] rfl rfl (any_of HT_.out (by kernel_rfl)) (fun _ _ _ h => h) (Or.inl ⟨by rfl, ?_⟩) ?_ ?_
         rotate_left
         ·
          intro w'; go_simp; with_reducible rfl
         rotate_left
         ·
          simp only [AP]; rfl
         refine pure_ (i := 2) (N := some 19) (v := ?_) (a' := ?_) #[true, true, true, false, false, false, false, false, false, false, false, false, false, false, false, false, false, false, false, false, false] rfl rfl (any_of HT_.out (by kernel_rfl)) (fun _ _ _ h => h) (Or.inl ⟨by rfl, ?_⟩) ?_ ?_
         rotate_left
         ·
          intro w'; go_simp; with_reducible rfl
         rotate_left
         ·
          simp only [AP]; rfl
         refine take_ (i := 3) (N := some 20) (v := ?_) (a' := ?_) #[true, true, true, true, false, false, false, false, false, false, false, false, false, false, false, false, false, false, false, false, false] rfl rfl (take_ofW HT_.out HW_.out (by kernel_rfl)) (fun _ _ _ h => h) (Or.inl ⟨by rfl, ?_⟩) hHeld ?_ ?_
         rotate_left
         ·
          rintro w' ⟨s0, s1, s2⟩
          go_simp; with_reducible rfl
         rotate_left
         ·
          simp only [AP]; rfl
         refine one_ (i := 4) (N := some 21) #[true, true, true, true, true, false, false, false, false, false, false, false, false, false, false, false, false, false, false, false, false] rfl rfl (one_of HT_.out (by kernel_rfl)) (by decide) (fun K hK => ?_)
         refine goes_ Try.func26 (by kernel_rfl) rfl #[.agg #[.int .i64 ((rd_T33 l0 x7_2).f0), .int .i64 ((rd_T33 l0 x7_2).f1), .int .i64 ((rd_T33 l0 x7_2).f2)]] (by rfl) rfl rfl (by (try simp only [List.map_toArray, List.map_cons, List.map_nil]); first | done | rfl | (simp only [List.length_drop, List.length_take]; rfl)) ?_
         with_reducible refine (tegularef32_One.calls ((rd_T33 l0 x7_2).f0) ((rd_T33 l0 x7_2).f1) ((rd_T33 l0 x7_2).f2) false _ A5.out).mono ?_
         rintro e w10 ⟨rfl, hb⟩
         refine ⟨_, rfl, ?_⟩
         have n0_ := Aside0.mk (Kd.R_below (rU HO_3.out) hb)
         have n1_ := Aside0.mk (below_step (bU HB.out) hb)
         clear HO_3
         clear HB
         have HO_3 := n0_
         have HB := n1_
         clear n0_ n1_
         (try clear hb)
         (try clear hb2)
         (try clear hk)
         (try clear hi)
         refine hK.out _ _ ⟨((HB.out.cell (World.block_lt_of_cell? w _ hw215_0)).trans hw215_0), ((HB.out.cell (World.block_lt_of_cell? w _ hw215_1)).trans hw215_1), ((HB.out.cell (World.block_lt_of_cell? w _ hw215_2)).trans hw215_2)⟩ (fun hHeld => ?_)
         clear hK K
         refine norm_ (a' := ?_) ?_ ?_
         rotate_left
         ·
          show Act.put _ (some 21) _ = _
          simp only [AP]; rfl
         refine pure_ (i := 5) (N := some 22) (v := ?_) (a' := ?_) #[true, true, true, true, true, true, false, false, false, false, false, false, false, false, false, false, false, false, false, false, false] rfl rfl (any_of HT_.out (by kernel_rfl)) (fun _ _ _ h => h) (Or.inl ⟨by rfl, ?_⟩) ?_ ?_
         rotate_left
         ·
          intro w'; go_simp; with_reducible rfl
         rotate_left
         ·
          simp only [AP]; rfl
         refine pure_ (i := 6) (N := some 23) (v := ?_) (a' := ?_) #[true, true, true, true, true, true, true, false, false, false, false, false, false, false, false, false, false, false, false, false, false] rfl rfl (any_of HT_.out (by kernel_rfl)) (fun _ _ _ h => h) (Or.inl ⟨by rfl, ?_⟩) ?_ ?_
         rotate_left
         ·
          intro w'; go_simp; with_reducible rfl
         rotate_left
         ·
          simp only [AP]; rfl
         refine pure_ (i := 7) (N := some 24) (v := undef) (a' := ?_) #[true, true, true, true, true, true, true, true, false, false, false, false, false, false, false, false, false, false, false, false, false] rfl rfl (any_of HT_.out (by kernel_rfl)) (fun _ _ _ h => h) (Or.inr ⟨by rfl, rfl⟩) ?_ ?_
         rotate_left
         ·
          simp only [AP]; rfl
         refine pure_ (i := 8) (N := some 25) (v := undef) (a' := ?_) #[true, true, true, true, true, true, true, true, true, false, false, false, false, false, false, false, false, false, false, false, false] rfl rfl (any_of HT_.out (by kernel_rfl)) (fun _ _ _ h => h) (Or.inr ⟨by rfl, rfl⟩) ?_ ?_
         rotate_left
         ·
          simp only [AP]; rfl
         refine pure_ (i := 9) (N := some 26) (v := undef) (a' := ?_) #[true, true, true, true, true, true, true, true, true, true, false, false, false, false, false, false, false, false, false, false, false] rfl rfl (any_of HT_.out (by kernel_rfl)) (fun _ _ _ h => h) (Or.inr ⟨by rfl, rfl⟩) ?_ ?_
         rotate_left
         ·
          simp only [AP]; rfl
         refine pure_ (i := 10) (N := some 27) (v := undef) (a' := ?_) #[true, true, true, true, true, true, true, true, true, true, true, false, false, false, false, false, false, false, false, false, false] rfl rfl (any_of HT_.out (by kernel_rfl)) (fun _ _ _ h => h) (Or.inr ⟨by rfl, rfl⟩) ?_ ?_
         rotate_left
         ·
          simp only [AP]; rfl
         refine pure_ (i := 11) (N := some 28) (v := undef) (a' := ?_) #[true, true, true, true, true, true, true, true, true, true, true, true, false, false, false, false, false, false, false, false, false] rfl rfl (any_of HT_.out (by kernel_rfl)) (fun _ _ _ h => h) (Or.inr ⟨by rfl, rfl⟩) ?_ ?_
         rotate_left
         ·
          simp only [AP]; rfl
         refine pure_ (i := 12) (N := some 29) (v := undef) (a' := ?_) #[true, true, true, true, true, true, true, true, true, true, true, true, true, false, false, false, false, false, false, false, false] rfl rfl (any_of HT_.out (by kernel_rfl)) (fun _ _ _ h => h) (Or.inr ⟨by rfl, rfl⟩) ?_ ?_
         rotate_left
         ·
          simp only [AP]; rfl
         refine pure_ (i := 13) (N := some 30) (v := undef) (a' := ?_) #[true, true, true, true, true, true, true, true, true, true, true, true, true, true, false, false, false, false, false, false, false] rfl rfl (any_of HT_.out (by kernel_rfl)) (fun _ _ _ h => h) (Or.inr ⟨by rfl, rfl⟩) ?_ ?_
         rotate_left
         ·
          simp only [AP]; rfl
         refine pure_ (i := 14) (N := some 31) (v := undef) (a' := ?_) #[true, true, true, true, true, true, true, true, true, true, true, true, true, true, true, false, false, false, false, false, false] rfl rfl (any_of HT_.out (by kernel_rfl)) (fun _ _ _ h => h) (Or.inr ⟨by rfl, rfl⟩) ?_ ?_
         rotate_left
         ·
          simp only [AP]; rfl
         refine pure_ (i := 15) (N := some 32) (v := undef) (a' := ?_) #[true, true, true, true, true, true, true, true, true, true, true, true, true, true, true, true, false, false, false, false, false] rfl rfl (any_of HT_.out (by kernel_rfl)) (fun _ _ _ h => h) (Or.inr ⟨by rfl, rfl⟩) ?_ ?_
         rotate_left
         ·
          simp only [AP]; rfl
         refine pure_ (i := 16) (N := some 33) (v := undef) (a' := ?_) #[true, true, true, true, true, true, true, true, true, true, true, true, true, true, true, true, true, false, false, false, false] rfl rfl (any_of HT_.out (by kernel_rfl)) (fun _ _ _ h => h) (Or.inr ⟨by rfl, rfl⟩) ?_ ?_
         rotate_left
         ·
          simp only [AP]; rfl
         refine pure_ (i := 17) (N := some 34) (v := undef) (a' := ?_) #[true, true, true, true, true, true, true, true, true, true, true, true, true, true, true, true, true, true, false, false, false] rfl rfl (any_of HT_.out (by kernel_rfl)) (fun _ _ _ h => h) (Or.inr ⟨by rfl, rfl⟩) ?_ ?_
         rotate_left
         ·
          simp only [AP]; rfl
         refine pure_ (i := 18) (N := some 35) (v := undef) (a' := ?_) #[true, true, true, true, true, true, true, true, true, true, true, true, true, true, true, true, true, true, true, false, false] rfl rfl (any_of HT_.out (by kernel_rfl)) (fun _ _ _ h => h) (Or.inr ⟨by rfl, rfl⟩) ?_ ?_
         rotate_left
         ·
          simp only [AP]; rfl
         refine pure_ (i := 19) (N := some 36) (v := undef) (a' := ?_) #[true, true, true, true, true, true, true, true, true, true, true, true, true, true, true, true, true, true, true, true, false] rfl rfl (any_of HT_.out (by kernel_rfl)) (fun _ _ _ h => h) (Or.inr ⟨by rfl, rfl⟩) ?_ ?_
         rotate_left
         ·
          simp only [AP]; rfl
         refine pure_ (i := 20) (N := some 37) (v := ?_) (a' := ?_) #[true, true, true, true, true, true, true, true, true, true, true, true, true, true, true, true, true, true, true, true, true] rfl rfl (any_of HT_.out (by kernel_rfl)) (fun _ _ _ h => h) (Or.inl ⟨by rfl, ?_⟩) ?_ ?_
         rotate_left
         ·
          intro w'; go_simp; with_reducible rfl
         rotate_left
         ·
          simp only [AP]; rfl
         refine done_ (done_of HT_.out (by kernel_rfl)) ?_
         try go_wp2
         go_meet
         case rel => exact ⟨_, (true), (by first | rfl | (simp; done) | (simp [*]; done)), H', ⟨by have := HK1.out; have := HK2.out; first | omega | exact Nat.le_refl _⟩, ⟨rU HO_3.out⟩, ⟨bU HB.out⟩⟩
       ·
        rw [if_neg c4] at H
        exact absurd H (by simp)
      case rest =>
       clear HC3
       try clear c2
       try clear c2b0
       try clear p2
       try clear q2
       try clear hx2
       try clear c4
       try clear c4b0
       try clear c6
       try clear p6
       try clear hx215_0
       try clear hx215_1
       try clear hx215_2
       try clear hx217_0
       try clear hx217_1
       try clear hx217_2
       try clear hx218_0
       try clear hx218_1
       try clear hx218_2
       try clear p215
       try clear p217
       try clear p218
       try clear q215
       try clear q217
       try clear q218
       obtain ⟨kq, x37_2, rfl, HA, HJ2, HO_3, HB⟩ := hcut
       cases kq with
       | zero => exact absurd HA.out (by simp [tegularef32_Runs.j2])
       | succ kj2 =>
        have H := HA.out
        clear HA
        simp only [tegularef32_Runs.j2] at H
        by_cases c11 : x37_2 = true
        ·
         subst c11
         have H1 : (tegularef32_Runs.l1 kj2 l0 x3_1 x4_1 x5_2 x6_2 (wrap64 (x7_2 + 1))) = some r := by rw [if_pos rfl] at H; exact H
         clear H
         have H := H1
         clear H1
         have H' := Aside0.mk H
         clear H
         go_wp2
         go_roundg kj2
         case measure => have := HK1.out; have := HK2.out; have := HJ2.out; omega
         case rel => exact ⟨(x5_2), (x6_2), (wrap64 (x7_2 + 1)), (by first | rfl | (simp; done) | (simp [*]; done)), (by first | rfl | (simp; done) | (simp [*]; done)), (by first | rfl | (simp; done) | (simp [*]; done)), H', ⟨by have := HK1.out; have := HK2.out; have := HJ2.out; omega⟩, ⟨rU HO_3.out⟩, ⟨bU HB.out⟩⟩
        ·
         replace c11 := Bool.eq_false_iff.mpr c11
         subst c11
         have H1 : (if 0 ≤ x7_2 then (if x7_2 < (l0.length : Int) then (if x6_2 = true then (if (mx ((rd_T33 l0 x7_2).f2) x4_1) < x5_2 then (tegularef32_Runs.l1 kj2 l0 x3_1 x4_1 (mx ((rd_T33 l0 x7_2).f2) x4_1) true (wrap64 (x7_2 + 1))) else (tegularef32_Runs.l1 kj2 l0 x3_1 x4_1 x5_2 x6_2 (wrap64 (x7_2 + 1)))) else (tegularef32_Runs.l1 kj2 l0 x3_1 x4_1 (mx ((rd_T33 l0 x7_2).f2) x4_1) true (wrap64 (x7_2 + 1)))) else (none)) else (none)) = some r := by rw [if_neg (show ¬ (false = true) by decide)] at H; exact H
         clear H
         have H := H1
         clear H1
         by_cases c12 : 0 ≤ x7_2
         ·
          rw [if_pos c12] at H
          have c12b0 := decide_eq_true c12
          clear c12
          by_cases c13 : x7_2 < (l0.length : Int)
          ·
           rw [if_pos c13] at H
           have c13b0 := decide_eq_true c13
           clear c13
           obtain ⟨ji14, hji14⟩ : ∃ j_ : Int, (mx ((rd_T33 l0 x7_2).f2) x4_1) = j_ := ⟨_, rfl⟩
           replace H : (if x6_2 = true then (if (ji14) < x5_2 then (tegularef32_Runs.l1 kj2 l0 x3_1 x4_1 ji14 true (wrap64 (x7_2 + 1))) else (tegularef32_Runs.l1 kj2 l0 x3_1 x4_1 x5_2 x6_2 (wrap64 (x7_2 + 1)))) else (tegularef32_Runs.l1 kj2 l0 x3_1 x4_1 ji14 true (wrap64 (x7_2 + 1)))) = some r := by first | (rw [hji14] at H; exact H) | (simp only [hji14] at H ⊢; exact H)
           have hji14_ : (if ((rd_T33 l0 x7_2).f2) < x4_1 then x4_1 else ((rd_T33 l0 x7_2).f2)) = ji14 := hji14
           by_cases c15 : x6_2 = true
           ·
            subst c15
            have H1 : (if (ji14) < x5_2 then (tegularef32_Runs.l1 kj2 l0 x3_1 x4_1 ji14 true (wrap64 (x7_2 + 1))) else (tegularef32_Runs.l1 kj2 l0 x3_1 x4_1 x5_2 true (wrap64 (x7_2 + 1)))) = some r := by rw [if_pos rfl] at H; exact H
            clear H
            have H := H1
            clear H1
            by_cases c16 : (ji14) < x5_2
            ·
             rw [if_pos c16] at H
             have c16b0 := decide_eq_true c16
             clear c16
             have H' := Aside0.mk H
             clear H
             have p219 : 0 ≤ (x7_2 : Int) := of_decide_eq_true (by first | (with_reducible assumption) | assumption)
             have q219 : x7_2 < (l0.length : Int) := of_decide_eq_true (by first | (with_reducible assumption) | assumption)
             obtain ⟨ad219, e219, hx219_0, hx219_1, hx219_2⟩ := at_T33 HR0.out x7_2 p219 q219
             cases e219
             replace hx219_0 := (HB.out.cell (World.block_lt_of_cell? w _ hx219_0)).trans hx219_0
             replace hx219_1 := (HB.out.cell (World.block_lt_of_cell? w _ hx219_1)).trans hx219_1
             replace hx219_2 := (HB.out.cell (World.block_lt_of_cell? w _ hx219_2)).trans hx219_2
             replace p219 := eq_true p219
             replace q219 := eq_true q219
             go_wp2
             go_roundg kj2
             case measure => have := HK1.out; have := HK2.out; have := HJ2.out; omega
             case rel => exact ⟨(ji14), (true), (wrap64 (x7_2 + 1)), (by first | rfl | (simp; done) | (simp only [← hji14] <;> (first | rfl | simp)) | (simp [*]; done)), (by first | rfl | (simp; done) | (simp [*]; done)), (by first | rfl | (simp; done) | (simp [*]; done)), H', ⟨by have := HK1.out; have := HK2.out; have := HJ2.out; omega⟩, ⟨rU HO_3.out⟩, ⟨bU HB.out⟩⟩
            ·
             rw [if_neg c16] at H
             have c16b0 := decide_eq_false c16
             clear c16
             have H' := Aside0.mk H
             clear H
             have p219 : 0 ≤ (x7_2 : Int) := of_decide_eq_true (by first | (with_reducible assumption) | assumption)
             have q219 : x7_2 < (l0.length : Int) := of_decide_eq_true (by first | (with_reducible assumption) | assumption)
             obtain ⟨ad219, e219, hx219_0, hx219_1, hx219_2⟩ := at_T33 HR0.out x7_2 p219 q219
             cases e219
             replace hx219_0 := (HB.out.cell (World.block_lt_of_cell? w _ hx219_0)).trans hx219_0
             replace hx219_1 := (HB.out.cell (World.block_lt_of_cell? w _ hx219_1)).trans hx219_1
             replace hx219_2 := (HB.out.cell (World.block_lt_of_cell? w _ hx219_2)).trans hx219_2
             replace p219 := eq_true p219
             replace q219 := eq_true q219
             go_wp2
             go_roundg kj2
             case measure => have := HK1.out; have := HK2.out; have := HJ2.out; omega
             case rel => exact ⟨(x5_2), (true), (wrap64 (x7_2 + 1)), (by first | rfl | (simp; done) | (simp [*]; done)), (by first | rfl | (simp; done) | (simp [*]; done)), (by first | rfl | (simp; done) | (simp [*]; done)), H', ⟨by have := HK1.out; have := HK2.out; have := HJ2.out; omega⟩, ⟨rU HO_3.out⟩, ⟨bU HB.out⟩⟩
           ·
            replace c15 := Bool.eq_false_iff.mpr c15
            subst c15
            have H1 : (tegularef32_Runs.l1 kj2 l0 x3_1 x4_1 ji14 true (wrap64 (x7_2 + 1))) = some r := by rw [if_neg (show ¬ (false = true) by decide)] at H; exact H
            clear H
            have H := H1
            clear H1
            have H' := Aside0.mk H
            clear H
            have p219 : 0 ≤ (x7_2 : Int) := of_decide_eq_true (by first | (with_reducible assumption) | assumption)
            have q219 : x7_2 < (l0.length : Int) := of_decide_eq_true (by first | (with_reducible assumption) | assumption)
            obtain ⟨ad219, e219, hx219_0, hx219_1, hx219_2⟩ := at_T33 HR0.out x7_2 p219 q219
            cases e219
            replace hx219_0 := (HB.out.cell (World.block_lt_of_cell? w _ hx219_0)).trans hx219_0
            replace hx219_1 := (HB.out.cell (World.block_lt_of_cell? w _ hx219_1)).trans hx219_1
            replace hx219_2 := (HB.out.cell (World.block_lt_of_cell? w _ hx219_2)).trans hx219_2
            replace p219 := eq_true p219
            replace q219 := eq_true q219
            go_wp2
            go_roundg kj2
            case measure => have := HK1.out; have := HK2.out; have := HJ2.out; omega
            case rel => exact ⟨(ji14), (true), (wrap64 (x7_2 + 1)), (by first | rfl | (simp; done) | (simp only [← hji14] <;> (first | rfl | simp)) | (simp [*]; done)), (by first | rfl | (simp; done) | (simp [*]; done)), (by first | rfl | (simp; done) | (simp [*]; done)), H', ⟨by have := HK1.out; have := HK2.out; have := HJ2.out; omega⟩, ⟨rU HO_3.out⟩, ⟨bU HB.out⟩⟩
          ·
           rw [if_neg c13] at H
           exact absurd H (by simp)
         ·
          rw [if_neg c12] at H
          exact absurd H (by simp)
     ·
      rw [if_neg c2] at H
      have c2b0 := decide_eq_false c2
      clear c2
      by_cases c17 : x6_2 = true
      ·
       subst c17
       have H1 : (tegularef32_Runs.l2 k2 l0 x3_1 x5_2 x5_2 0) = some r := by rw [if_pos rfl] at H; exact H
       clear H
       have H := H1
       clear H1
       have H' := Aside0.mk H
       clear H
       go_wp2
       go_loopg [4, 9] k2 (fun kq v4 v9 w' => ∃ (x4_3 : Int) (x9_3 : Int), v4 = .int .i64 x4_3 ∧ v9 = .int .i64 x9_3 ∧ Aside0 (tegularef32_Runs.l2 kq l0 x3_1 x4_3 x5_2 x9_3 = some r) ∧ Aside0 (kq ≤ k2) ∧ Aside0 (Kd.R k33 33 w' w.heap.size (fun _ => True) u3 x3_1) ∧ Aside0 (Below w.heap.size w w'))
       case atStart => exact ⟨(x5_2), (0), (by first | rfl | (simp; done) | (simp [*]; done)), (by first | rfl | (simp; done) | (simp [*]; done)), H', ⟨Nat.le_refl _⟩, ⟨rU HO_3.out⟩, ⟨bU HB.out⟩⟩
       case round =>
        clear H'
        try clear c1
        try clear c2
        try clear c2b0
        try clear p2
        try clear q2
        try clear hx2
        try clear c4
        try clear c4b0
        try clear c6
        try clear p6
        try clear c11
        try clear c12
        try clear c12b0
        try clear c13
        try clear c13b0
        try clear c15
        try clear c16
        try clear c16b0
        try clear c17
        try clear hx215_0
        try clear hx215_1
        try clear hx215_2
        try clear hx217_0
        try clear hx217_1
        try clear hx217_2
        try clear hx218_0
        try clear hx218_1
        try clear hx218_2
        try clear hx219_0
        try clear hx219_1
        try clear hx219_2
        try clear p2
        try clear p215
        try clear p217
        try clear p218
        try clear p219
        try clear p6
        try clear q2
        try clear q215
        try clear q217
        try clear q218
        try clear q219
        obtain ⟨x4_3, x9_3, rfl, rfl, HA, HK3, HO_3, HB⟩ := hrel
        cases gk with
        | zero => exact absurd HA.out (by simp [tegularef32_Runs.l2])
        | succ k3 =>
         have H := HA.out
         clear HA
         simp only [tegularef32_Runs.l2] at H
         by_cases c18 : x9_3 < (l0.length : Int)
         ·
          rw [if_pos c18] at H
          have c18b0 := decide_eq_true c18
          clear c18
          by_cases c19 : 0 ≤ x9_3
          ·
           rw [if_pos c19] at H
           have c19b0 := decide_eq_true c19
           clear c19
           replace H := Option.bind_eq_some_iff.mp H
           obtain ⟨t221, A200, H⟩ := H
           replace H : (if t221 = true then (if ((rd_T33 l0 x9_3).f2) ≤ x5_2 then (if (wrap64 (((rd_T33 l0 x9_3).f2) + ((rd_T33 l0 x9_3).f1))) > x4_3 then (tegularef32_Runs.l2 k3 l0 x3_1 (wrap64 (((rd_T33 l0 x9_3).f2) + ((rd_T33 l0 x9_3).f1))) x5_2 (wrap64 (x9_3 + 1))) else (tegularef32_Runs.l2 k3 l0 x3_1 x4_3 x5_2 (wrap64 (x9_3 + 1)))) else (tegularef32_Runs.l2 k3 l0 x3_1 x4_3 x5_2 (wrap64 (x9_3 + 1)))) else (tegularef32_Runs.l2 k3 l0 x3_1 x4_3 x5_2 (wrap64 (x9_3 + 1)))) = some r := H
           have A20 := Aside0.mk A200
           clear A200
           by_cases c21 : t221 = true
           ·
            subst c21
            have H1 : (if ((rd_T33 l0 x9_3).f2) ≤ x5_2 then (if (wrap64 (((rd_T33 l0 x9_3).f2) + ((rd_T33 l0 x9_3).f1))) > x4_3 then (tegularef32_Runs.l2 k3 l0 x3_1 (wrap64 (((rd_T33 l0 x9_3).f2) + ((rd_T33 l0 x9_3).f1))) x5_2 (wrap64 (x9_3 + 1))) else (tegularef32_Runs.l2 k3 l0 x3_1 x4_3 x5_2 (wrap64 (x9_3 + 1)))) else (tegularef32_Runs.l2 k3 l0 x3_1 x4_3 x5_2 (wrap64 (x9_3 + 1)))) = some r := by rw [if_pos rfl] at H; exact H
            clear H
            have H := H1
            clear H1
            by_cases c22 : ((rd_T33 l0 x9_3).f2) ≤ x5_2
            ·
             rw [if_pos c22] at H
             have c22b0 := decide_eq_true c22
             clear c22
             by_cases c23 : (wrap64 (((rd_T33 l0 x9_3).f2) + ((rd_T33 l0 x9_3).f1))) > x4_3
             ·
              rw [if_pos c23] at H
              have c23b0 := decide_eq_true c23
              clear c23
              have H' := Aside0.mk H
              clear H
              try go_wp2
              have n0_ := Aside0.mk (Kd.R_drew HO_3.out)
              have n1_ := Aside0.mk (below_drew1 HB.out)
              clear HO_3
              clear HB
              have HO_3 := n0_
              have HB := n1_
              clear n0_ n1_
              have p220 : 0 ≤ (x9_3 : Int) := of_decide_eq_true (by first | (with_reducible assumption) | assumption)
              have q220 : x9_3 < (l0.length : Int) := of_decide_eq_true (by first | (with_reducible assumption) | assumption)
              obtain ⟨ad220, e220, hx220_0, hx220_1, hx220_2⟩ := at_T33 HR0.out x9_3 p220 q220
              have hw220_2 := hx220_2
              have hw220_1 := hx220_1
              have hw220_0 := hx220_0
              cases e220
              replace hx220_0 := (HB.out.cell (World.block_lt_of_cell? w _ hx220_0)).trans hx220_0
              replace hx220_1 := (HB.out.cell (World.block_lt_of_cell? w _ hx220_1)).trans hx220_1
              replace hx220_2 := (HB.out.cell (World.block_lt_of_cell? w _ hx220_2)).trans hx220_2
              replace p220 := eq_true p220
              replace q220 := eq_true q220
              have p222 : 0 ≤ (x9_3 : Int) := of_decide_eq_true (by first | (with_reducible assumption) | assumption)
              have q222 : x9_3 < (l0.length : Int) := of_decide_eq_true (by first | (with_reducible assumption) | assumption)
              obtain ⟨ad222, e222, hx222_0, hx222_1, hx222_2⟩ := at_T33 HR0.out x9_3 p222 q222
              have hw222_2 := hx222_2
              have hw222_1 := hx222_1
              have hw222_0 := hx222_0
              obtain rfl : ad220 = ad222 := (by injection e222)
              replace hx222_0 := (HB.out.cell (World.block_lt_of_cell? w _ hx222_0)).trans hx222_0
              replace hx222_1 := (HB.out.cell (World.block_lt_of_cell? w _ hx222_1)).trans hx222_1
              replace hx222_2 := (HB.out.cell (World.block_lt_of_cell? w _ hx222_2)).trans hx222_2
              replace p222 := eq_true p222
              replace q222 := eq_true q222
              have p223 : 0 ≤ (x9_3 : Int) := of_decide_eq_true (by first | (with_reducible assumption) | assumption)
              have q223 : x9_3 < (l0.length : Int) := of_decide_eq_true (by first | (with_reducible assumption) | assumption)
              obtain ⟨ad223, e223, hx223_0, hx223_1, hx223_2⟩ := at_T33 HR0.out x9_3 p223 q223
              have hw223_2 := hx223_2
              have hw223_1 := hx223_1
              have hw223_0 := hx223_0
              obtain rfl : ad220 = ad223 := (by injection e223)
              replace hx223_0 := (HB.out.cell (World.block_lt_of_cell? w _ hx223_0)).trans hx223_0
              replace hx223_1 := (HB.out.cell (World.block_lt_of_cell? w _ hx223_1)).trans hx223_1
              replace hx223_2 := (HB.out.cell (World.block_lt_of_cell? w _ hx223_2)).trans hx223_2
              replace p223 := eq_true p223
              replace q223 := eq_true q223
              have p224 : 0 ≤ (x9_3 : Int) := of_decide_eq_true (by first | (with_reducible assumption) | assumption)
              have q224 : x9_3 < (l0.length : Int) := of_decide_eq_true (by first | (with_reducible assumption) | assumption)
              obtain ⟨ad224, e224, hx224_0, hx224_1, hx224_2⟩ := at_T33 HR0.out x9_3 p224 q224
              have hw224_2 := hx224_2
              have hw224_1 := hx224_1
              have hw224_0 := hx224_0
              obtain rfl : ad220 = ad224 := (by injection e224)
              replace hx224_0 := (HB.out.cell (World.block_lt_of_cell? w _ hx224_0)).trans hx224_0
              replace hx224_1 := (HB.out.cell (World.block_lt_of_cell? w _ hx224_1)).trans hx224_1
              replace hx224_2 := (HB.out.cell (World.block_lt_of_cell? w _ hx224_2)).trans hx224_2
              replace p224 := eq_true p224
              replace q224 := eq_true q224
              refine start_ (n := 29) (S := fun w' => w'.cell? (ad220.add ((x9_3).toNat * 3)) = some (.int .i64 ((rd_T33 l0 x9_3).f0)) ∧ w'.cell? ⟨(ad220.add ((x9_3).toNat * 3)).block, (ad220.add ((x9_3).toNat * 3)).off + 1, none⟩ = some (.int .i64 ((rd_T33 l0 x9_3).f1)) ∧ w'.cell? ⟨(ad220.add ((x9_3).toNat * 3)).block, (ad220.add ((x9_3).toNat * 3)).off + 2, none⟩ = some (.int .i64 ((rd_T33 l0 x9_3).f2)) ∧ w'.cell? (ad220.add ((x9_3).toNat * 3)) = some (.int .i64 ((rd_T33 l0 x9_3).f0)) ∧ w'.cell? ⟨(ad220.add ((x9_3).toNat * 3)).block, (ad220.add ((x9_3).toNat * 3)).off + 1, none⟩ = some (.int .i64 ((rd_T33 l0 x9_3).f1)) ∧ w'.cell? ⟨(ad220.add ((x9_3).toNat * 3)).block, (ad220.add ((x9_3).toNat * 3)).off + 2, none⟩ = some (.int .i64 ((rd_T33 l0 x9_3).f2)) ∧ w'.cell? (ad220.add ((x9_3).toNat * 3)) = some (.int .i64 ((rd_T33 l0 x9_3).f0)) ∧ w'.cell? ⟨(ad220.add ((x9_3).toNat * 3)).block, (ad220.add ((x9_3).toNat * 3)).off + 1, none⟩ = some (.int .i64 ((rd_T33 l0 x9_3).f1)) ∧ w'.cell? ⟨(ad220.add ((x9_3).toNat * 3)).block, (ad220.add ((x9_3).toNat * 3)).off + 2, none⟩ = some (.int .i64 ((rd_T33 l0 x9_3).f2)) ∧ w'.cell? (ad220.add ((x9_3).toNat * 3)) = some (.int .i64 ((rd_T33 l0 x9_3).f0)) ∧ w'.cell? ⟨(ad220.add ((x9_3).toNat * 3)).block, (ad220.add ((x9_3).toNat * 3)).off + 1, none⟩ = some (.int .i64 ((rd_T33 l0 x9_3).f1)) ∧ w'.cell? ⟨(ad220.add ((x9_3).toNat * 3)).block, (ad220.add ((x9_3).toNat * 3)).off + 2, none⟩ = some (.int .i64 ((rd_T33 l0 x9_3).f2))) (ds := []) #[false, false, false, false, false, false, false, false, false, false, false, false, false, false, false, false, false, false, false, false, false, false, false, false, false, false, false, false, false] (by kernel_rfl) rfl rfl ⟨((HB.out.cell (World.block_lt_of_cell? w _ hw220_0)).trans hw220_0), ((HB.out.cell (World.block_lt_of_cell? w _ hw220_1)).trans hw220_1), ((HB.out.cell (World.block_lt_of_cell? w _ hw220_2)).trans hw220_2), ((HB.out.cell (World.block_lt_of_cell? w _ hw222_0)).trans hw222_0), ((HB.out.cell (World.block_lt_of_cell? w _ hw222_1)).trans hw222_1), ((HB.out.cell (World.block_lt_of_cell? w _ hw222_2)).trans hw222_2), ((HB.out.cell (World.block_lt_of_cell? w _ hw223_0)).trans hw223_0), ((HB.out.cell (World.block_lt_of_cell? w _ hw223_1)).trans hw223_1), ((HB.out.cell (World.block_lt_of_cell? w _ hw223_2)).trans hw223_2), ((HB.out.cell (World.block_lt_of_cell? w _ hw224_0)).trans hw224_0), ((HB.out.cell (World.block_lt_of_cell? w _ hw224_1)).trans hw224_1), ((HB.out.cell (World.block_lt_of_cell? w _ hw224_2)).trans hw224_2)⟩ (fun hHeld => ?_); refine with_tabW tegularef32_Runs.tab17 tegularef32_Runs.bits17 (fun HT_ HW_ => ?_)
              generalize wr.drew = w24 at HO_3 HB hx220_0 hx220_1 hx220_2 hx222_0 hx222_1 hx222_2 hx223_0 hx223_1 hx223_2 hx224_0 hx224_1 hx224_2 hHeld ⊢
              refine pure_ (i := 0) (N := some 63) (v := ?_) (a' := ?_) #[true, false, false, false, false, false, false, false, false, false, false, false, false, false, false, false, false, false, false, false, false, false, false, false, false, false, false, false, false] rfl rfl (any_of HT_.out (by kernel_rfl)) (fun _ _ _ h => h) (Or.inl ⟨by rfl, ?_⟩) ?_ ?_
              rotate_left
              ·
               intro w'; go_simp; with_reducible rfl
              rotate_left
              ·
               simp only [AP]; rfl
              refine pure_ (i := 1) (N := some 64) (v := ?_) (a' := ?_) #[true, true, false, false, false, false, false, false, false, false, false, false, false, false, false, false, false, false, false, false, false, false, false, false, false, false, false, false, false] rfl rfl (any_of HT_.out (by kernel_rfl)) (fun _ _ _ h => h) (Or.inl ⟨by rfl, ?_⟩) ?_ ?_
              rotate_left
              ·
               intro w'; go_simp; with_reducible rfl
              rotate_left
              ·
               simp only [AP]; rfl
              refine pure_ (i := 2) (N := some 65) (v := ?_) (a' := ?_) #[true, true, true, false, false, false, false, false, false, false, false, false, false, false, false, false, false, false, false, false, false, false, false, false, false, false, false, false, false] rfl rfl (any_of HT_.out (by kernel_rfl)) (fun _ _ _ h => h) (Or.inl ⟨by rfl, ?_⟩) ?_ ?_
              rotate_left
              ·
               intro w'; go_simp; with_reducible rfl
              rotate_left
              ·
               simp only [AP]; rfl
              refine take_ (i := 3) (N := some 66) (v := ?_) (a' := ?_) #[true, true, true, true, false, false, false, false, false, false, false, false, false, false, false, false, false, false, false, false, false, false, false, false, false, false, false, false, false] rfl rfl (take_ofW HT_.out HW_.out (by kernel_rfl)) (fun _ _ _ h => h) (Or.inl ⟨by rfl, ?_⟩) hHeld ?_ ?_
              rotate_left
              ·
               rintro w' ⟨s0, s1, s2, s3, s4, s5, s6, s7, s8, s9, s10, s11⟩
               go_simp; with_reducible rfl
              rotate_left
              ·
               simp only [AP]; rfl
              refine one_ (i := 4) (N := some 67) #[true, true, true, true, true, false, false, false, false, false, false, false, false, false, false, false, false, false, false, false, false, false, false, false, false, false, false, false, false] rfl rfl (one_of HT_.out (by kernel_rfl)) (by decide) (fun K hK => ?_)
              refine goes_ Try.func26 (by kernel_rfl) rfl #[.agg #[.int .i64 ((rd_T33 l0 x9_3).f0), .int .i64 ((rd_T33 l0 x9_3).f1), .int .i64 ((rd_T33 l0 x9_3).f2)]] (by rfl) rfl rfl (by (try simp only [List.map_toArray, List.map_cons, List.map_nil]); first | done | rfl | (simp only [List.length_drop, List.length_take]; rfl)) ?_
              with_reducible refine (tegularef32_One.calls ((rd_T33 l0 x9_3).f0) ((rd_T33 l0 x9_3).f1) ((rd_T33 l0 x9_3).f2) true _ A20.out).mono ?_
              rintro e w25 ⟨rfl, hb⟩
              refine ⟨_, rfl, ?_⟩
              have n0_ := Aside0.mk (Kd.R_below (rU HO_3.out) hb)
              have n1_ := Aside0.mk (below_step (bU HB.out) hb)
              clear HO_3
              clear HB
              have HO_3 := n0_
              have HB := n1_
              clear n0_ n1_
              (try clear hb)
              (try clear hb2)
              (try clear hk)
              (try clear hi)
              refine hK.out _ _ ⟨((HB.out.cell (World.block_lt_of_cell? w _ hw220_0)).trans hw220_0), ((HB.out.cell (World.block_lt_of_cell? w _ hw220_1)).trans hw220_1), ((HB.out.cell (World.block_lt_of_cell? w _ hw220_2)).trans hw220_2), ((HB.out.cell (World.block_lt_of_cell? w _ hw222_0)).trans hw222_0), ((HB.out.cell (World.block_lt_of_cell? w _ hw222_1)).trans hw222_1), ((HB.out.cell (World.block_lt_of_cell? w _ hw222_2)).trans hw222_2), ((HB.out.cell (World.block_lt_of_cell? w _ hw223_0)).trans hw223_0), ((HB.out.cell (World.block_lt_of_cell? w _ hw223_1)).trans hw223_1), ((HB.out.cell (World.block_lt_of_cell? w _ hw223_2)).trans hw223_2), ((HB.out.cell (World.block_lt_of_cell? w _ hw224_0)).trans hw224_0), ((HB.out.cell (World.block_lt_of_cell? w _ hw224_1)).trans hw224_1), ((HB.out.cell (World.block_lt_of_cell? w _ hw224_2)).trans hw224_2)⟩ (fun hHeld => ?_)
              clear hK K
              refine norm_ (a' := ?_) ?_ ?_
              rotate_left
              ·
               show Act.put _ (some 67) _ = _
               simp only [AP]; rfl
              refine pure_ (i := 5) (N := some 68) (v := ?_) (a' := ?_) #[true, true, true, true, true, true, false, false, false, false, false, false, false, false, false, false, false, false, false, false, false, false, false, false, false, false, false, false, false] rfl rfl (any_of HT_.out (by kernel_rfl)) (fun _ _ _ h => h) (Or.inl ⟨by rfl, ?_⟩) ?_ ?_
              rotate_left
              ·
               intro w'; go_simp; with_reducible rfl
              rotate_left
              ·
               simp only [AP]; rfl
              refine pure_ (i := 6) (N := some 69) (v := ?_) (a' := ?_) #[true, true, true, true, true, true, true, false, false, false, false, false, false, false, false, false, false, false, false, false, false, false, false, false, false, false, false, false, false] rfl rfl (any_of HT_.out (by kernel_rfl)) (fun _ _ _ h => h) (Or.inl ⟨by rfl, ?_⟩) ?_ ?_
              rotate_left
              ·
               intro w'; go_simp; with_reducible rfl
              rotate_left
              ·
               simp only [AP]; rfl
              refine pure_ (i := 7) (N := some 70) (v := ?_) (a' := ?_) #[true, true, true, true, true, true, true, true, false, false, false, false, false, false, false, false, false, false, false, false, false, false, false, false, false, false, false, false, false] rfl rfl (any_of HT_.out (by kernel_rfl)) (fun _ _ _ h => h) (Or.inl ⟨by rfl, ?_⟩) ?_ ?_
              rotate_left
              ·
               intro w'; go_simp; with_reducible rfl
              rotate_left
              ·
               simp only [AP]; rfl
              refine pure_ (i := 8) (N := some 71) (v := ?_) (a' := ?_) #[true, true, true, true, true, true, true, true, true, false, false, false, false, false, false, false, false, false, false, false, false, false, false, false, false, false, false, false, false] rfl rfl (any_of HT_.out (by kernel_rfl)) (fun _ _ _ h => h) (Or.inl ⟨by rfl, ?_⟩) ?_ ?_
              rotate_left
              ·
               intro w'; go_simp; with_reducible rfl
              rotate_left
              ·
               simp only [AP]; rfl
              refine pure_ (i := 9) (N := some 72) (v := ?_) (a' := ?_) #[true, true, true, true, true, true, true, true, true, true, false, false, false, false, false, false, false, false, false, false, false, false, false, false, false, false, false, false, false] rfl rfl (any_of HT_.out (by kernel_rfl)) (fun _ _ _ h => h) (Or.inl ⟨by rfl, ?_⟩) ?_ ?_
              rotate_left
              ·
               intro w'; go_simp; with_reducible rfl
              rotate_left
              ·
               simp only [AP]; rfl
              refine pure_ (i := 11) (N := some 74) (v := ?_) (a' := ?_) #[true, true, true, true, true, true, true, true, true, true, false, true, false, false, false, false, false, false, false, false, false, false, false, false, false, false, false, false, false] rfl rfl (any_of HT_.out (by kernel_rfl)) (fun _ _ _ h => h) (Or.inl ⟨by rfl, ?_⟩) ?_ ?_
              rotate_left
              ·
               intro w'; go_simp; with_reducible rfl
              rotate_left
              ·
               simp only [AP]; rfl
              refine take_ (i := 10) (N := some 73) (v := ?_) (a' := ?_) #[true, true, true, true, true, true, true, true, true, true, true, true, false, false, false, false, false, false, false, false, false, false, false, false, false, false, false, false, false] rfl rfl (take_ofW HT_.out HW_.out (by kernel_rfl)) (fun _ _ _ h => h) (Or.inl ⟨by rfl, ?_⟩) hHeld ?_ ?_
              rotate_left
              ·
               rintro w' ⟨s0, s1, s2, s3, s4, s5, s6, s7, s8, s9, s10, s11⟩
               go_simp; with_reducible rfl
              rotate_left
              ·
               simp only [AP]; rfl
              refine pure_ (i := 12) (N := some 75) (v := ?_) (a' := ?_) #[true, true, true, true, true, true, true, true, true, true, true, true, true, false, false, false, false, false, false, false, false, false, false, false, false, false, false, false, false] rfl rfl (any_of HT_.out (by kernel_rfl)) (fun _ _ _ h => h) (Or.inl ⟨by rfl, ?_⟩) ?_ ?_
              rotate_left
              ·
               intro w'; go_simp; with_reducible rfl
              rotate_left
              ·
               simp only [AP]; rfl
              refine pure_ (i := 13) (N := some 76) (v := ?_) (a' := ?_) #[true, true, true, true, true, true, true, true, true, true, true, true, true, true, false, false, false, false, false, false, false, false, false, false, false, false, false, false, false] rfl rfl (any_of HT_.out (by kernel_rfl)) (fun _ _ _ h => h) (Or.inl ⟨by rfl, ?_⟩) ?_ ?_
              rotate_left
              ·
               intro w'; go_simp; with_reducible rfl
              rotate_left
              ·
               simp only [AP]; rfl
              refine pure_ (i := 14) (N := some 77) (v := ?_) (a' := ?_) #[true, true, true, true, true, true, true, true, true, true, true, true, true, true, true, false, false, false, false, false, false, false, false, false, false, false, false, false, false] rfl rfl (any_of HT_.out (by kernel_rfl)) (fun _ _ _ h => h) (Or.inl ⟨by rfl, ?_⟩) ?_ ?_
              rotate_left
              ·
               intro w'; go_simp; with_reducible rfl
              rotate_left
              ·
               simp only [AP]; rfl
              refine pure_ (i := 15) (N := some 78) (v := ?_) (a' := ?_) #[true, true, true, true, true, true, true, true, true, true, true, true, true, true, true, true, false, false, false, false, false, false, false, false, false, false, false, false, false] rfl rfl (any_of HT_.out (by kernel_rfl)) (fun _ _ _ h => h) (Or.inl ⟨by rfl, ?_⟩) ?_ ?_
              rotate_left
              ·
               intro w'; go_simp; with_reducible rfl
              rotate_left
              ·
               simp only [AP]; rfl
              refine pure_ (i := 16) (N := some 79) (v := ?_) (a' := ?_) #[true, true, true, true, true, true, true, true, true, true, true, true, true, true, true, true, true, false, false, false, false, false, false, false, false, false, false, false, false] rfl rfl (any_of HT_.out (by kernel_rfl)) (fun _ _ _ h => h) (Or.inl ⟨by rfl, ?_⟩) ?_ ?_
              rotate_left
              ·
               intro w'; go_simp; with_reducible rfl
              rotate_left
              ·
               simp only [AP]; rfl
              refine pure_ (i := 17) (N := some 80) (v := ?_) (a' := ?_) #[true, true, true, true, true, true, true, true, true, true, true, true, true, true, true, true, true, true, false, false, false, false, false, false, false, false, false, false, false] rfl rfl (any_of HT_.out (by kernel_rfl)) (fun _ _ _ h => h) (Or.inl ⟨by rfl, ?_⟩) ?_ ?_
              rotate_left
              ·
               intro w'; go_simp; with_reducible rfl
              rotate_left
              ·
               simp only [AP]; rfl
              refine pure_ (i := 18) (N := some 81) (v := ?_) (a' := ?_) #[true, true, true, true, true, true, true, true, true, true, true, true, true, true, true, true, true, true, true, false, false, false, false, false, false, false, false, false, false] rfl rfl (any_of HT_.out (by kernel_rfl)) (fun _ _ _ h => h) (Or.inl ⟨by rfl, ?_⟩) ?_ ?_
              rotate_left
              ·
               intro w'; go_simp; with_reducible rfl
              rotate_left
              ·
               simp only [AP]; rfl
              refine pure_ (i := 20) (N := some 83) (v := ?_) (a' := ?_) #[true, true, true, true, true, true, true, true, true, true, true, true, true, true, true, true, true, true, true, false, true, false, false, false, false, false, false, false, false] rfl rfl (any_of HT_.out (by kernel_rfl)) (fun _ _ _ h => h) (Or.inl ⟨by rfl, ?_⟩) ?_ ?_
              rotate_left
              ·
               intro w'; go_simp; with_reducible rfl
              rotate_left
              ·
               simp only [AP]; rfl
              refine pure_ (i := 21) (N := some 84) (v := ?_) (a' := ?_) #[true, true, true, true, true, true, true, true, true, true, true, true, true, true, true, true, true, true, true, false, true, true, false, false, false, false, false, false, false] rfl rfl (any_of HT_.out (by kernel_rfl)) (fun _ _ _ h => h) (Or.inl ⟨by rfl, ?_⟩) ?_ ?_
              rotate_left
              ·
               intro w'; go_simp; with_reducible rfl
              rotate_left
              ·
               simp only [AP]; rfl
              refine pure_ (i := 22) (N := some 85) (v := ?_) (a' := ?_) #[true, true, true, true, true, true, true, true, true, true, true, true, true, true, true, true, true, true, true, false, true, true, true, false, false, false, false, false, false] rfl rfl (any_of HT_.out (by kernel_rfl)) (fun _ _ _ h => h) (Or.inl ⟨by rfl, ?_⟩) ?_ ?_
              rotate_left
              ·
               intro w'; go_simp; with_reducible rfl
              rotate_left
              ·
               simp only [AP]; rfl
              refine pure_ (i := 23) (N := some 86) (v := ?_) (a' := ?_) #[true, true, true, true, true, true, true, true, true, true, true, true, true, true, true, true, true, true, true, false, true, true, true, true, false, false, false, false, false] rfl rfl (any_of HT_.out (by kernel_rfl)) (fun _ _ _ h => h) (Or.inl ⟨by rfl, ?_⟩) ?_ ?_
              rotate_left
              ·
               intro w'; go_simp; with_reducible rfl
              rotate_left
              ·
               simp only [AP]; rfl
              refine pure_ (i := 26) (N := some 89) (v := ?_) (a' := ?_) #[true, true, true, true, true, true, true, true, true, true, true, true, true, true, true, true, true, true, true, false, true, true, true, true, false, false, true, false, false] rfl rfl (any_of HT_.out (by kernel_rfl)) (fun _ _ _ h => h) (Or.inl ⟨by rfl, ?_⟩) ?_ ?_
              rotate_left
              ·
               intro w'; go_simp; with_reducible rfl
              rotate_left
              ·
               simp only [AP]; rfl
              refine take_ (i := 19) (N := some 82) (v := ?_) (a' := ?_) #[true, true, true, true, true, true, true, true, true, true, true, true, true, true, true, true, true, true, true, true, true, true, true, true, false, false, true, false, false] rfl rfl (take_ofW HT_.out HW_.out (by kernel_rfl)) (fun _ _ _ h => h) (Or.inl ⟨by rfl, ?_⟩) hHeld ?_ ?_
              rotate_left
              ·
               rintro w' ⟨s0, s1, s2, s3, s4, s5, s6, s7, s8, s9, s10, s11⟩
               go_simp; with_reducible rfl
              rotate_left
              ·
               simp only [AP]; rfl
              refine take_ (i := 24) (N := some 87) (v := ?_) (a' := ?_) #[true, true, true, true, true, true, true, true, true, true, true, true, true, true, true, true, true, true, true, true, true, true, true, true, true, false, true, false, false] rfl rfl (take_ofW HT_.out HW_.out (by kernel_rfl)) (fun _ _ _ h => h) (Or.inl ⟨by rfl, ?_⟩) hHeld ?_ ?_
              rotate_left
              ·
               rintro w' ⟨s0, s1, s2, s3, s4, s5, s6, s7, s8, s9, s10, s11⟩
               go_simp; with_reducible rfl
              rotate_left
              ·
               simp only [AP]; rfl
              refine pure_ (i := 25) (N := some 88) (v := ?_) (a' := ?_) #[true, true, true, true, true, true, true, true, true, true, true, true, true, true, true, true, true, true, true, true, true, true, true, true, true, true, true, false, false] rfl rfl (any_of HT_.out (by kernel_rfl)) (fun _ _ _ h => h) (Or.inl ⟨by rfl, ?_⟩) ?_ ?_
              rotate_left
              ·
               intro w'; go_simp; with_reducible rfl
              rotate_left
              ·
               simp only [AP]; rfl
              refine pure_ (i := 27) (N := some 90) (v := ?_) (a' := ?_) #[true, true, true, true, true, true, true, true, true, true, true, true, true, true, true, true, true, true, true, true, true, true, true, true, true, true, true, true, false] rfl rfl (any_of HT_.out (by kernel_rfl)) (fun _ _ _ h => h) (Or.inl ⟨by rfl, ?_⟩) ?_ ?_
              rotate_left
              ·
               intro w'; go_simp; with_reducible rfl
              rotate_left
              ·
               simp only [AP]; rfl
              refine pure_ (i := 28) (N := some 91) (v := ?_) (a' := ?_) #[true, true, true, true, true, true, true, true, true, true, true, true, true, true, true, true, true, true, true, true, true, true, true, true, true, true, true, true, true] rfl rfl (any_of HT_.out (by kernel_rfl)) (fun _ _ _ h => h) (Or.inl ⟨by rfl, ?_⟩) ?_ ?_
              rotate_left
              ·
               intro w'; go_simp; with_reducible rfl
              rotate_left
              ·
               simp only [AP]; rfl
              refine done_ (done_of HT_.out (by kernel_rfl)) ?_
              try go_wp2
              have n0_ := Aside0.mk (Kd.R_drew HO_3.out)
              have n1_ := Aside0.mk (below_drew1 HB.out)
              clear HO_3
              clear HB
              have HO_3 := n0_
              have HB := n1_
              clear n0_ n1_
              have p225 : 0 ≤ (x9_3 : Int) := of_decide_eq_true (by first | (with_reducible assumption) | assumption)
              have q225 : x9_3 < (l0.length : Int) := of_decide_eq_true (by first | (with_reducible assumption) | assumption)
              obtain ⟨ad225, e225, hx225_0, hx225_1, hx225_2⟩ := at_T33 HR0.out x9_3 p225 q225
              have hw225_2 := hx225_2
              have hw225_1 := hx225_1
              have hw225_0 := hx225_0
              obtain rfl : ad220 = ad225 := (by injection e225)
              replace hx225_0 := (HB.out.cell (World.block_lt_of_cell? w _ hx225_0)).trans hx225_0
              replace hx225_1 := (HB.out.cell (World.block_lt_of_cell? w _ hx225_1)).trans hx225_1
              replace hx225_2 := (HB.out.cell (World.block_lt_of_cell? w _ hx225_2)).trans hx225_2
              replace p225 := eq_true p225
              replace q225 := eq_true q225
              have p226 : 0 ≤ (x9_3 : Int) := of_decide_eq_true (by first | (with_reducible assumption) | assumption)
              have q226 : x9_3 < (l0.length : Int) := of_decide_eq_true (by first | (with_reducible assumption) | assumption)
              obtain ⟨ad226, e226, hx226_0, hx226_1, hx226_2⟩ := at_T33 HR0.out x9_3 p226 q226
              have hw226_2 := hx226_2
              have hw226_1 := hx226_1
              have hw226_0 := hx226_0
              obtain rfl : ad220 = ad226 := (by injection e226)
              replace hx226_0 := (HB.out.cell (World.block_lt_of_cell? w _ hx226_0)).trans hx226_0
              replace hx226_1 := (HB.out.cell (World.block_lt_of_cell? w _ hx226_1)).trans hx226_1
              replace hx226_2 := (HB.out.cell (World.block_lt_of_cell? w _ hx226_2)).trans hx226_2
              replace p226 := eq_true p226
              replace q226 := eq_true q226
              refine start_ (n := 12) (S := fun w' => w'.cell? (ad220.add ((x9_3).toNat * 3)) = some (.int .i64 ((rd_T33 l0 x9_3).f0)) ∧ w'.cell? ⟨(ad220.add ((x9_3).toNat * 3)).block, (ad220.add ((x9_3).toNat * 3)).off + 1, none⟩ = some (.int .i64 ((rd_T33 l0 x9_3).f1)) ∧ w'.cell? ⟨(ad220.add ((x9_3).toNat * 3)).block, (ad220.add ((x9_3).toNat * 3)).off + 2, none⟩ = some (.int .i64 ((rd_T33 l0 x9_3).f2)) ∧ w'.cell? (ad220.add ((x9_3).toNat * 3)) = some (.int .i64 ((rd_T33 l0 x9_3).f0)) ∧ w'.cell? ⟨(ad220.add ((x9_3).toNat * 3)).block, (ad220.add ((x9_3).toNat * 3)).off + 1, none⟩ = some (.int .i64 ((rd_T33 l0 x9_3).f1)) ∧ w'.cell? ⟨(ad220.add ((x9_3).toNat * 3)).block, (ad220.add ((x9_3).toNat * 3)).off + 2, none⟩ = some (.int .i64 ((rd_T33 l0 x9_3).f2))) (ds := []) #[false, false, false, false, false, false, false, false, false, false, false, false] (by kernel_rfl) rfl rfl ⟨((HB.out.cell (World.block_lt_of_cell? w _ hw225_0)).trans hw225_0), ((HB.out.cell (World.block_lt_of_cell? w _ hw225_1)).trans hw225_1), ((HB.out.cell (World.block_lt_of_cell? w _ hw225_2)).trans hw225_2), ((HB.out.cell (World.block_lt_of_cell? w _ hw226_0)).trans hw226_0), ((HB.out.cell (World.block_lt_of_cell? w _ hw226_1)).trans hw226_1), ((HB.out.cell (World.block_lt_of_cell? w _ hw226_2)).trans hw226_2)⟩ (fun hHeld => ?_); refine with_tabW tegularef32_Runs.tab18 tegularef32_Runs.bits18 (fun HT_ HW_ => ?_)
              generalize w25.drew = w26 at HO_3 HB hx225_0 hx225_1 hx225_2 hx226_0 hx226_1 hx226_2 hHeld ⊢
              refine pure_ (i := 0) (N := some 92) (v := ?_) (a' := ?_) #[true, false, false, false, false, false, false, false, false, false, false, false] rfl rfl (any_of HT_.out (by kernel_rfl)) (fun _ _ _ h => h) (Or.inl ⟨by rfl, ?_⟩) ?_ ?_
              rotate_left
              ·
               intro w'; go_simp; with_reducible rfl
              rotate_left
              ·
               simp only [AP]; rfl
              refine pure_ (i := 1) (N := some 93) (v := ?_) (a' := ?_) #[true, true, false, false, false, false, false, false, false, false, false, false] rfl rfl (any_of HT_.out (by kernel_rfl)) (fun _ _ _ h => h) (Or.inl ⟨by rfl, ?_⟩) ?_ ?_
              rotate_left
              ·
               intro w'; go_simp; with_reducible rfl
              rotate_left
              ·
               simp only [AP]; rfl
              refine pure_ (i := 2) (N := some 94) (v := ?_) (a' := ?_) #[true, true, true, false, false, false, false, false, false, false, false, false] rfl rfl (any_of HT_.out (by kernel_rfl)) (fun _ _ _ h => h) (Or.inl ⟨by rfl, ?_⟩) ?_ ?_
              rotate_left
              ·
               intro w'; go_simp; with_reducible rfl
              rotate_left
              ·
               simp only [AP]; rfl
              refine pure_ (i := 3) (N := some 95) (v := ?_) (a' := ?_) #[true, true, true, true, false, false, false, false, false, false, false, false] rfl rfl (any_of HT_.out (by kernel_rfl)) (fun _ _ _ h => h) (Or.inl ⟨by rfl, ?_⟩) ?_ ?_
              rotate_left
              ·
               intro w'; go_simp; with_reducible rfl
              rotate_left
              ·
               simp only [AP]; rfl
              refine pure_ (i := 5) (N := some 97) (v := ?_) (a' := ?_) #[true, true, true, true, false, true, false, false, false, false, false, false] rfl rfl (any_of HT_.out (by kernel_rfl)) (fun _ _ _ h => h) (Or.inl ⟨by rfl, ?_⟩) ?_ ?_
              rotate_left
              ·
               intro w'; go_simp; with_reducible rfl
              rotate_left
              ·
               simp only [AP]; rfl
              refine pure_ (i := 6) (N := some 98) (v := ?_) (a' := ?_) #[true, true, true, true, false, true, true, false, false, false, false, false] rfl rfl (any_of HT_.out (by kernel_rfl)) (fun _ _ _ h => h) (Or.inl ⟨by rfl, ?_⟩) ?_ ?_
              rotate_left
              ·
               intro w'; go_simp; with_reducible rfl
              rotate_left
              ·
               simp only [AP]; rfl
              refine pure_ (i := 7) (N := some 99) (v := ?_) (a' := ?_) #[true, true, true, true, false, true, true, true, false, false, false, false] rfl rfl (any_of HT_.out (by kernel_rfl)) (fun _ _ _ h => h) (Or.inl ⟨by rfl, ?_⟩) ?_ ?_
              rotate_left
              ·
               intro w'; go_simp; with_reducible rfl
              rotate_left
              ·
               simp only [AP]; rfl
              refine pure_ (i := 8) (N := some 100) (v := ?_) (a' := ?_) #[true, true, true, true, false, true, true, true, true, false, false, false] rfl rfl (any_of HT_.out (by kernel_rfl)) (fun _ _ _ h => h) (Or.inl ⟨by rfl, ?_⟩) ?_ ?_
              rotate_left
              ·
               intro w'; go_simp; with_reducible rfl
              rotate_left
              ·
               simp only [AP]; rfl
              refine take_ (i := 4) (N := some 96) (v := ?_) (a' := ?_) #[true, true, true, true, true, true, true, true, true, false, false, false] rfl rfl (take_ofW HT_.out HW_.out (by kernel_rfl)) (fun _ _ _ h => h) (Or.inl ⟨by rfl, ?_⟩) hHeld ?_ ?_
              rotate_left
              ·
               rintro w' ⟨s0, s1, s2, s3, s4, s5⟩
               go_simp; with_reducible rfl
              rotate_left
              ·
               simp only [AP]; rfl
              refine take_ (i := 9) (N := some 101) (v := ?_) (a' := ?_) #[true, true, true, true, true, true, true, true, true, true, false, false] rfl rfl (take_ofW HT_.out HW_.out (by kernel_rfl)) (fun _ _ _ h => h) (Or.inl ⟨by rfl, ?_⟩) hHeld ?_ ?_
              rotate_left
              ·
               rintro w' ⟨s0, s1, s2, s3, s4, s5⟩
               go_simp; with_reducible rfl
              rotate_left
              ·
               simp only [AP]; rfl
              refine pure_ (i := 10) (N := some 102) (v := ?_) (a' := ?_) #[true, true, true, true, true, true, true, true, true, true, true, false] rfl rfl (any_of HT_.out (by kernel_rfl)) (fun _ _ _ h => h) (Or.inl ⟨by rfl, ?_⟩) ?_ ?_
              rotate_left
              ·
               intro w'; go_simp; with_reducible rfl
              rotate_left
              ·
               simp only [AP]; rfl
              refine pure_ (i := 11) (N := some 4) (v := ?_) (a' := ?_) #[true, true, true, true, true, true, true, true, true, true, true, true] rfl rfl (any_of HT_.out (by kernel_rfl)) (fun _ _ _ h => h) (Or.inl ⟨by rfl, ?_⟩) ?_ ?_
              rotate_left
              ·
               intro w'; go_simp; with_reducible rfl
              rotate_left
              ·
               simp only [AP]; rfl
              refine done_ (done_of HT_.out (by kernel_rfl)) ?_
              try go_wp2
              go_roundg k3
              case measure => have := HK1.out; have := HK2.out; have := HK3.out; omega
              case rel => exact ⟨(wrap64 (((rd_T33 l0 x9_3).f2) + ((rd_T33 l0 x9_3).f1))), (wrap64 (x9_3 + 1)), (by first | rfl | (simp; done) | (simp [*]; done)), (by first | rfl | (simp; done) | (simp [*]; done)), H', ⟨by have := HK1.out; have := HK2.out; have := HK3.out; omega⟩, ⟨rU HO_3.out⟩, ⟨bU HB.out⟩⟩
             ·
              rw [if_neg c23] at H
              have c23b0 := decide_eq_false c23
              clear c23
              have H' := Aside0.mk H
              clear H
              try go_wp2
              have n0_ := Aside0.mk (Kd.R_drew HO_3.out)
              have n1_ := Aside0.mk (below_drew1 HB.out)
              clear HO_3
              clear HB
              have HO_3 := n0_
              have HB := n1_
              clear n0_ n1_
              have p220 : 0 ≤ (x9_3 : Int) := of_decide_eq_true (by first | (with_reducible assumption) | assumption)
              have q220 : x9_3 < (l0.length : Int) := of_decide_eq_true (by first | (with_reducible assumption) | assumption)
              obtain ⟨ad220, e220, hx220_0, hx220_1, hx220_2⟩ := at_T33 HR0.out x9_3 p220 q220
              have hw220_2 := hx220_2
              have hw220_1 := hx220_1
              have hw220_0 := hx220_0
              cases e220
              replace hx220_0 := (HB.out.cell (World.block_lt_of_cell? w _ hx220_0)).trans hx220_0
              replace hx220_1 := (HB.out.cell (World.block_lt_of_cell? w _ hx220_1)).trans hx220_1
              replace hx220_2 := (HB.out.cell (World.block_lt_of_cell? w _ hx220_2)).trans hx220_2
              replace p220 := eq_true p220
              replace q220 := eq_true q220
              have p222 : 0 ≤ (x9_3 : Int) := of_decide_eq_true (by first | (with_reducible assumption) | assumption)
              have q222 : x9_3 < (l0.length : Int) := of_decide_eq_true (by first | (with_reducible assumption) | assumption)
              obtain ⟨ad222, e222, hx222_0, hx222_1, hx222_2⟩ := at_T33 HR0.out x9_3 p222 q222
              have hw222_2 := hx222_2
              have hw222_1 := hx222_1
              have hw222_0 := hx222_0
              obtain rfl : ad220 = ad222 := (by injection e222)
              replace hx222_0 := (HB.out.cell (World.block_lt_of_cell? w _ hx222_0)).trans hx222_0
              replace hx222_1 := (HB.out.cell (World.block_lt_of_cell? w _ hx222_1)).trans hx222_1
              replace hx222_2 := (HB.out.cell (World.block_lt_of_cell? w _ hx222_2)).trans hx222_2
              replace p222 := eq_true p222
              replace q222 := eq_true q222
              have p223 : 0 ≤ (x9_3 : Int) := of_decide_eq_true (by first | (with_reducible assumption) | assumption)
              have q223 : x9_3 < (l0.length : Int) := of_decide_eq_true (by first | (with_reducible assumption) | assumption)
              obtain ⟨ad223, e223, hx223_0, hx223_1, hx223_2⟩ := at_T33 HR0.out x9_3 p223 q223
              have hw223_2 := hx223_2
              have hw223_1 := hx223_1
              have hw223_0 := hx223_0
              obtain rfl : ad220 = ad223 := (by injection e223)
              replace hx223_0 := (HB.out.cell (World.block_lt_of_cell? w _ hx223_0)).trans hx223_0
              replace hx223_1 := (HB.out.cell (World.block_lt_of_cell? w _ hx223_1)).trans hx223_1
              replace hx223_2 := (HB.out.cell (World.block_lt_of_cell? w _ hx223_2)).trans hx223_2
              replace p223 := eq_true p223
              replace q223 := eq_true q223
              have p224 : 0 ≤ (x9_3 : Int) := of_decide_eq_true (by first | (with_reducible assumption) | assumption)
              have q224 : x9_3 < (l0.length : Int) := of_decide_eq_true (by first | (with_reducible assumption) | assumption)
              obtain ⟨ad224, e224, hx224_0, hx224_1, hx224_2⟩ := at_T33 HR0.out x9_3 p224 q224
              have hw224_2 := hx224_2
              have hw224_1 := hx224_1
              have hw224_0 := hx224_0
              obtain rfl : ad220 = ad224 := (by injection e224)
              replace hx224_0 := (HB.out.cell (World.block_lt_of_cell? w _ hx224_0)).trans hx224_0
              replace hx224_1 := (HB.out.cell (World.block_lt_of_cell? w _ hx224_1)).trans hx224_1
              replace hx224_2 := (HB.out.cell (World.block_lt_of_cell? w _ hx224_2)).trans hx224_2
              replace p224 := eq_true p224
              replace q224 := eq_true q224
              refine start_ (n := 29) (S := fun w' => w'.cell? (ad220.add ((x9_3).toNat * 3)) = some (.int .i64 ((rd_T33 l0 x9_3).f0)) ∧ w'.cell? ⟨(ad220.add ((x9_3).toNat * 3)).block, (ad220.add ((x9_3).toNat * 3)).off + 1, none⟩ = some (.int .i64 ((rd_T33 l0 x9_3).f1)) ∧ w'.cell? ⟨(ad220.add ((x9_3).toNat * 3)).block, (ad220.add ((x9_3).toNat * 3)).off + 2, none⟩ = some (.int .i64 ((rd_T33 l0 x9_3).f2)) ∧ w'.cell? (ad220.add ((x9_3).toNat * 3)) = some (.int .i64 ((rd_T33 l0 x9_3).f0)) ∧ w'.cell? ⟨(ad220.add ((x9_3).toNat * 3)).block, (ad220.add ((x9_3).toNat * 3)).off + 1, none⟩ = some (.int .i64 ((rd_T33 l0 x9_3).f1)) ∧ w'.cell? ⟨(ad220.add ((x9_3).toNat * 3)).block, (ad220.add ((x9_3).toNat * 3)).off + 2, none⟩ = some (.int .i64 ((rd_T33 l0 x9_3).f2)) ∧ w'.cell? (ad220.add ((x9_3).toNat * 3)) = some (.int .i64 ((rd_T33 l0 x9_3).f0)) ∧ w'.cell? ⟨(ad220.add ((x9_3).toNat * 3)).block, (ad220.add ((x9_3).toNat * 3)).off + 1, none⟩ = some (.int .i64 ((rd_T33 l0 x9_3).f1)) ∧ w'.cell? ⟨(ad220.add ((x9_3).toNat * 3)).block, (ad220.add ((x9_3).toNat * 3)).off + 2, none⟩ = some (.int .i64 ((rd_T33 l0 x9_3).f2)) ∧ w'.cell? (ad220.add ((x9_3).toNat * 3)) = some (.int .i64 ((rd_T33 l0 x9_3).f0)) ∧ w'.cell? ⟨(ad220.add ((x9_3).toNat * 3)).block, (ad220.add ((x9_3).toNat * 3)).off + 1, none⟩ = some (.int .i64 ((rd_T33 l0 x9_3).f1)) ∧ w'.cell? ⟨(ad220.add ((x9_3).toNat * 3)).block, (ad220.add ((x9_3).toNat * 3)).off + 2, none⟩ = some (.int .i64 ((rd_T33 l0 x9_3).f2))) (ds := []) #[false, false, false, false, false, false, false, false, false, false, false, false, false, false, false, false, false, false, false, false, false, false, false, false, false, false, false, false, false] (by kernel_rfl) rfl rfl ⟨((HB.out.cell (World.block_lt_of_cell? w _ hw220_0)).trans hw220_0), ((HB.out.cell (World.block_lt_of_cell? w _ hw220_1)).trans hw220_1), ((HB.out.cell (World.block_lt_of_cell? w _ hw220_2)).trans hw220_2), ((HB.out.cell (World.block_lt_of_cell? w _ hw222_0)).trans hw222_0), ((HB.out.cell (World.block_lt_of_cell? w _ hw222_1)).trans hw222_1), ((HB.out.cell (World.block_lt_of_cell? w _ hw222_2)).trans hw222_2), ((HB.out.cell (World.block_lt_of_cell? w _ hw223_0)).trans hw223_0), ((HB.out.cell (World.block_lt_of_cell? w _ hw223_1)).trans hw223_1), ((HB.out.cell (World.block_lt_of_cell? w _ hw223_2)).trans hw223_2), ((HB.out.cell (World.block_lt_of_cell? w _ hw224_0)).trans hw224_0), ((HB.out.cell (World.block_lt_of_cell? w _ hw224_1)).trans hw224_1), ((HB.out.cell (World.block_lt_of_cell? w _ hw224_2)).trans hw224_2)⟩ (fun hHeld => ?_); refine with_tabW tegularef32_Runs.tab17 tegularef32_Runs.bits17 (fun HT_ HW_ => ?_)
              generalize wr.drew = w27 at HO_3 HB hx220_0 hx220_1 hx220_2 hx222_0 hx222_1 hx222_2 hx223_0 hx223_1 hx223_2 hx224_0 hx224_1 hx224_2 hHeld ⊢
              refine pure_ (i := 0) (N := some 63) (v := ?_) (a' := ?_) #[true, false, false, false, false, false, false, false, false, false, false, false, false, false, false, false, false, false, false, false, false, false, false, false, false, false, false, false, false] rfl rfl (any_of HT_.out (by kernel_rfl)) (fun _ _ _ h => h) (Or.inl ⟨by rfl, ?_⟩) ?_ ?_
              rotate_left
              ·
               intro w'; go_simp; with_reducible rfl
              rotate_left
              ·
               simp only [AP]; rfl
              refine pure_ (i := 1) (N := some 64) (v := ?_) (a' := ?_) #[true, true, false, false, false, false, false, false, false, false, false, false, false, false, false, false, false, false, false, false, false, false, false, false, false, false, false, false, false] rfl rfl (any_of HT_.out (by kernel_rfl)) (fun _ _ _ h => h) (Or.inl ⟨by rfl, ?_⟩) ?_ ?_
              rotate_left
              ·
               intro w'; go_simp; with_reducible rfl
              rotate_left
              ·
               simp only [AP]; rfl
              refine pure_ (i := 2) (N := some 65) (v := ?_) (a' := ?_) #[true, true, true, false, false, false, false, false, false, false, false, false, false, false, false, false, false, false, false, false, false, false, false, false, false, false, false, false, false] rfl rfl (any_of HT_.out (by kernel_rfl)) (fun _ _ _ h => h) (Or.inl ⟨by rfl, ?_⟩) ?_ ?_
              rotate_left
              ·
               intro w'; go_simp; with_reducible rfl
              rotate_left
              ·
               simp only [AP]; rfl
              refine take_ (i := 3) (N := some 66) (v := ?_) (a' := ?_) #[true, true, true, true, false, false, false, false, false, false, false, false, false, false, false, false, false, false, false, false, false, false, false, false, false, false, false, false, false] rfl rfl (take_ofW HT_.out HW_.out (by kernel_rfl)) (fun _ _ _ h => h) (Or.inl ⟨by rfl, ?_⟩) hHeld ?_ ?_
              rotate_left
              ·
               rintro w' ⟨s0, s1, s2, s3, s4, s5, s6, s7, s8, s9, s10, s11⟩
               go_simp; with_reducible rfl
              rotate_left
              ·
               simp only [AP]; rfl
              refine one_ (i := 4) (N := some 67) #[true, true, true, true, true, false, false, false, false, false, false, false, false, false, false, false, false, false, false, false, false, false, false, false, false, false, false, false, false] rfl rfl (one_of HT_.out (by kernel_rfl)) (by decide) (fun K hK => ?_)
              refine goes_ Try.func26 (by kernel_rfl) rfl #[.agg #[.int .i64 ((rd_T33 l0 x9_3).f0), .int .i64 ((rd_T33 l0 x9_3).f1), .int .i64 ((rd_T33 l0 x9_3).f2)]] (by rfl) rfl rfl (by (try simp only [List.map_toArray, List.map_cons, List.map_nil]); first | done | rfl | (simp only [List.length_drop, List.length_take]; rfl)) ?_
              with_reducible refine (tegularef32_One.calls ((rd_T33 l0 x9_3).f0) ((rd_T33 l0 x9_3).f1) ((rd_T33 l0 x9_3).f2) true _ A20.out).mono ?_
              rintro e w28 ⟨rfl, hb⟩
              refine ⟨_, rfl, ?_⟩
              have n0_ := Aside0.mk (Kd.R_below (rU HO_3.out) hb)
              have n1_ := Aside0.mk (below_step (bU HB.out) hb)
              clear HO_3
              clear HB
              have HO_3 := n0_
              have HB := n1_
              clear n0_ n1_
              (try clear hb)
              (try clear hb2)
              (try clear hk)
              (try clear hi)
              refine hK.out _ _ ⟨((HB.out.cell (World.block_lt_of_cell? w _ hw220_0)).trans hw220_0), ((HB.out.cell (World.block_lt_of_cell? w _ hw220_1)).trans hw220_1), ((HB.out.cell (World.block_lt_of_cell? w _ hw220_2)).trans hw220_2), ((HB.out.cell (World.block_lt_of_cell? w _ hw222_0)).trans hw222_0), ((HB.out.cell (World.block_lt_of_cell? w _ hw222_1)).trans hw222_1), ((HB.out.cell (World.block_lt_of_cell? w _ hw222_2)).trans hw222_2), ((HB.out.cell (World.block_lt_of_cell? w _ hw223_0)).trans hw223_0), ((HB.out.cell (World.block_lt_of_cell? w _ hw223_1)).trans hw223_1), ((HB.out.cell (World.block_lt_of_cell? w _ hw223_2)).trans hw223_2), ((HB.out.cell (World.block_lt_of_cell? w _ hw224_0)).trans hw224_0), ((HB.out.cell (World.block_lt_of_cell? w _ hw224_1)).trans hw224_1), ((HB.out.cell (World.block_lt_of_cell? w _ hw224_2)).trans hw224_2)⟩ (fun hHeld => ?_)
              clear hK K
              refine norm_ (a' := ?_) ?_ ?_
              rotate_left
              ·
               show Act.put _ (some 67) _ = _
               simp only [AP]; rfl
              refine pure_ (i := 5) (N := some 68) (v := ?_) (a' := ?_) #[true, true, true, true, true, true, false, false, false, false, false, false, false, false, false, false, false, false, false, false, false, false, false, false, false, false, false, false, false] rfl rfl (any_of HT_.out (by kernel_rfl)) (fun _ _ _ h => h) (Or.inl ⟨by rfl, ?_⟩) ?_ ?_
              rotate_left
              ·
               intro w'; go_simp; with_reducible rfl
              rotate_left
              ·
               simp only [AP]; rfl
              refine pure_ (i := 6) (N := some 69) (v := ?_) (a' := ?_) #[true, true, true, true, true, true, true, false, false, false, false, false, false, false, false, false, false, false, false, false, false, false, false, false, false, false, false, false, false] rfl rfl (any_of HT_.out (by kernel_rfl)) (fun _ _ _ h => h) (Or.inl ⟨by rfl, ?_⟩) ?_ ?_
              rotate_left
              ·
               intro w'; go_simp; with_reducible rfl
              rotate_left
              ·
               simp only [AP]; rfl
              refine pure_ (i := 7) (N := some 70) (v := ?_) (a' := ?_) #[true, true, true, true, true, true, true, true, false, false, false, false, false, false, false, false, false, false, false, false, false, false, false, false, false, false, false, false, false] rfl rfl (any_of HT_.out (by kernel_rfl)) (fun _ _ _ h => h) (Or.inl ⟨by rfl, ?_⟩) ?_ ?_
              rotate_left
              ·
               intro w'; go_simp; with_reducible rfl
              rotate_left
              ·
               simp only [AP]; rfl
              refine pure_ (i := 8) (N := some 71) (v := ?_) (a' := ?_) #[true, true, true, true, true, true, true, true, true, false, false, false, false, false, false, false, false, false, false, false, false, false, false, false, false, false, false, false, false] rfl rfl (any_of HT_.out (by kernel_rfl)) (fun _ _ _ h => h) (Or.inl ⟨by rfl, ?_⟩) ?_ ?_
              rotate_left
              ·
               intro w'; go_simp; with_reducible rfl
              rotate_left
              ·
               simp only [AP]; rfl
              refine pure_ (i := 9) (N := some 72) (v := ?_) (a' := ?_) #[true, true, true, true, true, true, true, true, true, true, false, false, false, false, false, false, false, false, false, false, false, false, false, false, false, false, false, false, false] rfl rfl (any_of HT_.out (by kernel_rfl)) (fun _ _ _ h => h) (Or.inl ⟨by rfl, ?_⟩) ?_ ?_
              rotate_left
              ·
               intro w'; go_simp; with_reducible rfl
              rotate_left
              ·
               simp only [AP]; rfl
              refine pure_ (i := 11) (N := some 74) (v := ?_) (a' := ?_) #[true, true, true, true, true, true, true, true, true, true, false, true, false, false, false, false, false, false, false, false, false, false, false, false, false, false, false, false, false] rfl rfl (any_of HT_.out (by kernel_rfl)) (fun _ _ _ h => h) (Or.inl ⟨by rfl, ?_⟩) ?_ ?_
              rotate_left
              ·
               intro w'; go_simp; with_reducible rfl
              rotate_left
              ·
               simp only [AP]; rfl
              refine take_ (i := 10) (N := some 73) (v := ?_) (a' := ?_) #[true, true, true, true, true, true, true, true, true, true, true, true, false, false, false, false, false, false, false, false, false, false, false, false, false, false, false, false, false] rfl rfl (take_ofW HT_.out HW_.out (by kernel_rfl)) (fun _ _ _ h => h) (Or.inl ⟨by rfl, ?_⟩) hHeld ?_ ?_
              rotate_left
              ·
               rintro w' ⟨s0, s1, s2, s3, s4, s5, s6, s7, s8, s9, s10, s11⟩
               go_simp; with_reducible rfl
              rotate_left
              ·
               simp only [AP]; rfl
              refine pure_ (i := 12) (N := some 75) (v := ?_) (a' := ?_) #[true, true, true, true, true, true, true, true, true, true, true, true, true, false, false, false, false, false, false, false, false, false, false, false, false, false, false, false, false] rfl rfl (any_of HT_.out (by kernel_rfl)) (fun _ _ _ h => h) (Or.inl ⟨by rfl, ?_⟩) ?_ ?_
              rotate_left
              ·
               intro w'; go_simp; with_reducible rfl
              rotate_left
              ·
               simp only [AP]; rfl
              refine pure_ (i := 13) (N := some 76) (v := ?_) (a' := ?_) #[true, true, true, true, true, true, true, true, true, true, true, true, true, true, false, false, false, false, false, false, false, false, false, false, false, false, false, false, false] rfl rfl (any_of HT_.out (by kernel_rfl)) (fun _ _ _ h => h) (Or.inl ⟨by rfl, ?_⟩) ?_ ?_
              rotate_left
              ·
               intro w'; go_simp; with_reducible rfl
              rotate_left
              ·
               simp only [AP]; rfl
              refine pure_ (i := 14) (N := some 77) (v := ?_) (a' := ?_) #[true, true, true, true, true, true, true, true, true, true, true, true, true, true, true, false, false, false, false, false, false, false, false, false, false, false, false, false, false] rfl rfl (any_of HT_.out (by kernel_rfl)) (fun _ _ _ h => h) (Or.inl ⟨by rfl, ?_⟩) ?_ ?_
              rotate_left
              ·
               intro w'; go_simp; with_reducible rfl
              rotate_left
              ·
               simp only [AP]; rfl
              refine pure_ (i := 15) (N := some 78) (v := ?_) (a' := ?_) #[true, true, true, true, true, true, true, true, true, true, true, true, true, true, true, true, false, false, false, false, false, false, false, false, false, false, false, false, false] rfl rfl (any_of HT_.out (by kernel_rfl)) (fun _ _ _ h => h) (Or.inl ⟨by rfl, ?_⟩) ?_ ?_
              rotate_left
              ·
               intro w'; go_simp; with_reducible rfl
              rotate_left
              ·
               simp only [AP]; rfl
              refine pure_ (i := 16) (N := some 79) (v := ?_) (a' := ?_) #[true, true, true, true, true, true, true, true, true, true, true, true, true, true, true, true, true, false, false, false, false, false, false, false, false, false, false, false, false] rfl rfl (any_of HT_.out (by kernel_rfl)) (fun _ _ _ h => h) (Or.inl ⟨by rfl, ?_⟩) ?_ ?_
              rotate_left
              ·
               intro w'; go_simp; with_reducible rfl
              rotate_left
              ·
               simp only [AP]; rfl
              refine pure_ (i := 17) (N := some 80) (v := ?_) (a' := ?_) #[true, true, true, true, true, true, true, true, true, true, true, true, true, true, true, true, true, true, false, false, false, false, false, false, false, false, false, false, false] rfl rfl (any_of HT_.out (by kernel_rfl)) (fun _ _ _ h => h) (Or.inl ⟨by rfl, ?_⟩) ?_ ?_
              rotate_left
              ·
               intro w'; go_simp; with_reducible rfl
              rotate_left
              ·
               simp only [AP]; rfl
              refine pure_ (i := 18) (N := some 81) (v := ?_) (a' := ?_) #[true, true, true, true, true, true, true, true, true, true, true, true, true, true, true, true, true, true, true, false, false, false, false, false, false, false, false, false, false] rfl rfl (any_of HT_.out (by kernel_rfl)) (fun _ _ _ h => h) (Or.inl ⟨by rfl, ?_⟩) ?_ ?_
              rotate_left
              ·
               intro w'; go_simp; with_reducible rfl
              rotate_left
              ·
               simp only [AP]; rfl
              refine pure_ (i := 20) (N := some 83) (v := ?_) (a' := ?_) #[true, true, true, true, true, true, true, true, true, true, true, true, true, true, true, true, true, true, true, false, true, false, false, false, false, false, false, false, false] rfl rfl (any_of HT_.out (by kernel_rfl)) (fun _ _ _ h => h) (Or.inl ⟨by rfl, ?_⟩) ?_ ?_
              rotate_left
              ·
               intro w'; go_simp; with_reducible rfl
              rotate_left
              ·
               simp only [AP]; rfl
              refine pure_ (i := 21) (N := some 84) (v := ?_) (a' := ?_) #[true, true, true, true, true, true, true, true, true, true, true, true, true, true, true, true, true, true, true, false, true, true, false, false, false, false, false, false, false] rfl rfl (any_of HT_.out (by kernel_rfl)) (fun _ _ _ h => h) (Or.inl ⟨by rfl, ?_⟩) ?_ ?_
              rotate_left
              ·
               intro w'; go_simp; with_reducible rfl
              rotate_left
              ·
               simp only [AP]; rfl
              refine pure_ (i := 22) (N := some 85) (v := ?_) (a' := ?_) #[true, true, true, true, true, true, true, true, true, true, true, true, true, true, true, true, true, true, true, false, true, true, true, false, false, false, false, false, false] rfl rfl (any_of HT_.out (by kernel_rfl)) (fun _ _ _ h => h) (Or.inl ⟨by rfl, ?_⟩) ?_ ?_
              rotate_left
              ·
               intro w'; go_simp; with_reducible rfl
              rotate_left
              ·
               simp only [AP]; rfl
              refine pure_ (i := 23) (N := some 86) (v := ?_) (a' := ?_) #[true, true, true, true, true, true, true, true, true, true, true, true, true, true, true, true, true, true, true, false, true, true, true, true, false, false, false, false, false] rfl rfl (any_of HT_.out (by kernel_rfl)) (fun _ _ _ h => h) (Or.inl ⟨by rfl, ?_⟩) ?_ ?_
              rotate_left
              ·
               intro w'; go_simp; with_reducible rfl
              rotate_left
              ·
               simp only [AP]; rfl
              refine pure_ (i := 26) (N := some 89) (v := ?_) (a' := ?_) #[true, true, true, true, true, true, true, true, true, true, true, true, true, true, true, true, true, true, true, false, true, true, true, true, false, false, true, false, false] rfl rfl (any_of HT_.out (by kernel_rfl)) (fun _ _ _ h => h) (Or.inl ⟨by rfl, ?_⟩) ?_ ?_
              rotate_left
              ·
               intro w'; go_simp; with_reducible rfl
              rotate_left
              ·
               simp only [AP]; rfl
              refine take_ (i := 19) (N := some 82) (v := ?_) (a' := ?_) #[true, true, true, true, true, true, true, true, true, true, true, true, true, true, true, true, true, true, true, true, true, true, true, true, false, false, true, false, false] rfl rfl (take_ofW HT_.out HW_.out (by kernel_rfl)) (fun _ _ _ h => h) (Or.inl ⟨by rfl, ?_⟩) hHeld ?_ ?_
              rotate_left
              ·
               rintro w' ⟨s0, s1, s2, s3, s4, s5, s6, s7, s8, s9, s10, s11⟩
               go_simp; with_reducible rfl
              rotate_left
              ·
               simp only [AP]; rfl
              refine take_ (i := 24) (N := some 87) (v := ?_) (a' := ?_) #[true, true, true, true, true, true, true, true, true, true, true, true, true, true, true, true, true, true, true, true, true, true, true, true, true, false, true, false, false] rfl rfl (take_ofW HT_.out HW_.out (by kernel_rfl)) (fun _ _ _ h => h) (Or.inl ⟨by rfl, ?_⟩) hHeld ?_ ?_
              rotate_left
              ·
               rintro w' ⟨s0, s1, s2, s3, s4, s5, s6, s7, s8, s9, s10, s11⟩
               go_simp; with_reducible rfl
              rotate_left
              ·
               simp only [AP]; rfl
              refine pure_ (i := 25) (N := some 88) (v := ?_) (a' := ?_) #[true, true, true, true, true, true, true, true, true, true, true, true, true, true, true, true, true, true, true, true, true, true, true, true, true, true, true, false, false] rfl rfl (any_of HT_.out (by kernel_rfl)) (fun _ _ _ h => h) (Or.inl ⟨by rfl, ?_⟩) ?_ ?_
              rotate_left
              ·
               intro w'; go_simp; with_reducible rfl
              rotate_left
              ·
               simp only [AP]; rfl
              refine pure_ (i := 27) (N := some 90) (v := ?_) (a' := ?_) #[true, true, true, true, true, true, true, true, true, true, true, true, true, true, true, true, true, true, true, true, true, true, true, true, true, true, true, true, false] rfl rfl (any_of HT_.out (by kernel_rfl)) (fun _ _ _ h => h) (Or.inl ⟨by rfl, ?_⟩) ?_ ?_
              rotate_left
              ·
               intro w'; go_simp; with_reducible rfl
              rotate_left
              ·
               simp only [AP]; rfl
              refine pure_ (i := 28) (N := some 91) (v := ?_) (a' := ?_) #[true, true, true, true, true, true, true, true, true, true, true, true, true, true, true, true, true, true, true, true, true, true, true, true, true, true, true, true, true] rfl rfl (any_of HT_.out (by kernel_rfl)) (fun _ _ _ h => h) (Or.inl ⟨by rfl, ?_⟩) ?_ ?_
              rotate_left
              ·
               intro w'; go_simp; with_reducible rfl
              rotate_left
              ·
               simp only [AP]; rfl
              refine done_ (done_of HT_.out (by kernel_rfl)) ?_
              try go_wp2
              go_roundg k3
              case measure => have := HK1.out; have := HK2.out; have := HK3.out; omega
              case rel => exact ⟨(x4_3), (wrap64 (x9_3 + 1)), (by first | rfl | (simp; done) | (simp [*]; done)), (by first | rfl | (simp; done) | (simp [*]; done)), H', ⟨by have := HK1.out; have := HK2.out; have := HK3.out; omega⟩, ⟨rU HO_3.out⟩, ⟨bU HB.out⟩⟩
            ·
             rw [if_neg c22] at H
             have c22b0 := decide_eq_false c22
             clear c22
             have H' := Aside0.mk H
             clear H
             try go_wp2
             have n0_ := Aside0.mk (Kd.R_drew HO_3.out)
             have n1_ := Aside0.mk (below_drew1 HB.out)
             clear HO_3
             clear HB
             have HO_3 := n0_
             have HB := n1_
             clear n0_ n1_
             have p220 : 0 ≤ (x9_3 : Int) := of_decide_eq_true (by first | (with_reducible assumption) | assumption)
             have q220 : x9_3 < (l0.length : Int) := of_decide_eq_true (by first | (with_reducible assumption) | assumption)
             obtain ⟨ad220, e220, hx220_0, hx220_1, hx220_2⟩ := at_T33 HR0.out x9_3 p220 q220
             have hw220_2 := hx220_2
             have hw220_1 := hx220_1
             have hw220_0 := hx220_0
             cases e220
             replace hx220_0 := (HB.out.cell (World.block_lt_of_cell? w _ hx220_0)).trans hx220_0
             replace hx220_1 := (HB.out.cell (World.block_lt_of_cell? w _ hx220_1)).trans hx220_1
             replace hx220_2 := (HB.out.cell (World.block_lt_of_cell? w _ hx220_2)).trans hx220_2
             replace p220 := eq_true p220
             replace q220 := eq_true q220
             have p222 : 0 ≤ (x9_3 : Int) := of_decide_eq_true (by first | (with_reducible assumption) | assumption)
             have q222 : x9_3 < (l0.length : Int) := of_decide_eq_true (by first | (with_reducible assumption) | assumption)
             obtain ⟨ad222, e222, hx222_0, hx222_1, hx222_2⟩ := at_T33 HR0.out x9_3 p222 q222
             have hw222_2 := hx222_2
             have hw222_1 := hx222_1
             have hw222_0 := hx222_0
             obtain rfl : ad220 = ad222 := (by injection e222)
             replace hx222_0 := (HB.out.cell (World.block_lt_of_cell? w _ hx222_0)).trans hx222_0
             replace hx222_1 := (HB.out.cell (World.block_lt_of_cell? w _ hx222_1)).trans hx222_1
             replace hx222_2 := (HB.out.cell (World.block_lt_of_cell? w _ hx222_2)).trans hx222_2
             replace p222 := eq_true p222
             replace q222 := eq_true q222
             refine start_ (n := 29) (S := fun w' => w'.cell? (ad220.add ((x9_3).toNat * 3)) = some (.int .i64 ((rd_T33 l0 x9_3).f0)) ∧ w'.cell? ⟨(ad220.add ((x9_3).toNat * 3)).block, (ad220.add ((x9_3).toNat * 3)).off + 1, none⟩ = some (.int .i64 ((rd_T33 l0 x9_3).f1)) ∧ w'.cell? ⟨(ad220.add ((x9_3).toNat * 3)).block, (ad220.add ((x9_3).toNat * 3)).off + 2, none⟩ = some (.int .i64 ((rd_T33 l0 x9_3).f2)) ∧ w'.cell? (ad220.add ((x9_3).toNat * 3)) = some (.int .i64 ((rd_T33 l0 x9_3).f0)) ∧ w'.cell? ⟨(ad220.add ((x9_3).toNat * 3)).block, (ad220.add ((x9_3).toNat * 3)).off + 1, none⟩ = some (.int .i64 ((rd_T33 l0 x9_3).f1)) ∧ w'.cell? ⟨(ad220.add ((x9_3).toNat * 3)).block, (ad220.add ((x9_3).toNat * 3)).off + 2, none⟩ = some (.int .i64 ((rd_T33 l0 x9_3).f2))) (ds := []) #[false, false, false, false, false, false, false, false, false, false, false, false, false, false, false, false, false, false, false, false, false, false, false, false, false, false, false, false, false] (by kernel_rfl) rfl rfl ⟨((HB.out.cell (World.block_lt_of_cell? w _ hw220_0)).trans hw220_0), ((HB.out.cell (World.block_lt_of_cell? w _ hw220_1)).trans hw220_1), ((HB.out.cell (World.block_lt_of_cell? w _ hw220_2)).trans hw220_2), ((HB.out.cell (World.block_lt_of_cell? w _ hw222_0)).trans hw222_0), ((HB.out.cell (World.block_lt_of_cell? w _ hw222_1)).trans hw222_1), ((HB.out.cell (World.block_lt_of_cell? w _ hw222_2)).trans hw222_2)⟩ (fun hHeld => ?_); refine with_tabW tegularef32_Runs.tab17 tegularef32_Runs.bits17 (fun HT_ HW_ => ?_)
             generalize wr.drew = w29 at HO_3 HB hx220_0 hx220_1 hx220_2 hx222_0 hx222_1 hx222_2 hHeld ⊢
             refine pure_ (i := 0) (N := some 63) (v := ?_) (a' := ?_) #[true, false, false, false, false, false, false, false, false, false, false, false, false, false, false, false, false, false, false, false, false, false, false, false, false, false, false, false, false] rfl rfl (any_of HT_.out (by kernel_rfl)) (fun _ _ _ h => h) (Or.inl ⟨by rfl, ?_⟩) ?_ ?_
             rotate_left
             ·
              intro w'; go_simp; with_reducible rfl
             rotate_left
             ·
              simp only [AP]; rfl
             refine pure_ (i := 1) (N := some 64) (v := ?_) (a' := ?_) #[true, true, false, false, false, false, false, false, false, false, false, false, false, false, false, false, false, false, false, false, false, false, false, false, false, false, false, false, false] rfl rfl (any_of HT_.out (by kernel_rfl)) (fun _ _ _ h => h) (Or.inl ⟨by rfl, ?_⟩) ?_ ?_
             rotate_left
             ·
              intro w'; go_simp; with_reducible rfl
             rotate_left
             ·
              simp only [AP]; rfl
             refine pure_ (i := 2) (N := some 65) (v := ?_) (a' := ?_) #[true, true, true, false, false, false, false, false, false, false, false, false, false, false, false, false, false, false, false, false, false, false, false, false, false, false, false, false, false] rfl rfl (any_of HT_.out (by kernel_rfl)) (fun _ _ _ h => h) (Or.inl ⟨by rfl, ?_⟩) ?_ ?_
             rotate_left
             ·
              intro w'; go_simp; with_reducible rfl
             rotate_left
             ·
              simp only [AP]; rfl
             refine take_ (i := 3) (N := some 66) (v := ?_) (a' := ?_) #[true, true, true, true, false, false, false, false, false, false, false, false, false, false, false, false, false, false, false, false, false, false, false, false, false, false, false, false, false] rfl rfl (take_ofW HT_.out HW_.out (by kernel_rfl)) (fun _ _ _ h => h) (Or.inl ⟨by rfl, ?_⟩) hHeld ?_ ?_
             rotate_left
             ·
              rintro w' ⟨s0, s1, s2, s3, s4, s5⟩
              go_simp; with_reducible rfl
             rotate_left
             ·
              simp only [AP]; rfl
             refine one_ (i := 4) (N := some 67) #[true, true, true, true, true, false, false, false, false, false, false, false, false, false, false, false, false, false, false, false, false, false, false, false, false, false, false, false, false] rfl rfl (one_of HT_.out (by kernel_rfl)) (by decide) (fun K hK => ?_)
             refine goes_ Try.func26 (by kernel_rfl) rfl #[.agg #[.int .i64 ((rd_T33 l0 x9_3).f0), .int .i64 ((rd_T33 l0 x9_3).f1), .int .i64 ((rd_T33 l0 x9_3).f2)]] (by rfl) rfl rfl (by (try simp only [List.map_toArray, List.map_cons, List.map_nil]); first | done | rfl | (simp only [List.length_drop, List.length_take]; rfl)) ?_
             with_reducible refine (tegularef32_One.calls ((rd_T33 l0 x9_3).f0) ((rd_T33 l0 x9_3).f1) ((rd_T33 l0 x9_3).f2) true _ A20.out).mono ?_
             rintro e w30 ⟨rfl, hb⟩
             refine ⟨_, rfl, ?_⟩
             have n0_ := Aside0.mk (Kd.R_below (rU HO_3.out) hb)
             have n1_ := Aside0.mk (below_step (bU HB.out) hb)
             clear HO_3
             clear HB
             have HO_3 := n0_
             have HB := n1_
             clear n0_ n1_
             (try clear hb)
             (try clear hb2)
             (try clear hk)
             (try clear hi)
             refine hK.out _ _ ⟨((HB.out.cell (World.block_lt_of_cell? w _ hw220_0)).trans hw220_0), ((HB.out.cell (World.block_lt_of_cell? w _ hw220_1)).trans hw220_1), ((HB.out.cell (World.block_lt_of_cell? w _ hw220_2)).trans hw220_2), ((HB.out.cell (World.block_lt_of_cell? w _ hw222_0)).trans hw222_0), ((HB.out.cell (World.block_lt_of_cell? w _ hw222_1)).trans hw222_1), ((HB.out.cell (World.block_lt_of_cell? w _ hw222_2)).trans hw222_2)⟩ (fun hHeld => ?_)
             clear hK K
             refine norm_ (a' := ?_) ?_ ?_
             rotate_left
             ·
              show Act.put _ (some 67) _ = _
              simp only [AP]; rfl
             refine pure_ (i := 5) (N := some 68) (v := ?_) (a' := ?_) #[true, true, true, true, true, true, false, false, false, false, false, false, false, false, false, false, false, false, false, false, false, false, false, false, false, false, false, false, false] rfl rfl (any_of HT_.out (by kernel_rfl)) (fun _ _ _ h => h) (Or.inl ⟨by rfl, ?_⟩) ?_ ?_
             rotate_left
             ·
              intro w'; go_simp; with_reducible rfl
             rotate_left
             ·
              simp only [AP]; rfl
             refine pure_ (i := 6) (N := some 69) (v := ?_) (a' := ?_) #[true, true, true, true, true, true, true, false, false, false, false, false, false, false, false, false, false, false, false, false, false, false, false, false, false, false, false, false, false] rfl rfl (any_of HT_.out (by kernel_rfl)) (fun _ _ _ h => h) (Or.inl ⟨by rfl, ?_⟩) ?_ ?_
             rotate_left
             ·
              intro w'; go_simp; with_reducible rfl
             rotate_left
             ·
              simp only [AP]; rfl
             refine pure_ (i := 7) (N := some 70) (v := ?_) (a' := ?_) #[true, true, true, true, true, true, true, true, false, false, false, false, false, false, false, false, false, false, false, false, false, false, false, false, false, false, false, false, false] rfl rfl (any_of HT_.out (by kernel_rfl)) (fun _ _ _ h => h) (Or.inl ⟨by rfl, ?_⟩) ?_ ?_
             rotate_left
             ·
              intro w'; go_simp; with_reducible rfl
             rotate_left
             ·
              simp only [AP]; rfl
             refine pure_ (i := 8) (N := some 71) (v := ?_) (a' := ?_) #[true, true, true, true, true, true, true, true, true, false, false, false, false, false, false, false, false, false, false, false, false, false, false, false, false, false, false, false, false] rfl rfl (any_of HT_.out (by kernel_rfl)) (fun _ _ _ h => h) (Or.inl ⟨by rfl, ?_⟩) ?_ ?_
             rotate_left
             ·
              intro w'; go_simp; with_reducible rfl
             rotate_left
             ·
              simp only [AP]; rfl
             refine pure_ (i := 9) (N := some 72) (v := ?_) (a' := ?_) #[true, true, true, true, true, true, true, true, true, true, false, false, false, false, false, false, false, false, false, false, false, false, false, false, false, false, false, false, false] rfl rfl (any_of HT_.out (by kernel_rfl)) (fun _ _ _ h => h) (Or.inl ⟨by rfl, ?_⟩) ?_ ?_
             rotate_left
             ·
              intro w'; go_simp; with_reducible rfl
             rotate_left
             ·
              simp only [AP]; rfl
             refine pure_ (i := 11) (N := some 74) (v := ?_) (a' := ?_) #[true, true, true, true, true, true, true, true, true, true, false, true, false, false, false, false, false, false, false, false, false, false, false, false, false, false, false, false, false] rfl rfl (any_of HT_.out (by kernel_rfl)) (fun _ _ _ h => h) (Or.inl ⟨by rfl, ?_⟩) ?_ ?_
             rotate_left
             ·
              intro w'; go_simp; with_reducible rfl
             rotate_left
             ·
              simp only [AP]; rfl
             refine take_ (i := 10) (N := some 73) (v := ?_) (a' := ?_) #[true, true, true, true, true, true, true, true, true, true, true, true, false, false, false, false, false, false, false, false, false, false, false, false, false, false, false, false, false] rfl rfl (take_ofW HT_.out HW_.out (by kernel_rfl)) (fun _ _ _ h => h) (Or.inl ⟨by rfl, ?_⟩) hHeld ?_ ?_
             rotate_left
             ·
              rintro w' ⟨s0, s1, s2, s3, s4, s5⟩
              go_simp; with_reducible rfl
             rotate_left
             ·
              simp only [AP]; rfl
             refine pure_ (i := 12) (N := some 75) (v := ?_) (a' := ?_) #[true, true, true, true, true, true, true, true, true, true, true, true, true, false, false, false, false, false, false, false, false, false, false, false, false, false, false, false, false] rfl rfl (any_of HT_.out (by kernel_rfl)) (fun _ _ _ h => h) (Or.inl ⟨by rfl, ?_⟩) ?_ ?_
             rotate_left
             ·
              intro w'; go_simp; with_reducible rfl
             rotate_left
             ·
              simp only [AP]; rfl
             refine pure_ (i := 13) (N := some 76) (v := ?_) (a' := ?_) #[true, true, true, true, true, true, true, true, true, true, true, true, true, true, false, false, false, false, false, false, false, false, false, false, false, false, false, false, false] rfl rfl (any_of HT_.out (by kernel_rfl)) (fun _ _ _ h => h) (Or.inl ⟨by rfl, ?_⟩) ?_ ?_
             rotate_left
             ·
              intro w'; go_simp; with_reducible rfl
             rotate_left
             ·
              simp only [AP]; rfl
             refine pure_ (i := 14) (N := some 77) (v := ?_) (a' := ?_) #[true, true, true, true, true, true, true, true, true, true, true, true, true, true, true, false, false, false, false, false, false, false, false, false, false, false, false, false, false] rfl rfl (any_of HT_.out (by kernel_rfl)) (fun _ _ _ h => h) (Or.inl ⟨by rfl, ?_⟩) ?_ ?_
             rotate_left
             ·
              intro w'; go_simp; with_reducible rfl
             rotate_left
             ·
              simp only [AP]; rfl
             refine pure_ (i := 15) (N := some 78) (v := undef) (a' := ?_) #[true, true, true, true, true, true, true, true, true, true, true, true, true, true, true, true, false, false, false, false, false, false, false, false, false, false, false, false, false] rfl rfl (any_of HT_.out (by kernel_rfl)) (fun _ _ _ h => h) (Or.inr ⟨by rfl, rfl⟩) ?_ ?_
             rotate_left
             ·
              simp only [AP]; rfl
             refine pure_ (i := 16) (N := some 79) (v := undef) (a' := ?_) #[true, true, true, true, true, true, true, true, true, true, true, true, true, true, true, true, true, false, false, false, false, false, false, false, false, false, false, false, false] rfl rfl (any_of HT_.out (by kernel_rfl)) (fun _ _ _ h => h) (Or.inr ⟨by rfl, rfl⟩) ?_ ?_
             rotate_left
             ·
              simp only [AP]; rfl
             refine pure_ (i := 17) (N := some 80) (v := undef) (a' := ?_) #[true, true, true, true, true, true, true, true, true, true, true, true, true, true, true, true, true, true, false, false, false, false, false, false, false, false, false, false, false] rfl rfl (any_of HT_.out (by kernel_rfl)) (fun _ _ _ h => h) (Or.inr ⟨by rfl, rfl⟩) ?_ ?_
             rotate_left
             ·
              simp only [AP]; rfl
             refine pure_ (i := 18) (N := some 81) (v := undef) (a' := ?_) #[true, true, true, true, true, true, true, true, true, true, true, true, true, true, true, true, true, true, true, false, false, false, false, false, false, false, false, false, false] rfl rfl (any_of HT_.out (by kernel_rfl)) (fun _ _ _ h => h) (Or.inr ⟨by rfl, rfl⟩) ?_ ?_
             rotate_left
             ·
              simp only [AP]; rfl
             refine pure_ (i := 19) (N := some 82) (v := undef) (a' := ?_) #[true, true, true, true, true, true, true, true, true, true, true, true, true, true, true, true, true, true, true, true, false, false, false, false, false, false, false, false, false] rfl rfl (any_of HT_.out (by kernel_rfl)) (fun _ _ _ h => h) (Or.inr ⟨by rfl, rfl⟩) ?_ ?_
             rotate_left
             ·
              simp only [AP]; rfl
             refine pure_ (i := 20) (N := some 83) (v := undef) (a' := ?_) #[true, true, true, true, true, true, true, true, true, true, true, true, true, true, true, true, true, true, true, true, true, false, false, false, false, false, false, false, false] rfl rfl (any_of HT_.out (by kernel_rfl)) (fun _ _ _ h => h) (Or.inr ⟨by rfl, rfl⟩) ?_ ?_
             rotate_left
             ·
              simp only [AP]; rfl
             refine pure_ (i := 21) (N := some 84) (v := undef) (a' := ?_) #[true, true, true, true, true, true, true, true, true, true, true, true, true, true, true, true, true, true, true, true, true, true, false, false, false, false, false, false, false] rfl rfl (any_of HT_.out (by kernel_rfl)) (fun _ _ _ h => h) (Or.inr ⟨by rfl, rfl⟩) ?_ ?_
             rotate_left
             ·
              simp only [AP]; rfl
             refine pure_ (i := 22) (N := some 85) (v := undef) (a' := ?_) #[true, true, true, true, true, true, true, true, true, true, true, true, true, true, true, true, true, true, true, true, true, true, true, false, false, false, false, false, false] rfl rfl (any_of HT_.out (by kernel_rfl)) (fun _ _ _ h => h) (Or.inr ⟨by rfl, rfl⟩) ?_ ?_
             rotate_left
             ·
              simp only [AP]; rfl
             refine pure_ (i := 23) (N := some 86) (v := undef) (a' := ?_) #[true, true, true, true, true, true, true, true, true, true, true, true, true, true, true, true, true, true, true, true, true, true, true, true, false, false, false, false, false] rfl rfl (any_of HT_.out (by kernel_rfl)) (fun _ _ _ h => h) (Or.inr ⟨by rfl, rfl⟩) ?_ ?_
             rotate_left
             ·
              simp only [AP]; rfl
             refine pure_ (i := 24) (N := some 87) (v := undef) (a' := ?_) #[true, true, true, true, true, true, true, true, true, true, true, true, true, true, true, true, true, true, true, true, true, true, true, true, true, false, false, false, false] rfl rfl (any_of HT_.out (by kernel_rfl)) (fun _ _ _ h => h) (Or.inr ⟨by rfl, rfl⟩) ?_ ?_
             rotate_left
             ·
              simp only [AP]; rfl
             refine pure_ (i := 25) (N := some 88) (v := undef) (a' := ?_) #[true, true, true, true, true, true, true, true, true, true, true, true, true, true, true, true, true, true, true, true, true, true, true, true, true, true, false, false, false] rfl rfl (any_of HT_.out (by kernel_rfl)) (fun _ _ _ h => h) (Or.inr ⟨by rfl, rfl⟩) ?_ ?_
             rotate_left
             ·
              simp only [AP]; rfl
             refine pure_ (i := 26) (N := some 89) (v := undef) (a' := ?_) #[true, true, true, true, true, true, true, true, true, true, true, true, true, true, true, true, true, true, true, true, true, true, true, true, true, true, true, false, false] rfl rfl (any_of HT_.out (by kernel_rfl)) (fun _ _ _ h => h) (Or.inr ⟨by rfl, rfl⟩) ?_ ?_
             rotate_left
             ·
              simp only [AP]; rfl
             refine pure_ (i := 27) (N := some 90) (v := undef) (a' := ?_) #[true, true, true, true, true, true, true, true, true, true, true, true, true, true, true, true, true, true, true, true, true, true, true, true, true, true, true, true, false] rfl rfl (any_of HT_.out (by kernel_rfl)) (fun _ _ _ h => h) (Or.inr ⟨by rfl, rfl⟩) ?_ ?_
             rotate_left
             ·
              simp only [AP]; rfl
             refine pure_ (i := 28) (N := some 91) (v := ?_) (a' := ?_) #[true, true, true, true, true, true, true, true, true, true, true, true, true, true, true, true, true, true, true, true, true, true, true, true, true, true, true, true, true] rfl rfl (any_of HT_.out (by kernel_rfl)) (fun _ _ _ h => h) (Or.inl ⟨by rfl, ?_⟩) ?_ ?_
             rotate_left
             ·
              intro w'; go_simp; with_reducible rfl
             rotate_left
             ·
              simp only [AP]; rfl
             refine done_ (done_of HT_.out (by kernel_rfl)) ?_
             try go_wp2
             go_roundg k3
             case measure => have := HK1.out; have := HK2.out; have := HK3.out; omega
             case rel => exact ⟨(x4_3), (wrap64 (x9_3 + 1)), (by first | rfl | (simp; done) | (simp [*]; done)), (by first | rfl | (simp; done) | (simp [*]; done)), H', ⟨by have := HK1.out; have := HK2.out; have := HK3.out; omega⟩, ⟨rU HO_3.out⟩, ⟨bU HB.out⟩⟩
           ·
            replace c21 := Bool.eq_false_iff.mpr c21
            subst c21
            have H1 : (tegularef32_Runs.l2 k3 l0 x3_1 x4_3 x5_2 (wrap64 (x9_3 + 1))) = some r := by rw [if_neg (show ¬ (false = true) by decide)] at H; exact H
            clear H
            have H := H1
            clear H1
            have H' := Aside0.mk H
            clear H
            try go_wp2
            have n0_ := Aside0.mk (Kd.R_drew HO_3.out)
            have n1_ := Aside0.mk (below_drew1 HB.out)
            clear HO_3
            clear HB
            have HO_3 := n0_
            have HB := n1_
            clear n0_ n1_
            have p220 : 0 ≤ (x9_3 : Int) := of_decide_eq_true (by first | (with_reducible assumption) | assumption)
            have q220 : x9_3 < (l0.length : Int) := of_decide_eq_true (by first | (with_reducible assumption) | assumption)
            obtain ⟨ad220, e220, hx220_0, hx220_1, hx220_2⟩ := at_T33 HR0.out x9_3 p220 q220
            have hw220_2 := hx220_2
            have hw220_1 := hx220_1
            have hw220_0 := hx220_0
            cases e220
            replace hx220_0 := (HB.out.cell (World.block_lt_of_cell? w _ hx220_0)).trans hx220_0
            replace hx220_1 := (HB.out.cell (World.block_lt_of_cell? w _ hx220_1)).trans hx220_1
            replace hx220_2 := (HB.out.cell (World.block_lt_of_cell? w _ hx220_2)).trans hx220_2
            replace p220 := eq_true p220
            replace q220 := eq_true q220
            refine start_ (n := 29) (S := fun w' => w'.cell? (ad220.add ((x9_3).toNat * 3)) = some (.int .i64 ((rd_T33 l0 x9_3).f0)) ∧ w'.cell? ⟨(ad220.add ((x9_3).toNat * 3)).block, (ad220.add ((x9_3).toNat * 3)).off + 1, none⟩ = some (.int .i64 ((rd_T33 l0 x9_3).f1)) ∧ w'.cell? ⟨(ad220.add ((x9_3).toNat * 3)).block, (ad220.add ((x9_3).toNat * 3)).off + 2, none⟩ = some (.int .i64 ((rd_T33 l0 x9_3).f2))) (ds := []) #[false, false, false, false, false, false, false, false, false, false, false, false, false, false, false, false, false, false, false, false, false, false, false, false, false, false, false, false, false] (by kernel_rfl) rfl rfl ⟨((HB.out.cell (World.block_lt_of_cell? w _ hw220_0)).trans hw220_0), ((HB.out.cell (World.block_lt_of_cell? w _ hw220_1)).trans hw220_1), ((HB.out.cell (World.block_lt_of_cell? w _ hw220_2)).trans hw220_2)⟩ (fun hHeld => ?_); refine with_tabW tegularef32_Runs.tab17 tegularef32_Runs.bits17 (fun HT_ HW_ => ?_)
            generalize wr.drew = w31 at HO_3 HB hx220_0 hx220_1 hx220_2 hHeld ⊢
            refine pure_ (i := 0) (N := some 63) (v := ?_) (a' := ?_) #[true, false, false, false, false, false, false, false, false, false, false, false, false, false, false, false, false, false, false, false, false, false, false, false, false, false, false, false, false] rfl rfl (any_of HT_.out (by kernel_rfl)) (fun _ _ _ h => h) (Or.inl ⟨by rfl, ?_⟩) ?_ ?_
            rotate_left
            ·
             intro w'; go_simp; with_reducible rfl
            rotate_left
            ·
             simp only [AP]; rfl
            refine pure_ (i := 1) (N := some 64) (v := ?_) (a' := ?_) #[true, true, false, false, false, false, false, false, false, false, false, false, false, false, false, false, false, false, false, false, false, false, false, false, false, false, false, false, false] rfl rfl (any_of HT_.out (by kernel_rfl)) (fun _ _ _ h => h) (Or.inl ⟨by rfl, ?_⟩) ?_ ?_
            rotate_left
            ·
             intro w'; go_simp; with_reducible rfl
            rotate_left
            ·
             simp only [AP]; rfl
            refine pure_ (i := 2) (N := some 65) (v := ?_) (a' := ?_) #[true, true, true, false, false, false, false, false, false, false, false, false, false, false, false, false, false, false, false, false, false, false, false, false, false, false, false, false, false] rfl rfl (any_of HT_.out (by kernel_rfl)) (fun _ _ _ h => h) (Or.inl ⟨by rfl, ?_⟩) ?_ ?_
            rotate_left
            ·
             intro w'; go_simp; with_reducible rfl
            rotate_left
            ·
             simp only [AP]; rfl
            refine take_ (i := 3) (N := some 66) (v := ?_) (a' := ?_) #[true, true, true, true, false, false, false, false, false, false, false, false, false, false, false, false, false, false, false, false, false, false, false, false, false, false, false, false, false] rfl rfl (take_ofW HT_.out HW_.out (by kernel_rfl)) (fun _ _ _ h => h) (Or.inl ⟨by rfl, ?_⟩) hHeld ?_ ?_
            rotate_left
            ·
             rintro w' ⟨s0, s1, s2⟩
             go_simp; with_reducible rfl
            rotate_left
            ·
             simp only [AP]; rfl
            refine one_ (i := 4) (N := some 67) #[true, true, true, true, true, false, false, false, false, false, false, false, false, false, false, false, false, false, false, false, false, false, false, false, false, false, false, false, false] rfl rfl (one_of HT_.out (by kernel_rfl)) (by decide) (fun K hK => ?_)
            refine goes_ Try.func26 (by kernel_rfl) rfl #[.agg #[.int .i64 ((rd_T33 l0 x9_3).f0), .int .i64 ((rd_T33 l0 x9_3).f1), .int .i64 ((rd_T33 l0 x9_3).f2)]] (by rfl) rfl rfl (by (try simp only [List.map_toArray, List.map_cons, List.map_nil]); first | done | rfl | (simp only [List.length_drop, List.length_take]; rfl)) ?_
            with_reducible refine (tegularef32_One.calls ((rd_T33 l0 x9_3).f0) ((rd_T33 l0 x9_3).f1) ((rd_T33 l0 x9_3).f2) false _ A20.out).mono ?_
            rintro e w32 ⟨rfl, hb⟩
            refine ⟨_, rfl, ?_⟩
            have n0_ := Aside0.mk (Kd.R_below (rU HO_3.out) hb)
            have n1_ := Aside0.mk (below_step (bU HB.out) hb)
            clear HO_3
            clear HB
            have HO_3 := n0_
            have HB := n1_
            clear n0_ n1_
            (try clear hb)
            (try clear hb2)
            (try clear hk)
            (try clear hi)
            refine hK.out _ _ ⟨((HB.out.cell (World.block_lt_of_cell? w _ hw220_0)).trans hw220_0), ((HB.out.cell (World.block_lt_of_cell? w _ hw220_1)).trans hw220_1), ((HB.out.cell (World.block_lt_of_cell? w _ hw220_2)).trans hw220_2)⟩ (fun hHeld => ?_)
            clear hK K
            refine norm_ (a' := ?_) ?_ ?_
            rotate_left
            ·
             show Act.put _ (some 67) _ = _
             simp only [AP]; rfl
            refine pure_ (i := 5) (N := some 68) (v := ?_) (a' := ?_) #[true, true, true, true, true, true, false, false, false, false, false, false, false, false, false, false, false, false, false, false, false, false, false, false, false, false, false, false, false] rfl rfl (any_of HT_.out (by kernel_rfl)) (fun _ _ _ h => h) (Or.inl ⟨by rfl, ?_⟩) ?_ ?_
            rotate_left
            ·
             intro w'; go_simp; with_reducible rfl
            rotate_left
            ·
             simp only [AP]; rfl
            refine pure_ (i := 6) (N := some 69) (v := undef) (a' := ?_) #[true, true, true, true, true, true, true, false, false, false, false, false, false, false, false, false, false, false, false, false, false, false, false, false, false, false, false, false, false] rfl rfl (any_of HT_.out (by kernel_rfl)) (fun _ _ _ h => h) (Or.inr ⟨by rfl, rfl⟩) ?_ ?_
            rotate_left
            ·
             simp only [AP]; rfl
            refine pure_ (i := 7) (N := some 70) (v := undef) (a' := ?_) #[true, true, true, true, true, true, true, true, false, false, false, false, false, false, false, false, false, false, false, false, false, false, false, false, false, false, false, false, false] rfl rfl (any_of HT_.out (by kernel_rfl)) (fun _ _ _ h => h) (Or.inr ⟨by rfl, rfl⟩) ?_ ?_
            rotate_left
            ·
             simp only [AP]; rfl
            refine pure_ (i := 8) (N := some 71) (v := undef) (a' := ?_) #[true, true, true, true, true, true, true, true, true, false, false, false, false, false, false, false, false, false, false, false, false, false, false, false, false, false, false, false, false] rfl rfl (any_of HT_.out (by kernel_rfl)) (fun _ _ _ h => h) (Or.inr ⟨by rfl, rfl⟩) ?_ ?_
            rotate_left
            ·
             simp only [AP]; rfl
            refine pure_ (i := 9) (N := some 72) (v := undef) (a' := ?_) #[true, true, true, true, true, true, true, true, true, true, false, false, false, false, false, false, false, false, false, false, false, false, false, false, false, false, false, false, false] rfl rfl (any_of HT_.out (by kernel_rfl)) (fun _ _ _ h => h) (Or.inr ⟨by rfl, rfl⟩) ?_ ?_
            rotate_left
            ·
             simp only [AP]; rfl
            refine pure_ (i := 10) (N := some 73) (v := undef) (a' := ?_) #[true, true, true, true, true, true, true, true, true, true, true, false, false, false, false, false, false, false, false, false, false, false, false, false, false, false, false, false, false] rfl rfl (any_of HT_.out (by kernel_rfl)) (fun _ _ _ h => h) (Or.inr ⟨by rfl, rfl⟩) ?_ ?_
            rotate_left
            ·
             simp only [AP]; rfl
            refine pure_ (i := 11) (N := some 74) (v := undef) (a' := ?_) #[true, true, true, true, true, true, true, true, true, true, true, true, false, false, false, false, false, false, false, false, false, false, false, false, false, false, false, false, false] rfl rfl (any_of HT_.out (by kernel_rfl)) (fun _ _ _ h => h) (Or.inr ⟨by rfl, rfl⟩) ?_ ?_
            rotate_left
            ·
             simp only [AP]; rfl
            refine pure_ (i := 12) (N := some 75) (v := undef) (a' := ?_) #[true, true, true, true, true, true, true, true, true, true, true, true, true, false, false, false, false, false, false, false, false, false, false, false, false, false, false, false, false] rfl rfl (any_of HT_.out (by kernel_rfl)) (fun _ _ _ h => h) (Or.inr ⟨by rfl, rfl⟩) ?_ ?_
            rotate_left
            ·
             simp only [AP]; rfl
            refine pure_ (i := 13) (N := some 76) (v := ?_) (a' := ?_) #[true, true, true, true, true, true, true, true, true, true, true, true, true, true, false, false, false, false, false, false, false, false, false, false, false, false, false, false, false] rfl rfl (any_of HT_.out (by kernel_rfl)) (fun _ _ _ h => h) (Or.inl ⟨by rfl, ?_⟩) ?_ ?_
            rotate_left
            ·
             intro w'; go_simp; with_reducible rfl
            rotate_left
            ·
             simp only [AP]; rfl
            refine pure_ (i := 14) (N := some 77) (v := ?_) (a' := ?_) #[true, true, true, true, true, true, true, true, true, true, true, true, true, true, true, false, false, false, false, false, false, false, false, false, false, false, false, false, false] rfl rfl (any_of HT_.out (by kernel_rfl)) (fun _ _ _ h => h) (Or.inl ⟨by rfl, ?_⟩) ?_ ?_
            rotate_left
            ·
             intro w'; go_simp; with_reducible rfl
            rotate_left
            ·
             simp only [AP]; rfl
            refine pure_ (i := 15) (N := some 78) (v := undef) (a' := ?_) #[true, true, true, true, true, true, true, true, true, true, true, true, true, true, true, true, false, false, false, false, false, false, false, false, false, false, false, false, false] rfl rfl (any_of HT_.out (by kernel_rfl)) (fun _ _ _ h => h) (Or.inr ⟨by rfl, rfl⟩) ?_ ?_
            rotate_left
            ·
             simp only [AP]; rfl
            refine pure_ (i := 16) (N := some 79) (v := undef) (a' := ?_) #[true, true, true, true, true, true, true, true, true, true, true, true, true, true, true, true, true, false, false, false, false, false, false, false, false, false, false, false, false] rfl rfl (any_of HT_.out (by kernel_rfl)) (fun _ _ _ h => h) (Or.inr ⟨by rfl, rfl⟩) ?_ ?_
            rotate_left
            ·
             simp only [AP]; rfl
            refine pure_ (i := 17) (N := some 80) (v := undef) (a' := ?_) #[true, true, true, true, true, true, true, true, true, true, true, true, true, true, true, true, true, true, false, false, false, false, false, false, false, false, false, false, false] rfl rfl (any_of HT_.out (by kernel_rfl)) (fun _ _ _ h => h) (Or.inr ⟨by rfl, rfl⟩) ?_ ?_
            rotate_left
            ·
             simp only [AP]; rfl
            refine pure_ (i := 18) (N := some 81) (v := undef) (a' := ?_) #[true, true, true, true, true, true, true, true, true, true, true, true, true, true, true, true, true, true, true, false, false, false, false, false, false, false, false, false, false] rfl rfl (any_of HT_.out (by kernel_rfl)) (fun _ _ _ h => h) (Or.inr ⟨by rfl, rfl⟩) ?_ ?_
            rotate_left
            ·
             simp only [AP]; rfl
            refine pure_ (i := 19) (N := some 82) (v := undef) (a' := ?_) #[true, true, true, true, true, true, true, true, true, true, true, true, true, true, true, true, true, true, true, true, false, false, false, false, false, false, false, false, false] rfl rfl (any_of HT_.out (by kernel_rfl)) (fun _ _ _ h => h) (Or.inr ⟨by rfl, rfl⟩) ?_ ?_
            rotate_left
            ·
             simp only [AP]; rfl
            refine pure_ (i := 20) (N := some 83) (v := undef) (a' := ?_) #[true, true, true, true, true, true, true, true, true, true, true, true, true, true, true, true, true, true, true, true, true, false, false, false, false, false, false, false, false] rfl rfl (any_of HT_.out (by kernel_rfl)) (fun _ _ _ h => h) (Or.inr ⟨by rfl, rfl⟩) ?_ ?_
            rotate_left
            ·
             simp only [AP]; rfl
            refine pure_ (i := 21) (N := some 84) (v := undef) (a' := ?_) #[true, true, true, true, true, true, true, true, true, true, true, true, true, true, true, true, true, true, true, true, true, true, false, false, false, false, false, false, false] rfl rfl (any_of HT_.out (by kernel_rfl)) (fun _ _ _ h => h) (Or.inr ⟨by rfl, rfl⟩) ?_ ?_
            rotate_left
            ·
             simp only [AP]; rfl
            refine pure_ (i := 22) (N := some 85) (v := undef) (a' := ?_) #[true, true, true, true, true, true, true, true, true, true, true, true, true, true, true, true, true, true, true, true, true, true, true, false, false, false, false, false, false] rfl rfl (any_of HT_.out (by kernel_rfl)) (fun _ _ _ h => h) (Or.inr ⟨by rfl, rfl⟩) ?_ ?_
            rotate_left
            ·
             simp only [AP]; rfl
            refine pure_ (i := 23) (N := some 86) (v := undef) (a' := ?_) #[true, true, true, true, true, true, true, true, true, true, true, true, true, true, true, true, true, true, true, true, true, true, true, true, false, false, false, false, false] rfl rfl (any_of HT_.out (by kernel_rfl)) (fun _ _ _ h => h) (Or.inr ⟨by rfl, rfl⟩) ?_ ?_
            rotate_left
            ·
             simp only [AP]; rfl
            refine pure_ (i := 24) (N := some 87) (v := undef) (a' := ?_) #[true, true, true, true, true, true, true, true, true, true, true, true, true, true, true, true, true, true, true, true, true, true, true, true, true, false, false, false, false] rfl rfl (any_of HT_.out (by kernel_rfl)) (fun _ _ _ h => h) (Or.inr ⟨by rfl, rfl⟩) ?_ ?_
            rotate_left
            ·
             simp only [AP]; rfl
            refine pure_ (i := 25) (N := some 88) (v := undef) (a' := ?_) #[true, true, true, true, true, true, true, true, true, true, true, true, true, true, true, true, true, true, true, true, true, true, true, true, true, true, false, false, false] rfl rfl (any_of HT_.out (by kernel_rfl)) (fun _ _ _ h => h) (Or.inr ⟨by rfl, rfl⟩) ?_ ?_
            rotate_left
            ·
             simp only [AP]; rfl
            refine pure_ (i := 26) (N := some 89) (v := undef) (a' := ?_) #[true, true, true, true, true, true, true, true, true, true, true, true, true, true, true, true, true, true, true, true, true, true, true, true, true, true, true, false, false] rfl rfl (any_of HT_.out (by kernel_rfl)) (fun _ _ _ h => h) (Or.inr ⟨by rfl, rfl⟩) ?_ ?_
            rotate_left
            ·
             simp only [AP]; rfl
            refine pure_ (i := 27) (N := some 90) (v := undef) (a' := ?_) #[true, true, true, true, true, true, true, true, true, true, true, true, true, true, true, true, true, true, true, true, true, true, true, true, true, true, true, true, false] rfl rfl (any_of HT_.out (by kernel_rfl)) (fun _ _ _ h => h) (Or.inr ⟨by rfl, rfl⟩) ?_ ?_
            rotate_left
            ·
             simp only [AP]; rfl
            refine pure_ (i := 28) (N := some 91) (v := ?_) (a' := ?_) #[true, true, true, true, true, true, true, true, true, true, true, true, true, true, true, true, true, true, true, true, true, true, true, true, true, true, true, true, true] rfl rfl (any_of HT_.out (by kernel_rfl)) (fun _ _ _ h => h) (Or.inl ⟨by rfl, ?_⟩) ?_ ?_
            rotate_left
            ·
             intro w'; go_simp; with_reducible rfl
            rotate_left
            ·
             simp only [AP]; rfl
            refine done_ (done_of HT_.out (by kernel_rfl)) ?_
            try go_wp2
            go_roundg k3
            case measure => have := HK1.out; have := HK2.out; have := HK3.out; omega
            case rel => exact ⟨(x4_3), (wrap64 (x9_3 + 1)), (by first | rfl | (simp; done) | (simp [*]; done)), (by first | rfl | (simp; done) | (simp [*]; done)), H', ⟨by have := HK1.out; have := HK2.out; have := HK3.out; omega⟩, ⟨rU HO_3.out⟩, ⟨bU HB.out⟩⟩
          ·
           rw [if_neg c19] at H
           exact absurd H (by simp)
         ·
          rw [if_neg c18] at H
          have c18b0 := decide_eq_false c18
          clear c18
          by_cases c33 : (wrap64 ((x3_1.length : Int) - 1)) ≥ 0
          ·
           rw [if_pos c33] at H
           have c33b0 := decide_eq_true c33
           clear c33
           obtain ⟨ji34, hji34⟩ : ∃ j_ : Int, (wrap64 ((x3_1.length : Int) - 1)) = j_ := ⟨_, rfl⟩
           replace H : (if 0 ≤ (ji34) then (if (ji34) < (x3_1.length : Int) then (if (wrap64 (((rd_T33 x3_1 (ji34)).f2) + ((rd_T33 x3_1 (ji34)).f1))) = x5_2 then (tegularef32_Runs.l0 k3 l0 (x3_1.set ((ji34) : Int).toNat (⟨(rd_T33 x3_1 (ji34)).f0, wrap64 (((rd_T33 x3_1 (ji34)).f1) + (wrap64 (x4_3 - x5_2))), (rd_T33 x3_1 (ji34)).f2⟩ : S33)) x4_3) else (if x3_1.length < 5864062014805 then (tegularef32_Runs.l0 k3 l0 (x3_1 ++ [(⟨0, wrap64 (x4_3 - x5_2), x5_2⟩ : S33)]) x4_3) else (none))) else (none)) else (none)) = some r := by first | (rw [hji34] at H; exact H) | (simp only [hji34] at H ⊢; exact H)
           (try rw [hji34] at c33b0)
           have hji34w : (IntKind.i64.wrap ((x3_1.length : Int) - 1)) = ji34 := (i64_w _).trans hji34
           by_cases c35 : 0 ≤ (ji34)
           ·
            rw [if_pos c35] at H
            have c35b0 := decide_eq_true c35
            clear c35
            by_cases c36 : (ji34) < (x3_1.length : Int)
            ·
             rw [if_pos c36] at H
             have c36b0 := decide_eq_true c36
             clear c36
             by_cases c37 : (wrap64 (((rd_T33 x3_1 (ji34)).f2) + ((rd_T33 x3_1 (ji34)).f1))) = x5_2
             ·
              rw [if_pos c37] at H
              have c37b0 : ((wrap64 (((rd_T33 x3_1 (ji34)).f2) + ((rd_T33 x3_1 (ji34)).f1))) == x5_2) = true := beq_iff_eq.mpr c37
              have c37b1 : ((wrap64 (((rd_T33 x3_1 (ji34)).f2) + ((rd_T33 x3_1 (ji34)).f1))) != x5_2) = false := bne_eq_false_iff_eq.mpr c37
              clear c37
              obtain ⟨y230, hy230⟩ : ∃ y_ : List (S33), y_ = (x3_1.set ((ji34) : Int).toNat (⟨(rd_T33 x3_1 (ji34)).f0, wrap64 (((rd_T33 x3_1 (ji34)).f1) + (wrap64 (x4_3 - x5_2))), (rd_T33 x3_1 (ji34)).f2⟩ : S33)) := ⟨_, rfl⟩
              replace H : (tegularef32_Runs.l0 k3 l0 y230 x4_3) = some r := by first | (rw [hy230]; exact H) | exact H
              have Ny230 := Aside0.mk hy230
              clear hy230
              have H' := Aside0.mk H
              clear H
              obtain ⟨Ao39, co39, eo39⟩ := Kd.R_slice HO_3.out
              subst eo39
              try go_wp2
              have n0_ := Aside0.mk (Kd.R_drew HO_3.out)
              have n1_ := Aside0.mk (below_drew1 HB.out)
              clear HO_3
              clear HB
              have HO_3 := n0_
              have HB := n1_
              clear n0_ n1_
              have p227 : 0 ≤ ((ji34) : Int) := of_decide_eq_true (by first | (with_reducible assumption) | assumption)
              have q227 : (ji34) < (x3_1.length : Int) := of_decide_eq_true (by first | (with_reducible assumption) | assumption)
              obtain ⟨ad227, e227, hx227_0, hx227_1, hx227_2⟩ := at_T33 (Kd.R_reads' HO_3.out).2.2 (ji34) p227 q227
              cases e227
              replace p227 := eq_true p227
              replace q227 := eq_true q227
              have p228 : 0 ≤ ((ji34) : Int) := of_decide_eq_true (by first | (with_reducible assumption) | assumption)
              have q228 : (ji34) < (x3_1.length : Int) := of_decide_eq_true (by first | (with_reducible assumption) | assumption)
              obtain ⟨ad228, e228, hx228_0, hx228_1, hx228_2⟩ := at_T33 (Kd.R_reads' HO_3.out).2.2 (ji34) p228 q228
              obtain rfl : ad227 = ad228 := (by injection e228)
              replace p228 := eq_true p228
              replace q228 := eq_true q228
              refine start_ (n := 17) (S := fun w' => w'.cell? (ad227.add (((ji34)).toNat * 3)) = some (.int .i64 ((rd_T33 x3_1 (ji34)).f0)) ∧ w'.cell? ⟨(ad227.add (((ji34)).toNat * 3)).block, (ad227.add (((ji34)).toNat * 3)).off + 1, none⟩ = some (.int .i64 ((rd_T33 x3_1 (ji34)).f1)) ∧ w'.cell? ⟨(ad227.add (((ji34)).toNat * 3)).block, (ad227.add (((ji34)).toNat * 3)).off + 2, none⟩ = some (.int .i64 ((rd_T33 x3_1 (ji34)).f2)) ∧ w'.cell? (ad227.add (((ji34)).toNat * 3)) = some (.int .i64 ((rd_T33 x3_1 (ji34)).f0)) ∧ w'.cell? ⟨(ad227.add (((ji34)).toNat * 3)).block, (ad227.add (((ji34)).toNat * 3)).off + 1, none⟩ = some (.int .i64 ((rd_T33 x3_1 (ji34)).f1)) ∧ w'.cell? ⟨(ad227.add (((ji34)).toNat * 3)).block, (ad227.add (((ji34)).toNat * 3)).off + 2, none⟩ = some (.int .i64 ((rd_T33 x3_1 (ji34)).f2))) (ds := []) #[false, false, false, false, false, false, false, false, false, false, false, false, false, false, false, false, false] (by kernel_rfl) rfl rfl ⟨hx227_0, hx227_1, hx227_2, hx228_0, hx228_1, hx228_2⟩ (fun hHeld => ?_); refine with_tabW tegularef32_Runs.tab20 tegularef32_Runs.bits20 (fun HT_ HW_ => ?_)
              generalize wr.drew = w40 at HO_3 HB hx227_0 hx227_1 hx227_2 hx228_0 hx228_1 hx228_2 hHeld ⊢
              refine pure_ (i := 0) (N := some 106) (v := ?_) (a' := ?_) #[true, false, false, false, false, false, false, false, false, false, false, false, false, false, false, false, false] rfl rfl (any_of HT_.out (by kernel_rfl)) (fun _ _ _ h => h) (Or.inl ⟨by rfl, ?_⟩) ?_ ?_
              rotate_left
              ·
               intro w'; go_simp; with_reducible rfl
              rotate_left
              ·
               simp only [AP]; rfl
              refine pure_ (i := 1) (N := some 107) (v := ?_) (a' := ?_) #[true, true, false, false, false, false, false, false, false, false, false, false, false, false, false, false, false] rfl rfl (any_of HT_.out (by kernel_rfl)) (fun _ _ _ h => h) (Or.inl ⟨by rfl, ?_⟩) ?_ ?_
              rotate_left
              ·
               intro w'; go_simp; with_reducible rfl
              rotate_left
              ·
               simp only [AP]; rfl
              refine pure_ (i := 2) (N := some 108) (v := ?_) (a' := ?_) #[true, true, true, false, false, false, false, false, false, false, false, false, false, false, false, false, false] rfl rfl (any_of HT_.out (by kernel_rfl)) (fun _ _ _ h => h) (Or.inl ⟨by rfl, ?_⟩) ?_ ?_
              rotate_left
              ·
               intro w'; go_simp; with_reducible rfl
              rotate_left
              ·
               simp only [AP]; rfl
              refine pure_ (i := 3) (N := some 109) (v := ?_) (a' := ?_) #[true, true, true, true, false, false, false, false, false, false, false, false, false, false, false, false, false] rfl rfl (any_of HT_.out (by kernel_rfl)) (fun _ _ _ h => h) (Or.inl ⟨by rfl, ?_⟩) ?_ ?_
              rotate_left
              ·
               intro w'; go_simp; with_reducible rfl
              rotate_left
              ·
               simp only [AP]; rfl
              refine pure_ (i := 4) (N := some 110) (v := ?_) (a' := ?_) #[true, true, true, true, true, false, false, false, false, false, false, false, false, false, false, false, false] rfl rfl (any_of HT_.out (by kernel_rfl)) (fun _ _ _ h => h) (Or.inl ⟨by rfl, ?_⟩) ?_ ?_
              rotate_left
              ·
               intro w'; go_simp; with_reducible rfl
              rotate_left
              ·
               simp only [AP]; rfl
              refine pure_ (i := 5) (N := some 111) (v := ?_) (a' := ?_) #[true, true, true, true, true, true, false, false, false, false, false, false, false, false, false, false, false] rfl rfl (any_of HT_.out (by kernel_rfl)) (fun _ _ _ h => h) (Or.inl ⟨by rfl, ?_⟩) ?_ ?_
              rotate_left
              ·
               intro w'; go_simp; with_reducible rfl
              rotate_left
              ·
               simp only [AP]; rfl
              refine pure_ (i := 6) (N := some 112) (v := ?_) (a' := ?_) #[true, true, true, true, true, true, true, false, false, false, false, false, false, false, false, false, false] rfl rfl (any_of HT_.out (by kernel_rfl)) (fun _ _ _ h => h) (Or.inl ⟨by rfl, ?_⟩) ?_ ?_
              rotate_left
              ·
               intro w'; go_simp; with_reducible rfl
              rotate_left
              ·
               simp only [AP]; rfl
              refine pure_ (i := 8) (N := some 114) (v := ?_) (a' := ?_) #[true, true, true, true, true, true, true, false, true, false, false, false, false, false, false, false, false] rfl rfl (any_of HT_.out (by kernel_rfl)) (fun _ _ _ h => h) (Or.inl ⟨by rfl, ?_⟩) ?_ ?_
              rotate_left
              ·
               intro w'; go_simp; with_reducible rfl
              rotate_left
              ·
               simp only [AP]; rfl
              refine pure_ (i := 9) (N := some 115) (v := ?_) (a' := ?_) #[true, true, true, true, true, true, true, false, true, true, false, false, false, false, false, false, false] rfl rfl (any_of HT_.out (by kernel_rfl)) (fun _ _ _ h => h) (Or.inl ⟨by rfl, ?_⟩) ?_ ?_
              rotate_left
              ·
               intro w'; go_simp; with_reducible rfl
              rotate_left
              ·
               simp only [AP]; rfl
              refine pure_ (i := 10) (N := some 116) (v := ?_) (a' := ?_) #[true, true, true, true, true, true, true, false, true, true, true, false, false, false, false, false, false] rfl rfl (any_of HT_.out (by kernel_rfl)) (fun _ _ _ h => h) (Or.inl ⟨by rfl, ?_⟩) ?_ ?_
              rotate_left
              ·
               intro w'; go_simp; with_reducible rfl
              rotate_left
              ·
               simp only [AP]; rfl
              refine pure_ (i := 11) (N := some 117) (v := ?_) (a' := ?_) #[true, true, true, true, true, true, true, false, true, true, true, true, false, false, false, false, false] rfl rfl (any_of HT_.out (by kernel_rfl)) (fun _ _ _ h => h) (Or.inl ⟨by rfl, ?_⟩) ?_ ?_
              rotate_left
              ·
               intro w'; go_simp; with_reducible rfl
              rotate_left
              ·
               simp only [AP]; rfl
              refine pure_ (i := 14) (N := some 120) (v := ?_) (a' := ?_) #[true, true, true, true, true, true, true, false, true, true, true, true, false, false, true, false, false] rfl rfl (any_of HT_.out (by kernel_rfl)) (fun _ _ _ h => h) (Or.inl ⟨by rfl, ?_⟩) ?_ ?_
              rotate_left
              ·
               intro w'; go_simp; with_reducible rfl
              rotate_left
              ·
               simp only [AP]; rfl
              refine take_ (i := 7) (N := some 113) (v := ?_) (a' := ?_) #[true, true, true, true, true, true, true, true, true, true, true, true, false, false, true, false, false] rfl rfl (take_ofW HT_.out HW_.out (by kernel_rfl)) (fun _ _ _ h => h) (Or.inl ⟨by rfl, ?_⟩) hHeld ?_ ?_
              rotate_left
              ·
               rintro w' ⟨s0, s1, s2, s3, s4, s5⟩
               go_simp; with_reducible rfl
              rotate_left
              ·
               simp only [AP]; rfl
              refine take_ (i := 12) (N := some 118) (v := ?_) (a' := ?_) #[true, true, true, true, true, true, true, true, true, true, true, true, true, false, true, false, false] rfl rfl (take_ofW HT_.out HW_.out (by kernel_rfl)) (fun _ _ _ h => h) (Or.inl ⟨by rfl, ?_⟩) hHeld ?_ ?_
              rotate_left
              ·
               rintro w' ⟨s0, s1, s2, s3, s4, s5⟩
               go_simp; with_reducible rfl
              rotate_left
              ·
               simp only [AP]; rfl
              refine pure_ (i := 13) (N := some 119) (v := ?_) (a' := ?_) #[true, true, true, true, true, true, true, true, true, true, true, true, true, true, true, false, false] rfl rfl (any_of HT_.out (by kernel_rfl)) (fun _ _ _ h => h) (Or.inl ⟨by rfl, ?_⟩) ?_ ?_
              rotate_left
              ·
               intro w'; go_simp; with_reducible rfl
              rotate_left
              ·
               simp only [AP]; rfl
              refine pure_ (i := 15) (N := some 121) (v := ?_) (a' := ?_) #[true, true, true, true, true, true, true, true, true, true, true, true, true, true, true, true, false] rfl rfl (any_of HT_.out (by kernel_rfl)) (fun _ _ _ h => h) (Or.inl ⟨by rfl, ?_⟩) ?_ ?_
              rotate_left
              ·
               intro w'; go_simp; with_reducible rfl
              rotate_left
              ·
               simp only [AP]; rfl
              refine pure_ (i := 16) (N := some 122) (v := ?_) (a' := ?_) #[true, true, true, true, true, true, true, true, true, true, true, true, true, true, true, true, true] rfl rfl (any_of HT_.out (by kernel_rfl)) (fun _ _ _ h => h) (Or.inl ⟨by rfl, ?_⟩) ?_ ?_
              rotate_left
              ·
               intro w'; go_simp; with_reducible rfl
              rotate_left
              ·
               simp only [AP]; rfl
              refine done_ (done_of HT_.out (by kernel_rfl)) ?_
              have p229 : 0 ≤ ((ji34) : Int) := of_decide_eq_true (by first | (with_reducible assumption) | assumption)
              have q229 : (ji34) < (x3_1.length : Int) := of_decide_eq_true (by first | (with_reducible assumption) | assumption)
              obtain ⟨ad229, e229, hx229_0, hx229_1, hx229_2⟩ := at_T33 (Kd.R_reads' HO_3.out).2.2 (ji34) p229 q229
              obtain rfl : ad227 = ad229 := (by injection e229)
              replace p229 := eq_true p229
              replace q229 := eq_true q229
              have p38 : 0 ≤ ((ji34) : Int) := of_decide_eq_true (by first | (with_reducible assumption) | assumption)
              have q38 : ((ji34) : Int) < ((x3_1.length : Int) : Int) := of_decide_eq_true (by first | (with_reducible assumption) | assumption)
              obtain ⟨go38, co38, eo38, gb38, gl38, cl38, HG38⟩ := Kd.R_form HO_3.out (by omega)
              (first | cases eo38 | (injection eo38 with ea_ en_ ec_; (first | subst ea_ | (injection ea_ with ea_; subst ea_)); subst ec_; clear en_))
              have GB38 := Aside0.mk gb38
              have GG38 := Aside0.mk HG38
              clear gb38 gl38 HG38
              (first | simp only [add_plain] at hx227_0 | skip)
              (first | simp only [add_plain] at hx227_1 | skip)
              (first | simp only [add_plain] at hx227_2 | skip)
              (first | simp only [add_plain] at hx228_0 | skip)
              (first | simp only [add_plain] at hx228_1 | skip)
              (first | simp only [add_plain] at hx228_2 | skip)
              (first | simp only [add_plain] at hx229_0 | skip)
              (first | simp only [add_plain] at hx229_1 | skip)
              (first | simp only [add_plain] at hx229_2 | skip)
              obtain ⟨ce38, hcl38, hM38, hcc38, hfr38⟩ := Kd.R_elem HO_3.out z33 ((ji34) : Int) p38 q38
              obtain rfl := k33_openM hM38
              have hx38_0 : w40.cell? ⟨go38, ((ji34) : Int).toNat * 3, none⟩ = some (.int .i64 ((rd_T33 x3_1 (ji34)).f0)) := hcc38 0 _ rfl
              have hx38_1 : w40.cell? ⟨go38, ((ji34) : Int).toNat * 3 + 1, none⟩ = some (.int .i64 ((rd_T33 x3_1 (ji34)).f1)) := hcc38 1 _ rfl
              have hx38_2 : w40.cell? ⟨go38, ((ji34) : Int).toNat * 3 + 2, none⟩ = some (.int .i64 ((rd_T33 x3_1 (ji34)).f2)) := hcc38 2 _ rfl
              have hf38_0 : w40.frozen? ⟨go38, ((ji34) : Int).toNat * 3, none⟩ = false := hfr38 0
              have hf38_1 : w40.frozen? ⟨go38, ((ji34) : Int).toNat * 3 + 1, none⟩ = false := hfr38 1
              have hf38_2 : w40.frozen? ⟨go38, ((ji34) : Int).toNat * 3 + 2, none⟩ = false := hfr38 2
              clear hcl38 hcc38 hfr38 hM38
              replace p38 := eq_true p38
              replace q38 := eq_true q38
              have HX41 := Aside0.mk (show Kd.R k33 33 w40 w.heap.size (fun _ => True) (.slice (some ⟨go38, 0, none⟩) x3_1.length co39) x3_1 from (rU HO_3.out))
              obtain ⟨ce41, hcl41, hM41, hcc41, hfr41⟩ := Kd.R_elem HX41.out z33 ((ji34) : Int) (of_decide_eq_true (by first | (with_reducible assumption) | assumption)) (by have h_ : ((ji34) : Int) < ((x3_1.length : Int) : Int) := of_decide_eq_true (by first | (with_reducible assumption) | assumption); first | exact h_ | (have e_ := (Kd.R_reads' HO_3.out).1; omega) | simpa using h_)
              obtain rfl := k33_openM hM41
              have HP41 := Kd.R_seg HX41.out ((ji34) : Int) (of_decide_eq_true (by first | (with_reducible assumption) | assumption)) (by have h_ : ((ji34) : Int) < ((x3_1.length : Int) : Int) := of_decide_eq_true (by first | (with_reducible assumption) | assumption); first | exact h_ | (have e_ := (Kd.R_reads' HO_3.out).1; omega) | simpa using h_) (seg := [.int .i64 (wrap64 (((rd_T33 x3_1 (ji34)).f1) + (wrap64 (x4_3 - x5_2))))]) (j := 1) hcl41 hcc41 (show 2 ≤ 3 from by decide) (x' := (⟨(rd_T33 x3_1 (ji34)).f0, wrap64 (((rd_T33 x3_1 (ji34)).f1) + (wrap64 (x4_3 - x5_2))), (rd_T33 x3_1 (ji34)).f2⟩ : S33)) (k33_mkM _ _ _ (⟨(rd_T33 x3_1 (ji34)).f0, wrap64 (((rd_T33 x3_1 (ji34)).f1) + (wrap64 (x4_3 - x5_2))), (rd_T33 x3_1 (ji34)).f2⟩ : S33) ) (fun _ hk => hk)
              have hx41_1 := hcc41 1 _ rfl
              (try simp only [show (k33).sz = 3 from rfl, Nat.mul_one, Nat.add_zero] at hx41_1)
              have hf41_1 := hfr41 1
              (try simp only [show (k33).sz = 3 from rfl, Nat.mul_one, Nat.add_zero] at hf41_1)
              clear hcl41 hcc41 hfr41 hM41
              try go_wp2_with (first | ((with_reducible refine gate_store (t := 3) (p := 133) rfl ?_); refine store_event (t := 3) (p := 133) (v := ?vo_w42) (w1 := (w40.setCell ⟨go38, ((ji34) : Int).toNat * 3 + 1, none⟩ (.int .i64 (wrap64 (((rd_T33 x3_1 (ji34)).f1) + (wrap64 (x4_3 - x5_2))))))) ?hg ?ho ?hn ?hr ?_; (case ho => rfl); (case hg => rfl); (case hn => rfl); (case hr => first | (go_simp; done) | (go_simp; rfl)); intro w42 hw; have hg : w40.grownBy w42 (some go38) := (by rw [hw]; exact HP41.2); have hp_ : Kd.R k33 33 w42 w.heap.size (fun _ => True) (.slice (some ⟨go38, 0, none⟩) x3_1.length co39) y230 := (by rw [hw, Ny230.out]; exact HP41.1); clear HP41; replace HO_3 := Aside0.mk (hp_); replace HB := Aside0.mk ((by rw [hw]; exact below_set (HB.out) GB38.out : Below w.heap.size w w42)); clear hg hw hp_))
              go_roundg k3
              case measure => have := HK1.out; have := HK2.out; have := HK3.out; omega
              case rel => exact ⟨(y230), (x4_3), (by first | rfl | (simp; done) | (simp [*]; done)), H', ⟨by have := HK1.out; have := HK2.out; have := HK3.out; omega⟩, ⟨rU HO_3.out⟩, ⟨bU HB.out⟩⟩
             ·
              rw [if_neg c37] at H
              have c37b0 : ((wrap64 (((rd_T33 x3_1 (ji34)).f2) + ((rd_T33 x3_1 (ji34)).f1))) == x5_2) = false := beq_eq_false_iff_ne.mpr c37
              have c37b1 : ((wrap64 (((rd_T33 x3_1 (ji34)).f2) + ((rd_T33 x3_1 (ji34)).f1))) != x5_2) = true := bne_iff_ne.mpr c37
              by_cases c43 : x3_1.length < 5864062014805
              ·
               rw [if_pos c43] at H
               have LMc43 := Aside0.mk c43
               clear c43
               obtain ⟨y231, hy231⟩ : ∃ y_ : List (S33), y_ = (x3_1 ++ [(⟨0, wrap64 (x4_3 - x5_2), x5_2⟩ : S33)]) := ⟨_, rfl⟩
               replace H : (tegularef32_Runs.l0 k3 l0 y231 x4_3) = some r := by first | (rw [hy231]; exact H) | exact H
               have Ny231 := Aside0.mk hy231
               clear hy231
               have H' := Aside0.mk H
               clear H
               obtain ⟨Ao44, co44, eo44⟩ := Kd.R_slice HO_3.out
               subst eo44
               try go_wp2
               have n0_ := Aside0.mk (Kd.R_drew HO_3.out)
               have n1_ := Aside0.mk (below_drew1 HB.out)
               clear HO_3
               clear HB
               have HO_3 := n0_
               have HB := n1_
               clear n0_ n1_
               have p227 : 0 ≤ ((ji34) : Int) := of_decide_eq_true (by first | (with_reducible assumption) | assumption)
               have q227 : (ji34) < (x3_1.length : Int) := of_decide_eq_true (by first | (with_reducible assumption) | assumption)
               obtain ⟨ad227, e227, hx227_0, hx227_1, hx227_2⟩ := at_T33 (Kd.R_reads' HO_3.out).2.2 (ji34) p227 q227
               cases e227
               replace p227 := eq_true p227
               replace q227 := eq_true q227
               have p228 : 0 ≤ ((ji34) : Int) := of_decide_eq_true (by first | (with_reducible assumption) | assumption)
               have q228 : (ji34) < (x3_1.length : Int) := of_decide_eq_true (by first | (with_reducible assumption) | assumption)
               obtain ⟨ad228, e228, hx228_0, hx228_1, hx228_2⟩ := at_T33 (Kd.R_reads' HO_3.out).2.2 (ji34) p228 q228
               obtain rfl : ad227 = ad228 := (by injection e228)
               replace p228 := eq_true p228
               replace q228 := eq_true q228
               refine start_ (n := 17) (S := fun w' => w'.cell? (ad227.add (((ji34)).toNat * 3)) = some (.int .i64 ((rd_T33 x3_1 (ji34)).f0)) ∧ w'.cell? ⟨(ad227.add (((ji34)).toNat * 3)).block, (ad227.add (((ji34)).toNat * 3)).off + 1, none⟩ = some (.int .i64 ((rd_T33 x3_1 (ji34)).f1)) ∧ w'.cell? ⟨(ad227.add (((ji34)).toNat * 3)).block, (ad227.add (((ji34)).toNat * 3)).off + 2, none⟩ = some (.int .i64 ((rd_T33 x3_1 (ji34)).f2)) ∧ w'.cell? (ad227.add (((ji34)).toNat * 3)) = some (.int .i64 ((rd_T33 x3_1 (ji34)).f0)) ∧ w'.cell? ⟨(ad227.add (((ji34)).toNat * 3)).block, (ad227.add (((ji34)).toNat * 3)).off + 1, none⟩ = some (.int .i64 ((rd_T33 x3_1 (ji34)).f1)) ∧ w'.cell? ⟨(ad227.add (((ji34)).toNat * 3)).block, (ad227.add (((ji34)).toNat * 3)).off + 2, none⟩ = some (.int .i64 ((rd_T33 x3_1 (ji34)).f2))) (ds := []) #[false, false, false, false, false, false, false, false, false, false, false, false, false, false, false, false, false] (by kernel_rfl) rfl rfl ⟨hx227_0, hx227_1, hx227_2, hx228_0, hx228_1, hx228_2⟩ (fun hHeld => ?_); refine with_tabW tegularef32_Runs.tab20 tegularef32_Runs.bits20 (fun HT_ HW_ => ?_)
               generalize wr.drew = w45 at HO_3 HB hx227_0 hx227_1 hx227_2 hx228_0 hx228_1 hx228_2 hHeld ⊢
               refine pure_ (i := 0) (N := some 106) (v := ?_) (a' := ?_) #[true, false, false, false, false, false, false, false, false, false, false, false, false, false, false, false, false] rfl rfl (any_of HT_.out (by kernel_rfl)) (fun _ _ _ h => h) (Or.inl ⟨by rfl, ?_⟩) ?_ ?_
               rotate_left
               ·
                intro w'; go_simp; with_reducible rfl
               rotate_left
               ·
                simp only [AP]; rfl
               refine pure_ (i := 1) (N := some 107) (v := ?_) (a' := ?_) #[true, true, false, false, false, false, false, false, false, false, false, false, false, false, false, false, false] rfl rfl (any_of HT_.out (by kernel_rfl)) (fun _ _ _ h => h) (Or.inl ⟨by rfl, ?_⟩) ?_ ?_
               rotate_left
               ·
                intro w'; go_simp; with_reducible rfl
               rotate_left
               ·
                simp only [AP]; rfl
               refine pure_ (i := 2) (N := some 108) (v := ?_) (a' := ?_) #[true, true, true, false, false, false, false, false, false, false, false, false, false, false, false, false, false] rfl rfl (any_of HT_.out (by kernel_rfl)) (fun _ _ _ h => h) (Or.inl ⟨by rfl, ?_⟩) ?_ ?_
               rotate_left
               ·
                intro w'; go_simp; with_reducible rfl
               rotate_left
               ·
                simp only [AP]; rfl
               refine pure_ (i := 3) (N := some 109) (v := ?_) (a' := ?_) #[true, true, true, true, false, false, false, false, false, false, false, false, false, false, false, false, false] rfl rfl (any_of HT_.out (by kernel_rfl)) (fun _ _ _ h => h) (Or.inl ⟨by rfl, ?_⟩) ?_ ?_
               rotate_left
               ·
                intro w'; go_simp; with_reducible rfl
               rotate_left
               ·
                simp only [AP]; rfl
               refine pure_ (i := 4) (N := some 110) (v := ?_) (a' := ?_) #[true, true, true, true, true, false, false, false, false, false, false, false, false, false, false, false, false] rfl rfl (any_of HT_.out (by kernel_rfl)) (fun _ _ _ h => h) (Or.inl ⟨by rfl, ?_⟩) ?_ ?_
               rotate_left
               ·
                intro w'; go_simp; with_reducible rfl
               rotate_left
               ·
                simp only [AP]; rfl
               refine pure_ (i := 5) (N := some 111) (v := ?_) (a' := ?_) #[true, true, true, true, true, true, false, false, false, false, false, false, false, false, false, false, false] rfl rfl (any_of HT_.out (by kernel_rfl)) (fun _ _ _ h => h) (Or.inl ⟨by rfl, ?_⟩) ?_ ?_
               rotate_left
               ·
                intro w'; go_simp; with_reducible rfl
               rotate_left
               ·
                simp only [AP]; rfl
               refine pure_ (i := 6) (N := some 112) (v := ?_) (a' := ?_) #[true, true, true, true, true, true, true, false, false, false, false, false, false, false, false, false, false] rfl rfl (any_of HT_.out (by kernel_rfl)) (fun _ _ _ h => h) (Or.inl ⟨by rfl, ?_⟩) ?_ ?_
               rotate_left
               ·
                intro w'; go_simp; with_reducible rfl
               rotate_left
               ·
                simp only [AP]; rfl
               refine pure_ (i := 8) (N := some 114) (v := ?_) (a' := ?_) #[true, true, true, true, true, true, true, false, true, false, false, false, false, false, false, false, false] rfl rfl (any_of HT_.out (by kernel_rfl)) (fun _ _ _ h => h) (Or.inl ⟨by rfl, ?_⟩) ?_ ?_
               rotate_left
               ·
                intro w'; go_simp; with_reducible rfl
               rotate_left
               ·
                simp only [AP]; rfl
               refine pure_ (i := 9) (N := some 115) (v := ?_) (a' := ?_) #[true, true, true, true, true, true, true, false, true, true, false, false, false, false, false, false, false] rfl rfl (any_of HT_.out (by kernel_rfl)) (fun _ _ _ h => h) (Or.inl ⟨by rfl, ?_⟩) ?_ ?_
               rotate_left
               ·
                intro w'; go_simp; with_reducible rfl
               rotate_left
               ·
                simp only [AP]; rfl
               refine pure_ (i := 10) (N := some 116) (v := ?_) (a' := ?_) #[true, true, true, true, true, true, true, false, true, true, true, false, false, false, false, false, false] rfl rfl (any_of HT_.out (by kernel_rfl)) (fun _ _ _ h => h) (Or.inl ⟨by rfl, ?_⟩) ?_ ?_
               rotate_left
               ·
                intro w'; go_simp; with_reducible rfl
               rotate_left
               ·
                simp only [AP]; rfl
               refine pure_ (i := 11) (N := some 117) (v := ?_) (a' := ?_) #[true, true, true, true, true, true, true, false, true, true, true, true, false, false, false, false, false] rfl rfl (any_of HT_.out (by kernel_rfl)) (fun _ _ _ h => h) (Or.inl ⟨by rfl, ?_⟩) ?_ ?_
               rotate_left
               ·
                intro w'; go_simp; with_reducible rfl
               rotate_left
               ·
                simp only [AP]; rfl
               refine pure_ (i := 14) (N := some 120) (v := ?_) (a' := ?_) #[true, true, true, true, true, true, true, false, true, true, true, true, false, false, true, false, false] rfl rfl (any_of HT_.out (by kernel_rfl)) (fun _ _ _ h => h) (Or.inl ⟨by rfl, ?_⟩) ?_ ?_
               rotate_left
               ·
                intro w'; go_simp; with_reducible rfl
               rotate_left
               ·
                simp only [AP]; rfl
               refine take_ (i := 7) (N := some 113) (v := ?_) (a' := ?_) #[true, true, true, true, true, true, true, true, true, true, true, true, false, false, true, false, false] rfl rfl (take_ofW HT_.out HW_.out (by kernel_rfl)) (fun _ _ _ h => h) (Or.inl ⟨by rfl, ?_⟩) hHeld ?_ ?_
               rotate_left
               ·
                rintro w' ⟨s0, s1, s2, s3, s4, s5⟩
                go_simp; with_reducible rfl
               rotate_left
               ·
                simp only [AP]; rfl
               refine take_ (i := 12) (N := some 118) (v := ?_) (a' := ?_) #[true, true, true, true, true, true, true, true, true, true, true, true, true, false, true, false, false] rfl rfl (take_ofW HT_.out HW_.out (by kernel_rfl)) (fun _ _ _ h => h) (Or.inl ⟨by rfl, ?_⟩) hHeld ?_ ?_
               rotate_left
               ·
                rintro w' ⟨s0, s1, s2, s3, s4, s5⟩
                go_simp; with_reducible rfl
               rotate_left
               ·
                simp only [AP]; rfl
               refine pure_ (i := 13) (N := some 119) (v := ?_) (a' := ?_) #[true, true, true, true, true, true, true, true, true, true, true, true, true, true, true, false, false] rfl rfl (any_of HT_.out (by kernel_rfl)) (fun _ _ _ h => h) (Or.inl ⟨by rfl, ?_⟩) ?_ ?_
               rotate_left
               ·
                intro w'; go_simp; with_reducible rfl
               rotate_left
               ·
                simp only [AP]; rfl
               refine pure_ (i := 15) (N := some 121) (v := ?_) (a' := ?_) #[true, true, true, true, true, true, true, true, true, true, true, true, true, true, true, true, false] rfl rfl (any_of HT_.out (by kernel_rfl)) (fun _ _ _ h => h) (Or.inl ⟨by rfl, ?_⟩) ?_ ?_
               rotate_left
               ·
                intro w'; go_simp; with_reducible rfl
               rotate_left
               ·
                simp only [AP]; rfl
               refine pure_ (i := 16) (N := some 122) (v := ?_) (a' := ?_) #[true, true, true, true, true, true, true, true, true, true, true, true, true, true, true, true, true] rfl rfl (any_of HT_.out (by kernel_rfl)) (fun _ _ _ h => h) (Or.inl ⟨by rfl, ?_⟩) ?_ ?_
               rotate_left
               ·
                intro w'; go_simp; with_reducible rfl
               rotate_left
               ·
                simp only [AP]; rfl
               refine done_ (done_of HT_.out (by kernel_rfl)) ?_
               try go_wp2_with (first | ((with_reducible refine gate_builtin (b := .append) (xs := #[.tmp 134, .tmp 140]) rfl ?_); at_builtin; refine Kd.R_append k33 (w0 := w) w.heap.size rfl (.tmp 134) (.tmp 140) 22 33 (.agg #[(.int .i64 0), (.int .i64 0), (.int .i64 0)]) 24 rfl Try.underlying22 info33 rfl (by decide) (by omega) (.slice (some ad227) x3_1.length co44) x3_1 (⟨0, wrap64 (x4_3 - x5_2), x5_2⟩ : S33) [.int .i64 0, .int .i64 (wrap64 (x4_3 - x5_2)), .int .i64 x5_2] (fun _ => True) (fun _ => False) rfl rfl ?aP (fun _ hk => hk.elim) ?aF ?aO ?aB ?aS ?aL ?_; (case aP => exact k33_mkM _ _ _ (⟨0, wrap64 (x4_3 - x5_2), x5_2⟩ : S33)); (case aB => exact (bU HB.out)); (case aF => exact (fun _ _ => trivial)); (case aO => exact (rU HO_3.out)); (case aS => exact (below_size (bU HB.out))); (case aL => have := LMc43.out; omega); intro v232 w46 ho hb hg hat; rw [← Ny231.out] at ho; have n0_ := Aside0.mk (hb); have n1_ := Aside0.mk (ho); clear HB; clear HO_3; have HB := n0_; have HO233 := n1_; clear n0_ n1_; clear ho hb hg hat))
               go_roundg k3
               case measure => have := HK1.out; have := HK2.out; have := HK3.out; omega
               case rel => exact ⟨(y231), (x4_3), (by first | rfl | (simp; done) | (simp [*]; done)), H', ⟨by have := HK1.out; have := HK2.out; have := HK3.out; omega⟩, ⟨rU HO233.out⟩, ⟨bU HB.out⟩⟩
              ·
               rw [if_neg c43] at H
               exact absurd H (by simp)
            ·
             rw [if_neg c36] at H
             exact absurd H (by simp)
           ·
            rw [if_neg c35] at H
            exact absurd H (by simp)
          ·
           rw [if_neg c33] at H
           have c33b0 := decide_eq_false c33
           clear c33
           by_cases c47 : x3_1.length < 5864062014805
           ·
            rw [if_pos c47] at H
            have LMc47 := Aside0.mk c47
            clear c47
            obtain ⟨y234, hy234⟩ : ∃ y_ : List (S33), y_ = (x3_1 ++ [(⟨0, wrap64 (x4_3 - x5_2), x5_2⟩ : S33)]) := ⟨_, rfl⟩
            replace H : (tegularef32_Runs.l0 k3 l0 y234 x4_3) = some r := by first | (rw [hy234]; exact H) | exact H
            have Ny234 := Aside0.mk hy234
            clear hy234
            have H' := Aside0.mk H
            clear H
            obtain ⟨Ao48, co48, eo48⟩ := Kd.R_slice HO_3.out
            subst eo48
            try go_wp2
            have n0_ := Aside0.mk (Kd.R_drew HO_3.out)
            have n1_ := Aside0.mk (below_drew1 HB.out)
            clear HO_3
            clear HB
            have HO_3 := n0_
            have HB := n1_
            clear n0_ n1_
            refine start_ (n := 17) (S := fun w' => True) (ds := []) #[false, false, false, false, false, false, false, false, false, false, false, false, false, false, false, false, false] (by kernel_rfl) rfl rfl trivial (fun hHeld => ?_); refine with_tabW tegularef32_Runs.tab20 tegularef32_Runs.bits20 (fun HT_ HW_ => ?_)
            generalize wr.drew = w49 at HO_3 HB hHeld ⊢
            refine pure_ (i := 0) (N := some 106) (v := ?_) (a' := ?_) #[true, false, false, false, false, false, false, false, false, false, false, false, false, false, false, false, false] rfl rfl (any_of HT_.out (by kernel_rfl)) (fun _ _ _ h => h) (Or.inl ⟨by rfl, ?_⟩) ?_ ?_
            rotate_left
            ·
             intro w'; go_simp; with_reducible rfl
            rotate_left
            ·
             simp only [AP]; rfl
            refine pure_ (i := 1) (N := some 107) (v := ?_) (a' := ?_) #[true, true, false, false, false, false, false, false, false, false, false, false, false, false, false, false, false] rfl rfl (any_of HT_.out (by kernel_rfl)) (fun _ _ _ h => h) (Or.inl ⟨by rfl, ?_⟩) ?_ ?_
            rotate_left
            ·
             intro w'; go_simp; with_reducible rfl
            rotate_left
            ·
             simp only [AP]; rfl
            refine pure_ (i := 2) (N := some 108) (v := ?_) (a' := ?_) #[true, true, true, false, false, false, false, false, false, false, false, false, false, false, false, false, false] rfl rfl (any_of HT_.out (by kernel_rfl)) (fun _ _ _ h => h) (Or.inl ⟨by rfl, ?_⟩) ?_ ?_
            rotate_left
            ·
             intro w'; go_simp; with_reducible rfl
            rotate_left
            ·
             simp only [AP]; rfl
            refine pure_ (i := 3) (N := some 109) (v := undef) (a' := ?_) #[true, true, true, true, false, false, false, false, false, false, false, false, false, false, false, false, false] rfl rfl (any_of HT_.out (by kernel_rfl)) (fun _ _ _ h => h) (Or.inr ⟨by rfl, rfl⟩) ?_ ?_
            rotate_left
            ·
             simp only [AP]; rfl
            refine pure_ (i := 4) (N := some 110) (v := undef) (a' := ?_) #[true, true, true, true, true, false, false, false, false, false, false, false, false, false, false, false, false] rfl rfl (any_of HT_.out (by kernel_rfl)) (fun _ _ _ h => h) (Or.inr ⟨by rfl, rfl⟩) ?_ ?_
            rotate_left
            ·
             simp only [AP]; rfl
            refine pure_ (i := 5) (N := some 111) (v := undef) (a' := ?_) #[true, true, true, true, true, true, false, false, false, false, false, false, false, false, false, false, false] rfl rfl (any_of HT_.out (by kernel_rfl)) (fun _ _ _ h => h) (Or.inr ⟨by rfl, rfl⟩) ?_ ?_
            rotate_left
            ·
             simp only [AP]; rfl
            refine pure_ (i := 6) (N := some 112) (v := undef) (a' := ?_) #[true, true, true, true, true, true, true, false, false, false, false, false, false, false, false, false, false] rfl rfl (any_of HT_.out (by kernel_rfl)) (fun _ _ _ h => h) (Or.inr ⟨by rfl, rfl⟩) ?_ ?_
            rotate_left
            ·
             simp only [AP]; rfl
            refine pure_ (i := 7) (N := some 113) (v := undef) (a' := ?_) #[true, true, true, true, true, true, true, true, false, false, false, false, false, false, false, false, false] rfl rfl (any_of HT_.out (by kernel_rfl)) (fun _ _ _ h => h) (Or.inr ⟨by rfl, rfl⟩) ?_ ?_
            rotate_left
            ·
             simp only [AP]; rfl
            refine pure_ (i := 8) (N := some 114) (v := undef) (a' := ?_) #[true, true, true, true, true, true, true, true, true, false, false, false, false, false, false, false, false] rfl rfl (any_of HT_.out (by kernel_rfl)) (fun _ _ _ h => h) (Or.inr ⟨by rfl, rfl⟩) ?_ ?_
            rotate_left
            ·
             simp only [AP]; rfl
            refine pure_ (i := 9) (N := some 115) (v := undef) (a' := ?_) #[true, true, true, true, true, true, true, true, true, true, false, false, false, false, false, false, false] rfl rfl (any_of HT_.out (by kernel_rfl)) (fun _ _ _ h => h) (Or.inr ⟨by rfl, rfl⟩) ?_ ?_
            rotate_left
            ·
             simp only [AP]; rfl
            refine pure_ (i := 10) (N := some 116) (v := undef) (a' := ?_) #[true, true, true, true, true, true, true, true, true, true, true, false, false, false, false, false, false] rfl rfl (any_of HT_.out (by kernel_rfl)) (fun _ _ _ h => h) (Or.inr ⟨by rfl, rfl⟩) ?_ ?_
            rotate_left
            ·
             simp only [AP]; rfl
            refine pure_ (i := 11) (N := some 117) (v := undef) (a' := ?_) #[true, true, true, true, true, true, true, true, true, true, true, true, false, false, false, false, false] rfl rfl (any_of HT_.out (by kernel_rfl)) (fun _ _ _ h => h) (Or.inr ⟨by rfl, rfl⟩) ?_ ?_
            rotate_left
            ·
             simp only [AP]; rfl
            refine pure_ (i := 12) (N := some 118) (v := undef) (a' := ?_) #[true, true, true, true, true, true, true, true, true, true, true, true, true, false, false, false, false] rfl rfl (any_of HT_.out (by kernel_rfl)) (fun _ _ _ h => h) (Or.inr ⟨by rfl, rfl⟩) ?_ ?_
            rotate_left
            ·
             simp only [AP]; rfl
            refine pure_ (i := 13) (N := some 119) (v := undef) (a' := ?_) #[true, true, true, true, true, true, true, true, true, true, true, true, true, true, false, false, false] rfl rfl (any_of HT_.out (by kernel_rfl)) (fun _ _ _ h => h) (Or.inr ⟨by rfl, rfl⟩) ?_ ?_
            rotate_left
            ·
             simp only [AP]; rfl
            refine pure_ (i := 14) (N := some 120) (v := undef) (a' := ?_) #[true, true, true, true, true, true, true, true, true, true, true, true, true, true, true, false, false] rfl rfl (any_of HT_.out (by kernel_rfl)) (fun _ _ _ h => h) (Or.inr ⟨by rfl, rfl⟩) ?_ ?_
            rotate_left
            ·
             simp only [AP]; rfl
            refine pure_ (i := 15) (N := some 121) (v := undef) (a' := ?_) #[true, true, true, true, true, true, true, true, true, true, true, true, true, true, true, true, false] rfl rfl (any_of HT_.out (by kernel_rfl)) (fun _ _ _ h => h) (Or.inr ⟨by rfl, rfl⟩) ?_ ?_
            rotate_left
            ·
             simp only [AP]; rfl
            refine pure_ (i := 16) (N := some 122) (v := ?_) (a' := ?_) #[true, true, true, true, true, true, true, true, true, true, true, true, true, true, true, true, true] rfl rfl (any_of HT_.out (by kernel_rfl)) (fun _ _ _ h => h) (Or.inl ⟨by rfl, ?_⟩) ?_ ?_
            rotate_left
            ·
             intro w'; go_simp; with_reducible rfl
            rotate_left
            ·
             simp only [AP]; rfl
            refine done_ (done_of HT_.out (by kernel_rfl)) ?_
            try go_wp2_with (first | ((with_reducible refine gate_builtin (b := .append) (xs := #[.tmp 134, .tmp 140]) rfl ?_); at_builtin; refine Kd.R_append k33 (w0 := w) w.heap.size rfl (.tmp 134) (.tmp 140) 22 33 (.agg #[(.int .i64 0), (.int .i64 0), (.int .i64 0)]) 24 rfl Try.underlying22 info33 rfl (by decide) (by omega) (.slice Ao48 x3_1.length co48) x3_1 (⟨0, wrap64 (x4_3 - x5_2), x5_2⟩ : S33) [.int .i64 0, .int .i64 (wrap64 (x4_3 - x5_2)), .int .i64 x5_2] (fun _ => True) (fun _ => False) rfl rfl ?aP (fun _ hk => hk.elim) ?aF ?aO ?aB ?aS ?aL ?_; (case aP => exact k33_mkM _ _ _ (⟨0, wrap64 (x4_3 - x5_2), x5_2⟩ : S33)); (case aB => exact (bU HB.out)); (case aF => exact (fun _ _ => trivial)); (case aO => exact (rU HO_3.out)); (case aS => exact (below_size (bU HB.out))); (case aL => have := LMc47.out; omega); intro v235 w50 ho hb hg hat; rw [← Ny234.out] at ho; have n0_ := Aside0.mk (hb); have n1_ := Aside0.mk (ho); clear HB; clear HO_3; have HB := n0_; have HO236 := n1_; clear n0_ n1_; clear ho hb hg hat))
            go_roundg k3
            case measure => have := HK1.out; have := HK2.out; have := HK3.out; omega
            case rel => exact ⟨(y234), (x4_3), (by first | rfl | (simp; done) | (simp [*]; done)), H', ⟨by have := HK1.out; have := HK2.out; have := HK3.out; omega⟩, ⟨rU HO236.out⟩, ⟨bU HB.out⟩⟩
           ·
            rw [if_neg c47] at H
            exact absurd H (by simp)
      ·
       replace c17 := Bool.eq_false_iff.mpr c17
       subst c17
       have H1 : (some x3_1) = some r := by rw [if_neg (show ¬ (false = true) by decide)] at H; exact H
       clear H
       have H := H1
       clear H1
       obtain rfl := Option.some.inj H
       go_wp2
       go_ret
       exact ⟨_, by first | rfl | (simp [errW_none, errW_some] <;> rfl) | (simp [*, errW_none, errW_some] <;> rfl), rU HO_3.out, bU HB.out⟩

end Go.Proofs.Ytcgihjpnemnkeaa.PExtentRuns
