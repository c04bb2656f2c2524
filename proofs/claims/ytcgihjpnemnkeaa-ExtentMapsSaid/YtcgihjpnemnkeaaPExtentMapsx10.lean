-- Written for this claim by a program of this session (wip/), out of the translation's own print: Lean checks it
import Derived.Test.YtcgihjpnemnkeaaPExtentMapsx0
import Derived.Test.YtcgihjpnemnkeaaPExtentMapsx6
import Derived.Test.YtcgihjpnemnkeaaPExtentMapsx7
import Derived.Test.YtcgihjpnemnkeaaPExtentMapsx8
import Derived.Test.YtcgihjpnemnkeaaPExtentMapsx9
namespace Go.Proofs.Ytcgihjpnemnkeaa.PExtentMaps
open Go.RowKit Go.Proofs.YtcgihjpnemnkeaaW.PrintWords Go.Proofs.YtcgihjpnemnkeaaW.PrintLast Go.Proofs.YtcgihjpnemnkeaaW.PrintMore
attribute [local go_sem] max2_int min2_int max_two min_two max_three min_three max_four min_four   -- for this text's walks alone
set_option linter.unusedVariables false
set_option linter.unusedSimpArgs false

/-! ### tegulalaw32_ExtentMaps: function 9 -/
mutual
def tegulalaw32_ExtentMaps.j0 : Nat → List (S33) → Bool → Int → Int → Int → Int → Int → Option (Bool)
 | 0, _, _, _, _, _, _, _ => none
 | k + 1, x0, x34, x209000, x209001, x209002, x210000, x210001 => if x34 = true then (some true) else ((extent_Put.f k x0 x209000 x209001 x209002).bind fun bt213 => ((extent_Cut.f k bt213.1 (wrap64 (x210000)) (wrap64 (x210001))).bind fun bt220 => (if bt213.2.2 = 0 then (tegulalaw32_ExtentMaps.j1 k x0 (wrap64 (x210000)) (wrap64 (x210001)) bt213.1 bt220.1 (bt220.2.2 != 0) x209000 x209001 x209002) else (tegulalaw32_ExtentMaps.j1 k x0 (wrap64 (x210000)) (wrap64 (x210001)) bt213.1 bt220.1 true x209000 x209001 x209002))))
def tegulalaw32_ExtentMaps.j1 : Nat → List (S33) → Int → Int → List (S33) → List (S33) → Bool → Int → Int → Int → Option (Bool)
 | 0, _, _, _, _, _, _, _, _, _ => none
 | k + 1, x0, x7, x8, x9, x12, x61, x209000, x209001, x209002 => if x61 = true then (some false) else (tegulalaw32_ExtentMaps.l0 k x0 x7 x8 x9 x12 0 x209000 x209001 x209002)
def tegulalaw32_ExtentMaps.l0 : Nat → List (S33) → Int → Int → List (S33) → List (S33) → Int → Int → Int → Int → Option (Bool)
 | 0, _, _, _, _, _, _, _, _, _ => none
 | k + 1, x0, x7, x8, x9, x12, x15, x209000, x209001, x209002 => if x15 < 60 then ((tegularef32_Find.f k x0 x15).bind fun bt227 => (if x15 ≥ x209000 then (tegulalaw32_ExtentMaps.j3 k x0 x7 x8 x9 x12 x15 bt227.1 bt227.2 (decide (x15 < (wrap64 (x209000 + x209001)))) x209000 x209001 x209002) else (tegulalaw32_ExtentMaps.j3 k x0 x7 x8 x9 x12 x15 bt227.1 bt227.2 false x209000 x209001 x209002))) else (some true)
def tegulalaw32_ExtentMaps.j3 : Nat → List (S33) → Int → Int → List (S33) → List (S33) → Int → Int → Bool → Bool → Int → Int → Int → Option (Bool)
 | 0, _, _, _, _, _, _, _, _, _, _, _, _ => none
 | k + 1, x0, x7, x8, x9, x12, x15, x16, x17, x84, x209000, x209001, x209002 => if x84 = true then (tegulalaw32_ExtentMaps.j4 k x0 x7 x8 x9 x12 x15 (wrap64 ((wrap64 (x209002 + x15)) - x209000)) true x209000 x209001 x209002) else (tegulalaw32_ExtentMaps.j4 k x0 x7 x8 x9 x12 x15 x16 x17 x209000 x209001 x209002)
def tegulalaw32_ExtentMaps.j4 : Nat → List (S33) → Int → Int → List (S33) → List (S33) → Int → Int → Bool → Int → Int → Int → Option (Bool)
 | 0, _, _, _, _, _, _, _, _, _, _, _ => none
 | k + 1, x0, x7, x8, x9, x12, x15, x16, x17, x209000, x209001, x209002 => (extent_Find.f k x9 x15).bind fun bt229 => (if bt229.1 = x16 then (tegulalaw32_ExtentMaps.j5 k x0 x7 x8 x9 x12 x15 x16 x17 (bt229.2 != x17) x209000 x209001 x209002) else (tegulalaw32_ExtentMaps.j5 k x0 x7 x8 x9 x12 x15 x16 x17 true x209000 x209001 x209002))
def tegulalaw32_ExtentMaps.j5 : Nat → List (S33) → Int → Int → List (S33) → List (S33) → Int → Int → Bool → Bool → Int → Int → Int → Option (Bool)
 | 0, _, _, _, _, _, _, _, _, _, _, _, _ => none
 | k + 1, x0, x7, x8, x9, x12, x15, x16, x17, x105, x209000, x209001, x209002 => if x105 = true then (some false) else (if x15 ≥ x7 then (tegulalaw32_ExtentMaps.j6 k x0 x7 x8 x9 x12 x15 x16 x17 (decide (x15 < (wrap64 (x7 + x8)))) x209000 x209001 x209002) else (tegulalaw32_ExtentMaps.j6 k x0 x7 x8 x9 x12 x15 x16 x17 false x209000 x209001 x209002))
def tegulalaw32_ExtentMaps.j6 : Nat → List (S33) → Int → Int → List (S33) → List (S33) → Int → Int → Bool → Bool → Int → Int → Int → Option (Bool)
 | 0, _, _, _, _, _, _, _, _, _, _, _, _ => none
 | k + 1, x0, x7, x8, x9, x12, x15, x16, x17, x115, x209000, x209001, x209002 => if x115 = true then ((extent_Find.f k x12 x15).bind fun bt231 => (if bt231.1 = 0 then (if (bt231.2 != false) = true then (some false) else (tegulalaw32_ExtentMaps.l0 k x0 x7 x8 x9 x12 (wrap64 (x15 + 1)) x209000 x209001 x209002)) else (some false))) else ((extent_Find.f k x12 x15).bind fun bt233 => (if bt233.1 = x16 then (if (bt233.2 != x17) = true then (some false) else (tegulalaw32_ExtentMaps.l0 k x0 x7 x8 x9 x12 (wrap64 (x15 + 1)) x209000 x209001 x209002)) else (some false)))
end
def tegulalaw32_ExtentMaps.f (k : Nat) (l0 : List (S33)) (a1_0 : Int) (a1_1 : Int) (a1_2 : Int) (a2_0 : Int) (a2_1 : Int) : Option (Bool) := (tegulalaw32_awake.f k).bind fun t210 => (if t210 = true then (if (l0.length : Int) > 20 then (tegulalaw32_ExtentMaps.j0 k l0 true a1_0 a1_1 a1_2 a2_0 a2_1) else ((tegularef32_Valid.f k l0).bind fun t211 => (if t211 = true then ((tegularef32_One.f a1_0 a1_1 a1_2).bind fun t212 => (tegulalaw32_ExtentMaps.j0 k l0 (!t212) a1_0 a1_1 a1_2 a2_0 a2_1)) else (tegulalaw32_ExtentMaps.j0 k l0 true a1_0 a1_1 a1_2 a2_0 a2_1)))) else (some false))
theorem tegulalaw32_ExtentMaps.mono_l : ∀ k, (∀ y0 y1 y2 y3 y4 y5 y6, LeO (tegulalaw32_ExtentMaps.j0 k y0 y1 y2 y3 y4 y5 y6) (tegulalaw32_ExtentMaps.j0 (k + 1) y0 y1 y2 y3 y4 y5 y6)) ∧ (∀ y0 y1 y2 y3 y4 y5 y6 y7 y8, LeO (tegulalaw32_ExtentMaps.j1 k y0 y1 y2 y3 y4 y5 y6 y7 y8) (tegulalaw32_ExtentMaps.j1 (k + 1) y0 y1 y2 y3 y4 y5 y6 y7 y8)) ∧ (∀ y0 y1 y2 y3 y4 y5 y6 y7 y8, LeO (tegulalaw32_ExtentMaps.l0 k y0 y1 y2 y3 y4 y5 y6 y7 y8) (tegulalaw32_ExtentMaps.l0 (k + 1) y0 y1 y2 y3 y4 y5 y6 y7 y8)) ∧ (∀ y0 y1 y2 y3 y4 y5 y6 y7 y8 y9 y10 y11, LeO (tegulalaw32_ExtentMaps.j3 k y0 y1 y2 y3 y4 y5 y6 y7 y8 y9 y10 y11) (tegulalaw32_ExtentMaps.j3 (k + 1) y0 y1 y2 y3 y4 y5 y6 y7 y8 y9 y10 y11)) ∧ (∀ y0 y1 y2 y3 y4 y5 y6 y7 y8 y9 y10, LeO (tegulalaw32_ExtentMaps.j4 k y0 y1 y2 y3 y4 y5 y6 y7 y8 y9 y10) (tegulalaw32_ExtentMaps.j4 (k + 1) y0 y1 y2 y3 y4 y5 y6 y7 y8 y9 y10)) ∧ (∀ y0 y1 y2 y3 y4 y5 y6 y7 y8 y9 y10 y11, LeO (tegulalaw32_ExtentMaps.j5 k y0 y1 y2 y3 y4 y5 y6 y7 y8 y9 y10 y11) (tegulalaw32_ExtentMaps.j5 (k + 1) y0 y1 y2 y3 y4 y5 y6 y7 y8 y9 y10 y11)) ∧ (∀ y0 y1 y2 y3 y4 y5 y6 y7 y8 y9 y10 y11, LeO (tegulalaw32_ExtentMaps.j6 k y0 y1 y2 y3 y4 y5 y6 y7 y8 y9 y10 y11) (tegulalaw32_ExtentMaps.j6 (k + 1) y0 y1 y2 y3 y4 y5 y6 y7 y8 y9 y10 y11))
 | 0 => ⟨fun _ _ _ _ _ _ _ r h => by simp [tegulalaw32_ExtentMaps.j0] at h, fun _ _ _ _ _ _ _ _ _ r h => by simp [tegulalaw32_ExtentMaps.j1] at h, fun _ _ _ _ _ _ _ _ _ r h => by simp [tegulalaw32_ExtentMaps.l0] at h, fun _ _ _ _ _ _ _ _ _ _ _ _ r h => by simp [tegulalaw32_ExtentMaps.j3] at h, fun _ _ _ _ _ _ _ _ _ _ _ r h => by simp [tegulalaw32_ExtentMaps.j4] at h, fun _ _ _ _ _ _ _ _ _ _ _ _ r h => by simp [tegulalaw32_ExtentMaps.j5] at h, fun _ _ _ _ _ _ _ _ _ _ _ _ r h => by simp [tegulalaw32_ExtentMaps.j6] at h⟩
 | k + 1 => by
  obtain ⟨ih0, ih1, ih2, ih3, ih4, ih5, ih6⟩ := tegulalaw32_ExtentMaps.mono_l k
  refine ⟨?_, ?_, ?_, ?_, ?_, ?_, ?_⟩
  ·
   intro y0 y1 y2 y3 y4 y5 y6
   unfold tegulalaw32_ExtentMaps.j0
   repeat' first
   | (with_reducible exact ih0 _ _ _ _ _ _ _)
   | (with_reducible exact ih1 _ _ _ _ _ _ _ _ _)
   | (with_reducible exact ih2 _ _ _ _ _ _ _ _ _)
   | (with_reducible exact ih3 _ _ _ _ _ _ _ _ _ _ _ _)
   | (with_reducible exact ih4 _ _ _ _ _ _ _ _ _ _ _)
   | (with_reducible exact ih5 _ _ _ _ _ _ _ _ _ _ _ _)
   | (with_reducible exact ih6 _ _ _ _ _ _ _ _ _ _ _ _)
   | (with_reducible exact extent_Cut.mono _ _ _ _)
   | (with_reducible exact extent_Find.mono _ _ _)
   | (with_reducible exact extent_Put.mono _ _ _ _ _)
   | (with_reducible exact tegulalaw32_awake.mono _)
   | (with_reducible exact tegularef32_Find.mono _ _ _)
   | (with_reducible exact tegularef32_Valid.mono _ _)
   | (with_reducible exact LeO.refl _)
   | (with_reducible exact LeO.none _)
   | (with_reducible refine LeO.ite ?_ ?_)
   | (with_reducible refine LeO.bind ?_ (fun _ => ?_))
   | exact ih0 _ _ _ _ _ _ _
   | exact ih1 _ _ _ _ _ _ _ _ _
   | exact ih2 _ _ _ _ _ _ _ _ _
   | exact ih3 _ _ _ _ _ _ _ _ _ _ _ _
   | exact ih4 _ _ _ _ _ _ _ _ _ _ _
   | exact ih5 _ _ _ _ _ _ _ _ _ _ _ _
   | exact ih6 _ _ _ _ _ _ _ _ _ _ _ _
   | exact extent_Cut.mono _ _ _ _
   | exact extent_Find.mono _ _ _
   | exact extent_Put.mono _ _ _ _ _
   | exact tegulalaw32_awake.mono _
   | exact tegularef32_Find.mono _ _ _
   | exact tegularef32_Valid.mono _ _
   | exact LeO.none _
   | refine LeO.ite ?_ ?_
   | refine LeO.bind ?_ (fun _ => ?_)
  ·
   intro y0 y1 y2 y3 y4 y5 y6 y7 y8
   unfold tegulalaw32_ExtentMaps.j1
   repeat' first
   | (with_reducible exact ih0 _ _ _ _ _ _ _)
   | (with_reducible exact ih1 _ _ _ _ _ _ _ _ _)
   | (with_reducible exact ih2 _ _ _ _ _ _ _ _ _)
   | (with_reducible exact ih3 _ _ _ _ _ _ _ _ _ _ _ _)
   | (with_reducible exact ih4 _ _ _ _ _ _ _ _ _ _ _)
   | (with_reducible exact ih5 _ _ _ _ _ _ _ _ _ _ _ _)
   | (with_reducible exact ih6 _ _ _ _ _ _ _ _ _ _ _ _)
   | (with_reducible exact extent_Cut.mono _ _ _ _)
   | (with_reducible exact extent_Find.mono _ _ _)
   | (with_reducible exact extent_Put.mono _ _ _ _ _)
   | (with_reducible exact tegulalaw32_awake.mono _)
   | (with_reducible exact tegularef32_Find.mono _ _ _)
   | (with_reducible exact tegularef32_Valid.mono _ _)
   | (with_reducible exact LeO.refl _)
   | (with_reducible exact LeO.none _)
   | (with_reducible refine LeO.ite ?_ ?_)
   | (with_reducible refine LeO.bind ?_ (fun _ => ?_))
   | exact ih0 _ _ _ _ _ _ _
   | exact ih1 _ _ _ _ _ _ _ _ _
   | exact ih2 _ _ _ _ _ _ _ _ _
   | exact ih3 _ _ _ _ _ _ _ _ _ _ _ _
   | exact ih4 _ _ _ _ _ _ _ _ _ _ _
   | exact ih5 _ _ _ _ _ _ _ _ _ _ _ _
   | exact ih6 _ _ _ _ _ _ _ _ _ _ _ _
   | exact extent_Cut.mono _ _ _ _
   | exact extent_Find.mono _ _ _
   | exact extent_Put.mono _ _ _ _ _
   | exact tegulalaw32_awake.mono _
   | exact tegularef32_Find.mono _ _ _
   | exact tegularef32_Valid.mono _ _
   | exact LeO.none _
   | refine LeO.ite ?_ ?_
   | refine LeO.bind ?_ (fun _ => ?_)
  ·
   intro y0 y1 y2 y3 y4 y5 y6 y7 y8
   unfold tegulalaw32_ExtentMaps.l0
   repeat' first
   | (with_reducible exact ih0 _ _ _ _ _ _ _)
   | (with_reducible exact ih1 _ _ _ _ _ _ _ _ _)
   | (with_reducible exact ih2 _ _ _ _ _ _ _ _ _)
   | (with_reducible exact ih3 _ _ _ _ _ _ _ _ _ _ _ _)
   | (with_reducible exact ih4 _ _ _ _ _ _ _ _ _ _ _)
   | (with_reducible exact ih5 _ _ _ _ _ _ _ _ _ _ _ _)
   | (with_reducible exact ih6 _ _ _ _ _ _ _ _ _ _ _ _)
   | (with_reducible exact extent_Cut.mono _ _ _ _)
   | (with_reducible exact extent_Find.mono _ _ _)
   | (with_reducible exact extent_Put.mono _ _ _ _ _)
   | (with_reducible exact tegulalaw32_awake.mono _)
   | (with_reducible exact tegularef32_Find.mono _ _ _)
   | (with_reducible exact tegularef32_Valid.mono _ _)
   | (with_reducible exact LeO.refl _)
   | (with_reducible exact LeO.none _)
   | (with_reducible refine LeO.ite ?_ ?_)
   | (with_reducible refine LeO.bind ?_ (fun _ => ?_))
   | exact ih0 _ _ _ _ _ _ _
   | exact ih1 _ _ _ _ _ _ _ _ _
   | exact ih2 _ _ _ _ _ _ _ _ _
   | exact ih3 _ _ _ _ _ _ _ _ _ _ _ _
   | exact ih4 _ _ _ _ _ _ _ _ _ _ _
   | exact ih5 _ _ _ _ _ _ _ _ _ _ _ _
   | exact ih6 _ _ _ _ _ _ _ _ _ _ _ _
   | exact extent_Cut.mono _ _ _ _
   | exact extent_Find.mono _ _ _
   | exact extent_Put.mono _ _ _ _ _
   | exact tegulalaw32_awake.mono _
   | exact tegularef32_Find.mono _ _ _
   | exact tegularef32_Valid.mono _ _
   | exact LeO.none _
   | refine LeO.ite ?_ ?_
   | refine LeO.bind ?_ (fun _ => ?_)
  ·
   intro y0 y1 y2 y3 y4 y5 y6 y7 y8 y9 y10 y11
   unfold tegulalaw32_ExtentMaps.j3
   repeat' first
   | (with_reducible exact ih0 _ _ _ _ _ _ _)
   | (with_reducible exact ih1 _ _ _ _ _ _ _ _ _)
   | (with_reducible exact ih2 _ _ _ _ _ _ _ _ _)
   | (with_reducible exact ih3 _ _ _ _ _ _ _ _ _ _ _ _)
   | (with_reducible exact ih4 _ _ _ _ _ _ _ _ _ _ _)
   | (with_reducible exact ih5 _ _ _ _ _ _ _ _ _ _ _ _)
   | (with_reducible exact ih6 _ _ _ _ _ _ _ _ _ _ _ _)
   | (with_reducible exact extent_Cut.mono _ _ _ _)
   | (with_reducible exact extent_Find.mono _ _ _)
   | (with_reducible exact extent_Put.mono _ _ _ _ _)
   | (with_reducible exact tegulalaw32_awake.mono _)
   | (with_reducible exact tegularef32_Find.mono _ _ _)
   | (with_reducible exact tegularef32_Valid.mono _ _)
   | (with_reducible exact LeO.refl _)
   | (with_reducible exact LeO.none _)
   | (with_reducible refine LeO.ite ?_ ?_)
   | (with_reducible refine LeO.bind ?_ (fun _ => ?_))
   | exact ih0 _ _ _ _ _ _ _
   | exact ih1 _ _ _ _ _ _ _ _ _
   | exact ih2 _ _ _ _ _ _ _ _ _
   | exact ih3 _ _ _ _ _ _ _ _ _ _ _ _
   | exact ih4 _ _ _ _ _ _ _ _ _ _ _
   | exact ih5 _ _ _ _ _ _ _ _ _ _ _ _
   | exact ih6 _ _ _ _ _ _ _ _ _ _ _ _
   | exact extent_Cut.mono _ _ _ _
   | exact extent_Find.mono _ _ _
   | exact extent_Put.mono _ _ _ _ _
   | exact tegulalaw32_awake.mono _
   | exact tegularef32_Find.mono _ _ _
   | exact tegularef32_Valid.mono _ _
   | exact LeO.none _
   | refine LeO.ite ?_ ?_
   | refine LeO.bind ?_ (fun _ => ?_)
  ·
   intro y0 y1 y2 y3 y4 y5 y6 y7 y8 y9 y10
   unfold tegulalaw32_ExtentMaps.j4
   repeat' first
   | (with_reducible exact ih0 _ _ _ _ _ _ _)
   | (with_reducible exact ih1 _ _ _ _ _ _ _ _ _)
   | (with_reducible exact ih2 _ _ _ _ _ _ _ _ _)
   | (with_reducible exact ih3 _ _ _ _ _ _ _ _ _ _ _ _)
   | (with_reducible exact ih4 _ _ _ _ _ _ _ _ _ _ _)
   | (with_reducible exact ih5 _ _ _ _ _ _ _ _ _ _ _ _)
   | (with_reducible exact ih6 _ _ _ _ _ _ _ _ _ _ _ _)
   | (with_reducible exact extent_Cut.mono _ _ _ _)
   | (with_reducible exact extent_Find.mono _ _ _)
   | (with_reducible exact extent_Put.mono _ _ _ _ _)
   | (with_reducible exact tegulalaw32_awake.mono _)
   | (with_reducible exact tegularef32_Find.mono _ _ _)
   | (with_reducible exact tegularef32_Valid.mono _ _)
   | (with_reducible exact LeO.refl _)
   | (with_reducible exact LeO.none _)
   | (with_reducible refine LeO.ite ?_ ?_)
   | (with_reducible refine LeO.bind ?_ (fun _ => ?_))
   | exact ih0 _ _ _ _ _ _ _
   | exact ih1 _ _ _ _ _ _ _ _ _
   | exact ih2 _ _ _ _ _ _ _ _ _
   | exact ih3 _ _ _ _ _ _ _ _ _ _ _ _
   | exact ih4 _ _ _ _ _ _ _ _ _ _ _
   | exact ih5 _ _ _ _ _ _ _ _ _ _ _ _
   | exact ih6 _ _ _ _ _ _ _ _ _ _ _ _
   | exact extent_Cut.mono _ _ _ _
   | exact extent_Find.mono _ _ _
   | exact extent_Put.mono _ _ _ _ _
   | exact tegulalaw32_awake.mono _
   | exact tegularef32_Find.mono _ _ _
   | exact tegularef32_Valid.mono _ _
   | exact LeO.none _
   | refine LeO.ite ?_ ?_
   | refine LeO.bind ?_ (fun _ => ?_)
  ·
   intro y0 y1 y2 y3 y4 y5 y6 y7 y8 y9 y10 y11
   unfold tegulalaw32_ExtentMaps.j5
   repeat' first
   | (with_reducible exact ih0 _ _ _ _ _ _ _)
   | (with_reducible exact ih1 _ _ _ _ _ _ _ _ _)
   | (with_reducible exact ih2 _ _ _ _ _ _ _ _ _)
   | (with_reducible exact ih3 _ _ _ _ _ _ _ _ _ _ _ _)
   | (with_reducible exact ih4 _ _ _ _ _ _ _ _ _ _ _)
   | (with_reducible exact ih5 _ _ _ _ _ _ _ _ _ _ _ _)
   | (with_reducible exact ih6 _ _ _ _ _ _ _ _ _ _ _ _)
   | (with_reducible exact extent_Cut.mono _ _ _ _)
   | (with_reducible exact extent_Find.mono _ _ _)
   | (with_reducible exact extent_Put.mono _ _ _ _ _)
   | (with_reducible exact tegulalaw32_awake.mono _)
   | (with_reducible exact tegularef32_Find.mono _ _ _)
   | (with_reducible exact tegularef32_Valid.mono _ _)
   | (with_reducible exact LeO.refl _)
   | (with_reducible exact LeO.none _)
   | (with_reducible refine LeO.ite ?_ ?_)
   | (with_reducible refine LeO.bind ?_ (fun _ => ?_))
   | exact ih0 _ _ _ _ _ _ _
   | exact ih1 _ _ _ _ _ _ _ _ _
   | exact ih2 _ _ _ _ _ _ _ _ _
   | exact ih3 _ _ _ _ _ _ _ _ _ _ _ _
   | exact ih4 _ _ _ _ _ _ _ _ _ _ _
   | exact ih5 _ _ _ _ _ _ _ _ _ _ _ _
   | exact ih6 _ _ _ _ _ _ _ _ _ _ _ _
   | exact extent_Cut.mono _ _ _ _
   | exact extent_Find.mono _ _ _
   | exact extent_Put.mono _ _ _ _ _
   | exact tegulalaw32_awake.mono _
   | exact tegularef32_Find.mono _ _ _
   | exact tegularef32_Valid.mono _ _
   | exact LeO.none _
   | refine LeO.ite ?_ ?_
   | refine LeO.bind ?_ (fun _ => ?_)
  ·
   intro y0 y1 y2 y3 y4 y5 y6 y7 y8 y9 y10 y11
   unfold tegulalaw32_ExtentMaps.j6
   repeat' first
   | (with_reducible exact ih0 _ _ _ _ _ _ _)
   | (with_reducible exact ih1 _ _ _ _ _ _ _ _ _)
   | (with_reducible exact ih2 _ _ _ _ _ _ _ _ _)
   | (with_reducible exact ih3 _ _ _ _ _ _ _ _ _ _ _ _)
   | (with_reducible exact ih4 _ _ _ _ _ _ _ _ _ _ _)
   | (with_reducible exact ih5 _ _ _ _ _ _ _ _ _ _ _ _)
   | (with_reducible exact ih6 _ _ _ _ _ _ _ _ _ _ _ _)
   | (with_reducible exact extent_Cut.mono _ _ _ _)
   | (with_reducible exact extent_Find.mono _ _ _)
   | (with_reducible exact extent_Put.mono _ _ _ _ _)
   | (with_reducible exact tegulalaw32_awake.mono _)
   | (with_reducible exact tegularef32_Find.mono _ _ _)
   | (with_reducible exact tegularef32_Valid.mono _ _)
   | (with_reducible exact LeO.refl _)
   | (with_reducible exact LeO.none _)
   | (with_reducible refine LeO.ite ?_ ?_)
   | (with_reducible refine LeO.bind ?_ (fun _ => ?_))
   | exact ih0 _ _ _ _ _ _ _
   | exact ih1 _ _ _ _ _ _ _ _ _
   | exact ih2 _ _ _ _ _ _ _ _ _
   | exact ih3 _ _ _ _ _ _ _ _ _ _ _ _
   | exact ih4 _ _ _ _ _ _ _ _ _ _ _
   | exact ih5 _ _ _ _ _ _ _ _ _ _ _ _
   | exact ih6 _ _ _ _ _ _ _ _ _ _ _ _
   | exact extent_Cut.mono _ _ _ _
   | exact extent_Find.mono _ _ _
   | exact extent_Put.mono _ _ _ _ _
   | exact tegulalaw32_awake.mono _
   | exact tegularef32_Find.mono _ _ _
   | exact tegularef32_Valid.mono _ _
   | exact LeO.none _
   | refine LeO.ite ?_ ?_
   | refine LeO.bind ?_ (fun _ => ?_)
theorem tegulalaw32_ExtentMaps.mono : ∀ a0 a1 a2 a3 a4 a5 k, LeO (tegulalaw32_ExtentMaps.f k a0 a1 a2 a3 a4 a5) (tegulalaw32_ExtentMaps.f (k + 1) a0 a1 a2 a3 a4 a5) := by
 intro a0 a1 a2 a3 a4 a5 k
 obtain ⟨ih0, ih1, ih2, ih3, ih4, ih5, ih6⟩ := tegulalaw32_ExtentMaps.mono_l k
 unfold tegulalaw32_ExtentMaps.f
 repeat' first
   | (with_reducible exact ih0 _ _ _ _ _ _ _)
   | (with_reducible exact ih1 _ _ _ _ _ _ _ _ _)
   | (with_reducible exact ih2 _ _ _ _ _ _ _ _ _)
   | (with_reducible exact ih3 _ _ _ _ _ _ _ _ _ _ _ _)
   | (with_reducible exact ih4 _ _ _ _ _ _ _ _ _ _ _)
   | (with_reducible exact ih5 _ _ _ _ _ _ _ _ _ _ _ _)
   | (with_reducible exact ih6 _ _ _ _ _ _ _ _ _ _ _ _)
   | (with_reducible exact extent_Cut.mono _ _ _ _)
   | (with_reducible exact extent_Find.mono _ _ _)
   | (with_reducible exact extent_Put.mono _ _ _ _ _)
   | (with_reducible exact tegulalaw32_awake.mono _)
   | (with_reducible exact tegularef32_Find.mono _ _ _)
   | (with_reducible exact tegularef32_Valid.mono _ _)
   | (with_reducible exact LeO.refl _)
   | (with_reducible exact LeO.none _)
   | (with_reducible refine LeO.ite ?_ ?_)
   | (with_reducible refine LeO.bind ?_ (fun _ => ?_))
   | exact ih0 _ _ _ _ _ _ _
   | exact ih1 _ _ _ _ _ _ _ _ _
   | exact ih2 _ _ _ _ _ _ _ _ _
   | exact ih3 _ _ _ _ _ _ _ _ _ _ _ _
   | exact ih4 _ _ _ _ _ _ _ _ _ _ _
   | exact ih5 _ _ _ _ _ _ _ _ _ _ _ _
   | exact ih6 _ _ _ _ _ _ _ _ _ _ _ _
   | exact extent_Cut.mono _ _ _ _
   | exact extent_Find.mono _ _ _
   | exact extent_Put.mono _ _ _ _ _
   | exact tegulalaw32_awake.mono _
   | exact tegularef32_Find.mono _ _ _
   | exact tegularef32_Valid.mono _ _
   | exact LeO.none _
   | refine LeO.ite ?_ ?_
   | refine LeO.bind ?_ (fun _ => ?_)
set_option maxHeartbeats 8000000 in
set_option maxRecDepth 100000 in
theorem tegulalaw32_ExtentMaps.calls (k : Nat) (A0 : Option Addr) (c0 : Nat) (l0 : List (S33)) (a1_0 : Int) (a1_1 : Int) (a1_2 : Int) (a2_0 : Int) (a2_1 : Int) (r : Bool) (w : World) (hr0 : Kd.C k33 w A0 l0.length l0) (hc0 : l0.length ≤ c0) (h : tegulalaw32_ExtentMaps.f k l0 a1_0 a1_1 a1_2 a2_0 a2_1 = some r) :
  Calls Try.prog 9 #[.slice A0 l0.length c0, .agg #[.int .i64 a1_0, .int .i64 a1_1, .int .i64 a1_2], .agg #[.int .u8 a2_0, .int .u8 a2_1]] w fun e w' => e = .returned (.bool r) ∧ Below w.heap.size w w' := by
 have hu33 := Try.underlying33
 have hu44 := Try.underlying44
 have HR0 := Aside0.mk hr0
 have HC0 := Aside0.mk hc0
 clear hr0 hc0
 have HB := Aside0.mk (Below.refl w.heap.size w)
 have H : ((tegulalaw32_awake.f k).bind fun t210 => (if t210 = true then (if (l0.length : Int) > 20 then (tegulalaw32_ExtentMaps.j0 k l0 true a1_0 a1_1 a1_2 a2_0 a2_1) else ((tegularef32_Valid.f k l0).bind fun t211 => (if t211 = true then ((tegularef32_One.f a1_0 a1_1 a1_2).bind fun t212 => (tegulalaw32_ExtentMaps.j0 k l0 (!t212) a1_0 a1_1 a1_2 a2_0 a2_1)) else (tegulalaw32_ExtentMaps.j0 k l0 true a1_0 a1_1 a1_2 a2_0 a2_1)))) else (some false))) = some r := h
 clear h
 replace H := Option.bind_eq_some_iff.mp H
 obtain ⟨t210, A40, H⟩ := H
 replace H : (if t210 = true then (if (l0.length : Int) > 20 then (tegulalaw32_ExtentMaps.j0 k l0 true a1_0 a1_1 a1_2 a2_0 a2_1) else ((tegularef32_Valid.f k l0).bind fun t211 => (if t211 = true then ((tegularef32_One.f a1_0 a1_1 a1_2).bind fun t212 => (tegulalaw32_ExtentMaps.j0 k l0 (!t212) a1_0 a1_1 a1_2 a2_0 a2_1)) else (tegulalaw32_ExtentMaps.j0 k l0 true a1_0 a1_1 a1_2 a2_0 a2_1)))) else (some false)) = some r := H
 have A4 := Aside0.mk A40
 clear A40
 by_cases c5 : t210 = true
 ·
  subst c5
  have H1 : (if (l0.length : Int) > 20 then (tegulalaw32_ExtentMaps.j0 k l0 true a1_0 a1_1 a1_2 a2_0 a2_1) else ((tegularef32_Valid.f k l0).bind fun t211 => (if t211 = true then ((tegularef32_One.f a1_0 a1_1 a1_2).bind fun t212 => (tegulalaw32_ExtentMaps.j0 k l0 (!t212) a1_0 a1_1 a1_2 a2_0 a2_1)) else (tegulalaw32_ExtentMaps.j0 k l0 true a1_0 a1_1 a1_2 a2_0 a2_1)))) = some r := by rw [if_pos rfl] at H; exact H
  clear H
  have H := H1
  clear H1
  have HC6 := Aside0.mk H
  clear H
  go_enter Try.func9, Try.ntmps9
  go_upto_region 3 with (first | ((with_reducible refine gate_dst (N := 4) rfl ?_); refine box_event ?hg (N := 4) ?hd (cs := #[.int .i64 a1_0, .int .i64 a1_1, .int .i64 a1_2]) (t := 33) ?hr ?_; (case hd => rfl); (case hg => rfl); (case hr => first | (go_simp; done) | (go_simp; rfl)); intro gb208 hg w7 hbox hb; have n0_ := Aside0.mk (below_step (by repeat (first | (with_reducible first | exact HB.out | apply below_alloc | apply pw_below_drewN | apply below_drew1) | exact HB.out)) hb); have n1_ := Aside0.mk (hbox); have n2_ := Aside0.mk ((by rw [hg]; exact (below_size (by repeat (first | (with_reducible first | exact HB.out | apply below_alloc | apply pw_below_drewN | apply below_drew1) | exact HB.out))) : w.heap.size ≤ gb208)); have n3_ := Aside0.mk ((by rw [hg]; exact (below_size (by repeat (first | (with_reducible first | exact HB.out | apply below_alloc | apply pw_below_drewN | apply below_drew1) | exact HB.out))) : w.heap.size ≤ gb208)); clear HB; have HB := n0_; have BK208 := n1_; have GW208 := n2_; have GE208 := n3_; clear n0_ n1_ n2_ n3_; clear hb hbox hg) | ((with_reducible refine gate_dst (N := 5) rfl ?_); refine box_event ?hg (N := 5) ?hd (cs := #[.int .u8 a2_0, .int .u8 a2_1]) (t := 44) ?hr ?_; (case hd => rfl); (case hg => rfl); (case hr => first | (go_simp; done) | (go_simp; rfl)); intro gb209 hg w8 hbox hb; have n0_ := Aside0.mk (blk_below (g := gb208) (o := .cells #[.int .i64 a1_0, .int .i64 a1_1, .int .i64 a1_2] 33 (0, 0)) (by (with_reducible repeat (first | refine blk_drewN ?_ _ | refine blk_drew ?_ | refine blk_alloc ?_ _)); exact BK208.out) hb); have n1_ := Aside0.mk (below_step (by repeat (first | (with_reducible first | exact HB.out | apply below_alloc | apply pw_below_drewN | apply below_drew1 | refine below_set ?_ GE208.out) | exact HB.out)) hb); have n2_ := Aside0.mk (hbox); have n3_ := Aside0.mk ((by rw [hg]; exact (below_size (by repeat (first | (with_reducible first | exact HB.out | apply below_alloc | apply pw_below_drewN | apply below_drew1 | refine below_set ?_ GE208.out) | exact HB.out))) : w.heap.size ≤ gb209)); have n4_ := Aside0.mk ((by rw [hg]; exact (below_size (by repeat (first | (with_reducible first | exact HB.out | apply below_alloc | apply pw_below_drewN | apply below_drew1 | refine below_set ?_ GE208.out) | exact HB.out))) : w.heap.size ≤ gb209)); have n5_ := Aside0.mk ((by rw [hg]; exact Nat.ne_of_lt (blk_lt (g := gb208) (o := .cells #[.int .i64 a1_0, .int .i64 a1_1, .int .i64 a1_2] 33 (0, 0)) (by (with_reducible repeat (first | refine blk_drewN ?_ _ | refine blk_drew ?_ | refine blk_alloc ?_ _)); exact BK208.out)) : gb208 ≠ gb209)); have n6_ := Aside0.mk ((by rw [hg]; exact Nat.ne_of_gt (blk_lt (g := gb208) (o := .cells #[.int .i64 a1_0, .int .i64 a1_1, .int .i64 a1_2] 33 (0, 0)) (by (with_reducible repeat (first | refine blk_drewN ?_ _ | refine blk_drew ?_ | refine blk_alloc ?_ _)); exact BK208.out)) : gb209 ≠ gb208)); clear BK208; clear HB; have BK208 := n0_; have HB := n1_; have BK209 := n2_; have GW209 := n3_; have GE209 := n4_; have NB208_209 := n5_; have NB209_208 := n6_; clear n0_ n1_ n2_ n3_ n4_ n5_ n6_; clear hb hbox hg) | (go_at_call 11; (with_reducible refine (tegulalaw32_awake.calls k  true _ A4.out).mono ?_); rintro e w9 ⟨rfl, hb⟩; have n0_ := Aside0.mk (blk_below (g := gb208) (o := .cells #[.int .i64 a1_0, .int .i64 a1_1, .int .i64 a1_2] 33 (0, 0)) (by (with_reducible repeat (first | refine blk_drewN ?_ _ | refine blk_drew ?_ | refine blk_alloc ?_ _)); exact BK208.out) hb); have n1_ := Aside0.mk (blk_below (g := gb209) (o := .cells #[.int .u8 a2_0, .int .u8 a2_1] 44 (0, 0)) (by (with_reducible repeat (first | refine blk_drewN ?_ _ | refine blk_drew ?_ | refine blk_alloc ?_ _)); exact BK209.out) hb); have n2_ := Aside0.mk (below_step (by repeat (first | (with_reducible first | exact HB.out | apply below_alloc | apply pw_below_drewN | apply below_drew1 | refine below_set ?_ GE208.out | refine below_set ?_ GE209.out) | exact HB.out)) hb); clear BK208; clear BK209; clear HB; have BK208 := n0_; have BK209 := n1_; have HB := n2_; clear n0_ n1_ n2_; (try clear hb); (try clear hb2); (try clear hk); (try clear hi)))
  repeat (go_quiet (first | ((with_reducible refine gate_dst (N := 4) rfl ?_); refine box_event ?hg (N := 4) ?hd (cs := #[.int .i64 a1_0, .int .i64 a1_1, .int .i64 a1_2]) (t := 33) ?hr ?_; (case hd => rfl); (case hg => rfl); (case hr => first | (go_simp; done) | (go_simp; rfl)); intro gb208 hg w7 hbox hb; have n0_ := Aside0.mk (below_step (by repeat (first | (with_reducible first | exact HB.out | apply below_alloc | apply pw_below_drewN | apply below_drew1) | exact HB.out)) hb); have n1_ := Aside0.mk (hbox); have n2_ := Aside0.mk ((by rw [hg]; exact (below_size (by repeat (first | (with_reducible first | exact HB.out | apply below_alloc | apply pw_below_drewN | apply below_drew1) | exact HB.out))) : w.heap.size ≤ gb208)); have n3_ := Aside0.mk ((by rw [hg]; exact (below_size (by repeat (first | (with_reducible first | exact HB.out | apply below_alloc | apply pw_below_drewN | apply below_drew1) | exact HB.out))) : w.heap.size ≤ gb208)); clear HB; have HB := n0_; have BK208 := n1_; have GW208 := n2_; have GE208 := n3_; clear n0_ n1_ n2_ n3_; clear hb hbox hg) | ((with_reducible refine gate_dst (N := 5) rfl ?_); refine box_event ?hg (N := 5) ?hd (cs := #[.int .u8 a2_0, .int .u8 a2_1]) (t := 44) ?hr ?_; (case hd => rfl); (case hg => rfl); (case hr => first | (go_simp; done) | (go_simp; rfl)); intro gb209 hg w8 hbox hb; have n0_ := Aside0.mk (blk_below (g := gb208) (o := .cells #[.int .i64 a1_0, .int .i64 a1_1, .int .i64 a1_2] 33 (0, 0)) (by (with_reducible repeat (first | refine blk_drewN ?_ _ | refine blk_drew ?_ | refine blk_alloc ?_ _)); exact BK208.out) hb); have n1_ := Aside0.mk (below_step (by repeat (first | (with_reducible first | exact HB.out | apply below_alloc | apply pw_below_drewN | apply below_drew1 | refine below_set ?_ GE208.out) | exact HB.out)) hb); have n2_ := Aside0.mk (hbox); have n3_ := Aside0.mk ((by rw [hg]; exact (below_size (by repeat (first | (with_reducible first | exact HB.out | apply below_alloc | apply pw_below_drewN | apply below_drew1 | refine below_set ?_ GE208.out) | exact HB.out))) : w.heap.size ≤ gb209)); have n4_ := Aside0.mk ((by rw [hg]; exact (below_size (by repeat (first | (with_reducible first | exact HB.out | apply below_alloc | apply pw_below_drewN | apply below_drew1 | refine below_set ?_ GE208.out) | exact HB.out))) : w.heap.size ≤ gb209)); have n5_ := Aside0.mk ((by rw [hg]; exact Nat.ne_of_lt (blk_lt (g := gb208) (o := .cells #[.int .i64 a1_0, .int .i64 a1_1, .int .i64 a1_2] 33 (0, 0)) (by (with_reducible repeat (first | refine blk_drewN ?_ _ | refine blk_drew ?_ | refine blk_alloc ?_ _)); exact BK208.out)) : gb208 ≠ gb209)); have n6_ := Aside0.mk ((by rw [hg]; exact Nat.ne_of_gt (blk_lt (g := gb208) (o := .cells #[.int .i64 a1_0, .int .i64 a1_1, .int .i64 a1_2] 33 (0, 0)) (by (with_reducible repeat (first | refine blk_drewN ?_ _ | refine blk_drew ?_ | refine blk_alloc ?_ _)); exact BK208.out)) : gb209 ≠ gb208)); clear BK208; clear HB; have BK208 := n0_; have HB := n1_; have BK209 := n2_; have GW209 := n3_; have GE209 := n4_; have NB208_209 := n5_; have NB209_208 := n6_; clear n0_ n1_ n2_ n3_ n4_ n5_ n6_; clear hb hbox hg) | (go_at_call 11; (with_reducible refine (tegulalaw32_awake.calls k  true _ A4.out).mono ?_); rintro e w9 ⟨rfl, hb⟩; have n0_ := Aside0.mk (blk_below (g := gb208) (o := .cells #[.int .i64 a1_0, .int .i64 a1_1, .int .i64 a1_2] 33 (0, 0)) (by (with_reducible repeat (first | refine blk_drewN ?_ _ | refine blk_drew ?_ | refine blk_alloc ?_ _)); exact BK208.out) hb); have n1_ := Aside0.mk (blk_below (g := gb209) (o := .cells #[.int .u8 a2_0, .int .u8 a2_1] 44 (0, 0)) (by (with_reducible repeat (first | refine blk_drewN ?_ _ | refine blk_drew ?_ | refine blk_alloc ?_ _)); exact BK209.out) hb); have n2_ := Aside0.mk (below_step (by repeat (first | (with_reducible first | exact HB.out | apply below_alloc | apply pw_below_drewN | apply below_drew1 | refine below_set ?_ GE208.out | refine below_set ?_ GE209.out) | exact HB.out)) hb); clear BK208; clear BK209; clear HB; have BK208 := n0_; have BK209 := n1_; have HB := n2_; clear n0_ n1_ n2_; (try clear hb); (try clear hb2); (try clear hk); (try clear hi))); go_upto_region 3 with (first | ((with_reducible refine gate_dst (N := 4) rfl ?_); refine box_event ?hg (N := 4) ?hd (cs := #[.int .i64 a1_0, .int .i64 a1_1, .int .i64 a1_2]) (t := 33) ?hr ?_; (case hd => rfl); (case hg => rfl); (case hr => first | (go_simp; done) | (go_simp; rfl)); intro gb208 hg w7 hbox hb; have n0_ := Aside0.mk (below_step (by repeat (first | (with_reducible first | exact HB.out | apply below_alloc | apply pw_below_drewN | apply below_drew1) | exact HB.out)) hb); have n1_ := Aside0.mk (hbox); have n2_ := Aside0.mk ((by rw [hg]; exact (below_size (by repeat (first | (with_reducible first | exact HB.out | apply below_alloc | apply pw_below_drewN | apply below_drew1) | exact HB.out))) : w.heap.size ≤ gb208)); have n3_ := Aside0.mk ((by rw [hg]; exact (below_size (by repeat (first | (with_reducible first | exact HB.out | apply below_alloc | apply pw_below_drewN | apply below_drew1) | exact HB.out))) : w.heap.size ≤ gb208)); clear HB; have HB := n0_; have BK208 := n1_; have GW208 := n2_; have GE208 := n3_; clear n0_ n1_ n2_ n3_; clear hb hbox hg) | ((with_reducible refine gate_dst (N := 5) rfl ?_); refine box_event ?hg (N := 5) ?hd (cs := #[.int .u8 a2_0, .int .u8 a2_1]) (t := 44) ?hr ?_; (case hd => rfl); (case hg => rfl); (case hr => first | (go_simp; done) | (go_simp; rfl)); intro gb209 hg w8 hbox hb; have n0_ := Aside0.mk (blk_below (g := gb208) (o := .cells #[.int .i64 a1_0, .int .i64 a1_1, .int .i64 a1_2] 33 (0, 0)) (by (with_reducible repeat (first | refine blk_drewN ?_ _ | refine blk_drew ?_ | refine blk_alloc ?_ _)); exact BK208.out) hb); have n1_ := Aside0.mk (below_step (by repeat (first | (with_reducible first | exact HB.out | apply below_alloc | apply pw_below_drewN | apply below_drew1 | refine below_set ?_ GE208.out) | exact HB.out)) hb); have n2_ := Aside0.mk (hbox); have n3_ := Aside0.mk ((by rw [hg]; exact (below_size (by repeat (first | (with_reducible first | exact HB.out | apply below_alloc | apply pw_below_drewN | apply below_drew1 | refine below_set ?_ GE208.out) | exact HB.out))) : w.heap.size ≤ gb209)); have n4_ := Aside0.mk ((by rw [hg]; exact (below_size (by repeat (first | (with_reducible first | exact HB.out | apply below_alloc | apply pw_below_drewN | apply below_drew1 | refine below_set ?_ GE208.out) | exact HB.out))) : w.heap.size ≤ gb209)); have n5_ := Aside0.mk ((by rw [hg]; exact Nat.ne_of_lt (blk_lt (g := gb208) (o := .cells #[.int .i64 a1_0, .int .i64 a1_1, .int .i64 a1_2] 33 (0, 0)) (by (with_reducible repeat (first | refine blk_drewN ?_ _ | refine blk_drew ?_ | refine blk_alloc ?_ _)); exact BK208.out)) : gb208 ≠ gb209)); have n6_ := Aside0.mk ((by rw [hg]; exact Nat.ne_of_gt (blk_lt (g := gb208) (o := .cells #[.int .i64 a1_0, .int .i64 a1_1, .int .i64 a1_2] 33 (0, 0)) (by (with_reducible repeat (first | refine blk_drewN ?_ _ | refine blk_drew ?_ | refine blk_alloc ?_ _)); exact BK208.out)) : gb209 ≠ gb208)); clear BK208; clear HB; have BK208 := n0_; have HB := n1_; have BK209 := n2_; have GW209 := n3_; have GE209 := n4_; have NB208_209 := n5_; have NB209_208 := n6_; clear n0_ n1_ n2_ n3_ n4_ n5_ n6_; clear hb hbox hg) | (go_at_call 11; (with_reducible refine (tegulalaw32_awake.calls k  true _ A4.out).mono ?_); rintro e w9 ⟨rfl, hb⟩; have n0_ := Aside0.mk (blk_below (g := gb208) (o := .cells #[.int .i64 a1_0, .int .i64 a1_1, .int .i64 a1_2] 33 (0, 0)) (by (with_reducible repeat (first | refine blk_drewN ?_ _ | refine blk_drew ?_ | refine blk_alloc ?_ _)); exact BK208.out) hb); have n1_ := Aside0.mk (blk_below (g := gb209) (o := .cells #[.int .u8 a2_0, .int .u8 a2_1] 44 (0, 0)) (by (with_reducible repeat (first | refine blk_drewN ?_ _ | refine blk_drew ?_ | refine blk_alloc ?_ _)); exact BK209.out) hb); have n2_ := Aside0.mk (below_step (by repeat (first | (with_reducible first | exact HB.out | apply below_alloc | apply pw_below_drewN | apply below_drew1 | refine below_set ?_ GE208.out | refine below_set ?_ GE209.out) | exact HB.out)) hb); clear BK208; clear BK209; clear HB; have BK208 := n0_; have BK209 := n1_; have HB := n2_; clear n0_ n1_ n2_; (try clear hb); (try clear hb2); (try clear hk); (try clear hi))))
  (try simp only [Act.put, List.setIfInBounds_toArray, List.set_cons_zero, List.set_cons_succ])
  go_cut [34] (fun v34 wc => ∃ (kq : Nat) (x34_5 : Bool), v34 = .bool x34_5 ∧ Aside0 (tegulalaw32_ExtentMaps.j0 kq l0 x34_5 a1_0 a1_1 a1_2 a2_0 a2_1 = some r) ∧ Aside0 (kq ≤ k) ∧ Aside0 (wc.heap[gb208]? = some (.cells #[.int .i64 a1_0, .int .i64 a1_1, .int .i64 a1_2] 33 (0, 0))) ∧ Aside0 (wc.heap[gb209]? = some (.cells #[.int .u8 a2_0, .int .u8 a2_1] 44 (0, 0))) ∧ Aside0 (Below w.heap.size w wc))
  case first =>
   have H := HC6.out
   clear HC6
   by_cases c10 : (l0.length : Int) > 20
   ·
    rw [if_pos c10] at H
    have c10b0 : decide (20 < (l0.length : Int)) = true := decide_eq_true c10
    have c10b1 : decide (20 < l0.length) = true := decide_eq_true (by omega)
    clear c10
    (first | rw [c10b0] | (simp only [i64_w, i32_w]; rw [c10b0]) | skip)
    have H' := Aside0.mk H
    clear H
    go_wp2
    repeat (go_quiet (fail); try go_wp2)
    go_meet
    case rel => exact ⟨_, (true), (by first | rfl | (simp; done) | (simp [*]; done)), H', ⟨by first | omega | exact Nat.le_refl _⟩, ⟨by (with_reducible repeat (first | refine blk_drewN ?_ _ | refine blk_drew ?_ | refine blk_alloc ?_ _)); exact BK208.out⟩, ⟨by (with_reducible repeat (first | refine blk_drewN ?_ _ | refine blk_drew ?_ | refine blk_alloc ?_ _)); exact BK209.out⟩, ⟨by repeat (first | (with_reducible first | exact HB.out | apply below_alloc | apply pw_below_drewN | apply below_drew1 | refine below_set ?_ GE208.out | refine below_set ?_ GE209.out) | exact HB.out)⟩⟩
   ·
    rw [if_neg c10] at H
    have c10b0 : decide (20 < (l0.length : Int)) = false := decide_eq_false c10
    have c10b1 : decide (20 < l0.length) = false := decide_eq_false (by omega)
    clear c10
    (first | rw [c10b0] | (simp only [i64_w, i32_w]; rw [c10b0]) | skip)
    replace H := Option.bind_eq_some_iff.mp H
    obtain ⟨t211, A110, H⟩ := H
    replace H : (if t211 = true then ((tegularef32_One.f a1_0 a1_1 a1_2).bind fun t212 => (tegulalaw32_ExtentMaps.j0 k l0 (!t212) a1_0 a1_1 a1_2 a2_0 a2_1)) else (tegulalaw32_ExtentMaps.j0 k l0 true a1_0 a1_1 a1_2 a2_0 a2_1)) = some r := H
    have A11 := Aside0.mk A110
    clear A110
    by_cases c12 : t211 = true
    ·
     subst c12
     have H1 : ((tegularef32_One.f a1_0 a1_1 a1_2).bind fun t212 => (tegulalaw32_ExtentMaps.j0 k l0 (!t212) a1_0 a1_1 a1_2 a2_0 a2_1)) = some r := by rw [if_pos rfl] at H; exact H
     clear H
     have H := H1
     clear H1
     replace H := Option.bind_eq_some_iff.mp H
     obtain ⟨t212, A130, H⟩ := H
     replace H : (tegulalaw32_ExtentMaps.j0 k l0 (!t212) a1_0 a1_1 a1_2 a2_0 a2_1) = some r := H
     have A13 := Aside0.mk A130
     clear A130
     have H' := Aside0.mk H
     clear H
     go_wp2_with (first | (go_at_call 16; (with_reducible refine (tegularef32_Valid.calls k _ _ l0 true _ ?side1 ?side2 A11.out).mono ?_); (case side1 => repeat (first | exact (Kd.C_below HR0.out HB.out) | (with_reducible refine Kd.C_alloc ?_ _) | (with_reducible refine Kd.C_drewN ?_ _) | (with_reducible refine Kd.C_drew ?_))); (case side2 => exact HC0.out); rintro e w14 ⟨rfl, hb⟩; have n0_ := Aside0.mk (blk_below (g := gb208) (o := .cells #[.int .i64 a1_0, .int .i64 a1_1, .int .i64 a1_2] 33 (0, 0)) (by (with_reducible repeat (first | refine blk_drewN ?_ _ | refine blk_drew ?_ | refine blk_alloc ?_ _)); exact BK208.out) hb); have n1_ := Aside0.mk (blk_below (g := gb209) (o := .cells #[.int .u8 a2_0, .int .u8 a2_1] 44 (0, 0)) (by (with_reducible repeat (first | refine blk_drewN ?_ _ | refine blk_drew ?_ | refine blk_alloc ?_ _)); exact BK209.out) hb); have n2_ := Aside0.mk (below_step (by repeat (first | (with_reducible first | exact HB.out | apply below_alloc | apply pw_below_drewN | apply below_drew1 | refine below_set ?_ GE208.out | refine below_set ?_ GE209.out) | exact HB.out)) hb); clear BK208; clear BK209; clear HB; have BK208 := n0_; have BK209 := n1_; have HB := n2_; clear n0_ n1_ n2_; (try clear hb); (try clear hb2); (try clear hk); (try clear hi); have hnb15 := NB208_209.out; have hnc15 := NB209_208.out; have hcz16_0 : w14.cell? ⟨gb208, 0, none⟩ = some (.int .i64 a1_0) := (blk_cell BK208.out 0).trans rfl; have hcz16_1 : w14.cell? ⟨gb208, 1, none⟩ = some (.int .i64 a1_1) := (blk_cell BK208.out 1).trans rfl; have hcz16_2 : w14.cell? ⟨gb208, 2, none⟩ = some (.int .i64 a1_2) := (blk_cell BK208.out 2).trans rfl; have hfz16_0 := blk_frozen BK208.out 0; have hfz16_1 := blk_frozen BK208.out 1; have hfz16_2 := blk_frozen BK208.out 2) | (go_at_call 26; (with_reducible refine (tegularef32_One.calls a1_0 a1_1 a1_2 t212 _ A13.out).mono ?_); rintro e w17 ⟨rfl, hb⟩; have n0_ := Aside0.mk (blk_below (g := gb208) (o := .cells #[.int .i64 a1_0, .int .i64 a1_1, .int .i64 a1_2] 33 (0, 0)) (by (with_reducible repeat (first | refine blk_drewN ?_ _ | refine blk_drew ?_ | refine blk_alloc ?_ _)); exact BK208.out) hb); have n1_ := Aside0.mk (blk_below (g := gb209) (o := .cells #[.int .u8 a2_0, .int .u8 a2_1] 44 (0, 0)) (by (with_reducible repeat (first | refine blk_drewN ?_ _ | refine blk_drew ?_ | refine blk_alloc ?_ _)); exact BK209.out) hb); have n2_ := Aside0.mk (below_step (by repeat (first | (with_reducible first | exact HB.out | apply below_alloc | apply pw_below_drewN | apply below_drew1 | refine below_set ?_ GE208.out | refine below_set ?_ GE209.out) | exact HB.out)) hb); clear BK208; clear BK209; clear HB; have BK208 := n0_; have BK209 := n1_; have HB := n2_; clear n0_ n1_ n2_; (try clear hb); (try clear hb2); (try clear hk); (try clear hi)))
     repeat (go_quiet (first | (go_at_call 16; (with_reducible refine (tegularef32_Valid.calls k _ _ l0 true _ ?side1 ?side2 A11.out).mono ?_); (case side1 => repeat (first | exact (Kd.C_below HR0.out HB.out) | (with_reducible refine Kd.C_alloc ?_ _) | (with_reducible refine Kd.C_drewN ?_ _) | (with_reducible refine Kd.C_drew ?_))); (case side2 => exact HC0.out); rintro e w14 ⟨rfl, hb⟩; have n0_ := Aside0.mk (blk_below (g := gb208) (o := .cells #[.int .i64 a1_0, .int .i64 a1_1, .int .i64 a1_2] 33 (0, 0)) (by (with_reducible repeat (first | refine blk_drewN ?_ _ | refine blk_drew ?_ | refine blk_alloc ?_ _)); exact BK208.out) hb); have n1_ := Aside0.mk (blk_below (g := gb209) (o := .cells #[.int .u8 a2_0, .int .u8 a2_1] 44 (0, 0)) (by (with_reducible repeat (first | refine blk_drewN ?_ _ | refine blk_drew ?_ | refine blk_alloc ?_ _)); exact BK209.out) hb); have n2_ := Aside0.mk (below_step (by repeat (first | (with_reducible first | exact HB.out | apply below_alloc | apply pw_below_drewN | apply below_drew1 | refine below_set ?_ GE208.out | refine below_set ?_ GE209.out) | exact HB.out)) hb); clear BK208; clear BK209; clear HB; have BK208 := n0_; have BK209 := n1_; have HB := n2_; clear n0_ n1_ n2_; (try clear hb); (try clear hb2); (try clear hk); (try clear hi); have hnb15 := NB208_209.out; have hnc15 := NB209_208.out; have hcz16_0 : w14.cell? ⟨gb208, 0, none⟩ = some (.int .i64 a1_0) := (blk_cell BK208.out 0).trans rfl; have hcz16_1 : w14.cell? ⟨gb208, 1, none⟩ = some (.int .i64 a1_1) := (blk_cell BK208.out 1).trans rfl; have hcz16_2 : w14.cell? ⟨gb208, 2, none⟩ = some (.int .i64 a1_2) := (blk_cell BK208.out 2).trans rfl; have hfz16_0 := blk_frozen BK208.out 0; have hfz16_1 := blk_frozen BK208.out 1; have hfz16_2 := blk_frozen BK208.out 2) | (go_at_call 26; (with_reducible refine (tegularef32_One.calls a1_0 a1_1 a1_2 t212 _ A13.out).mono ?_); rintro e w17 ⟨rfl, hb⟩; have n0_ := Aside0.mk (blk_below (g := gb208) (o := .cells #[.int .i64 a1_0, .int .i64 a1_1, .int .i64 a1_2] 33 (0, 0)) (by (with_reducible repeat (first | refine blk_drewN ?_ _ | refine blk_drew ?_ | refine blk_alloc ?_ _)); exact BK208.out) hb); have n1_ := Aside0.mk (blk_below (g := gb209) (o := .cells #[.int .u8 a2_0, .int .u8 a2_1] 44 (0, 0)) (by (with_reducible repeat (first | refine blk_drewN ?_ _ | refine blk_drew ?_ | refine blk_alloc ?_ _)); exact BK209.out) hb); have n2_ := Aside0.mk (below_step (by repeat (first | (with_reducible first | exact HB.out | apply below_alloc | apply pw_below_drewN | apply below_drew1 | refine below_set ?_ GE208.out | refine below_set ?_ GE209.out) | exact HB.out)) hb); clear BK208; clear BK209; clear HB; have BK208 := n0_; have BK209 := n1_; have HB := n2_; clear n0_ n1_ n2_; (try clear hb); (try clear hb2); (try clear hk); (try clear hi))); try go_wp2_with (first | (go_at_call 16; (with_reducible refine (tegularef32_Valid.calls k _ _ l0 true _ ?side1 ?side2 A11.out).mono ?_); (case side1 => repeat (first | exact (Kd.C_below HR0.out HB.out) | (with_reducible refine Kd.C_alloc ?_ _) | (with_reducible refine Kd.C_drewN ?_ _) | (with_reducible refine Kd.C_drew ?_))); (case side2 => exact HC0.out); rintro e w14 ⟨rfl, hb⟩; have n0_ := Aside0.mk (blk_below (g := gb208) (o := .cells #[.int .i64 a1_0, .int .i64 a1_1, .int .i64 a1_2] 33 (0, 0)) (by (with_reducible repeat (first | refine blk_drewN ?_ _ | refine blk_drew ?_ | refine blk_alloc ?_ _)); exact BK208.out) hb); have n1_ := Aside0.mk (blk_below (g := gb209) (o := .cells #[.int .u8 a2_0, .int .u8 a2_1] 44 (0, 0)) (by (with_reducible repeat (first | refine blk_drewN ?_ _ | refine blk_drew ?_ | refine blk_alloc ?_ _)); exact BK209.out) hb); have n2_ := Aside0.mk (below_step (by repeat (first | (with_reducible first | exact HB.out | apply below_alloc | apply pw_below_drewN | apply below_drew1 | refine below_set ?_ GE208.out | refine below_set ?_ GE209.out) | exact HB.out)) hb); clear BK208; clear BK209; clear HB; have BK208 := n0_; have BK209 := n1_; have HB := n2_; clear n0_ n1_ n2_; (try clear hb); (try clear hb2); (try clear hk); (try clear hi); have hnb15 := NB208_209.out; have hnc15 := NB209_208.out; have hcz16_0 : w14.cell? ⟨gb208, 0, none⟩ = some (.int .i64 a1_0) := (blk_cell BK208.out 0).trans rfl; have hcz16_1 : w14.cell? ⟨gb208, 1, none⟩ = some (.int .i64 a1_1) := (blk_cell BK208.out 1).trans rfl; have hcz16_2 : w14.cell? ⟨gb208, 2, none⟩ = some (.int .i64 a1_2) := (blk_cell BK208.out 2).trans rfl; have hfz16_0 := blk_frozen BK208.out 0; have hfz16_1 := blk_frozen BK208.out 1; have hfz16_2 := blk_frozen BK208.out 2) | (go_at_call 26; (with_reducible refine (tegularef32_One.calls a1_0 a1_1 a1_2 t212 _ A13.out).mono ?_); rintro e w17 ⟨rfl, hb⟩; have n0_ := Aside0.mk (blk_below (g := gb208) (o := .cells #[.int .i64 a1_0, .int .i64 a1_1, .int .i64 a1_2] 33 (0, 0)) (by (with_reducible repeat (first | refine blk_drewN ?_ _ | refine blk_drew ?_ | refine blk_alloc ?_ _)); exact BK208.out) hb); have n1_ := Aside0.mk (blk_below (g := gb209) (o := .cells #[.int .u8 a2_0, .int .u8 a2_1] 44 (0, 0)) (by (with_reducible repeat (first | refine blk_drewN ?_ _ | refine blk_drew ?_ | refine blk_alloc ?_ _)); exact BK209.out) hb); have n2_ := Aside0.mk (below_step (by repeat (first | (with_reducible first | exact HB.out | apply below_alloc | apply pw_below_drewN | apply below_drew1 | refine below_set ?_ GE208.out | refine below_set ?_ GE209.out) | exact HB.out)) hb); clear BK208; clear BK209; clear HB; have BK208 := n0_; have BK209 := n1_; have HB := n2_; clear n0_ n1_ n2_; (try clear hb); (try clear hb2); (try clear hk); (try clear hi))))
     go_meet
     case rel => exact ⟨_, (!t212), (by first | rfl | (simp; done) | (simp [*]; done)), H', ⟨by first | omega | exact Nat.le_refl _⟩, ⟨by (with_reducible repeat (first | refine blk_drewN ?_ _ | refine blk_drew ?_ | refine blk_alloc ?_ _)); exact BK208.out⟩, ⟨by (with_reducible repeat (first | refine blk_drewN ?_ _ | refine blk_drew ?_ | refine blk_alloc ?_ _)); exact BK209.out⟩, ⟨by repeat (first | (with_reducible first | exact HB.out | apply below_alloc | apply pw_below_drewN | apply below_drew1 | refine below_set ?_ GE208.out | refine below_set ?_ GE209.out) | exact HB.out)⟩⟩
    ·
     replace c12 := Bool.eq_false_iff.mpr c12
     subst c12
     have H1 : (tegulalaw32_ExtentMaps.j0 k l0 true a1_0 a1_1 a1_2 a2_0 a2_1) = some r := by rw [if_neg (show ¬ (false = true) by decide)] at H; exact H
     clear H
     have H := H1
     clear H1
     have H' := Aside0.mk H
     clear H
     go_wp2_with (first | (go_at_call 16; (with_reducible refine (tegularef32_Valid.calls k _ _ l0 false _ ?side1 ?side2 A11.out).mono ?_); (case side1 => repeat (first | exact (Kd.C_below HR0.out HB.out) | (with_reducible refine Kd.C_alloc ?_ _) | (with_reducible refine Kd.C_drewN ?_ _) | (with_reducible refine Kd.C_drew ?_))); (case side2 => exact HC0.out); rintro e w18 ⟨rfl, hb⟩; have n0_ := Aside0.mk (blk_below (g := gb208) (o := .cells #[.int .i64 a1_0, .int .i64 a1_1, .int .i64 a1_2] 33 (0, 0)) (by (with_reducible repeat (first | refine blk_drewN ?_ _ | refine blk_drew ?_ | refine blk_alloc ?_ _)); exact BK208.out) hb); have n1_ := Aside0.mk (blk_below (g := gb209) (o := .cells #[.int .u8 a2_0, .int .u8 a2_1] 44 (0, 0)) (by (with_reducible repeat (first | refine blk_drewN ?_ _ | refine blk_drew ?_ | refine blk_alloc ?_ _)); exact BK209.out) hb); have n2_ := Aside0.mk (below_step (by repeat (first | (with_reducible first | exact HB.out | apply below_alloc | apply pw_below_drewN | apply below_drew1 | refine below_set ?_ GE208.out | refine below_set ?_ GE209.out) | exact HB.out)) hb); clear BK208; clear BK209; clear HB; have BK208 := n0_; have BK209 := n1_; have HB := n2_; clear n0_ n1_ n2_; (try clear hb); (try clear hb2); (try clear hk); (try clear hi)))
     repeat (go_quiet (first | (go_at_call 16; (with_reducible refine (tegularef32_Valid.calls k _ _ l0 false _ ?side1 ?side2 A11.out).mono ?_); (case side1 => repeat (first | exact (Kd.C_below HR0.out HB.out) | (with_reducible refine Kd.C_alloc ?_ _) | (with_reducible refine Kd.C_drewN ?_ _) | (with_reducible refine Kd.C_drew ?_))); (case side2 => exact HC0.out); rintro e w18 ⟨rfl, hb⟩; have n0_ := Aside0.mk (blk_below (g := gb208) (o := .cells #[.int .i64 a1_0, .int .i64 a1_1, .int .i64 a1_2] 33 (0, 0)) (by (with_reducible repeat (first | refine blk_drewN ?_ _ | refine blk_drew ?_ | refine blk_alloc ?_ _)); exact BK208.out) hb); have n1_ := Aside0.mk (blk_below (g := gb209) (o := .cells #[.int .u8 a2_0, .int .u8 a2_1] 44 (0, 0)) (by (with_reducible repeat (first | refine blk_drewN ?_ _ | refine blk_drew ?_ | refine blk_alloc ?_ _)); exact BK209.out) hb); have n2_ := Aside0.mk (below_step (by repeat (first | (with_reducible first | exact HB.out | apply below_alloc | apply pw_below_drewN | apply below_drew1 | refine below_set ?_ GE208.out | refine below_set ?_ GE209.out) | exact HB.out)) hb); clear BK208; clear BK209; clear HB; have BK208 := n0_; have BK209 := n1_; have HB := n2_; clear n0_ n1_ n2_; (try clear hb); (try clear hb2); (try clear hk); (try clear hi))); try go_wp2_with (first | (go_at_call 16; (with_reducible refine (tegularef32_Valid.calls k _ _ l0 false _ ?side1 ?side2 A11.out).mono ?_); (case side1 => repeat (first | exact (Kd.C_below HR0.out HB.out) | (with_reducible refine Kd.C_alloc ?_ _) | (with_reducible refine Kd.C_drewN ?_ _) | (with_reducible refine Kd.C_drew ?_))); (case side2 => exact HC0.out); rintro e w18 ⟨rfl, hb⟩; have n0_ := Aside0.mk (blk_below (g := gb208) (o := .cells #[.int .i64 a1_0, .int .i64 a1_1, .int .i64 a1_2] 33 (0, 0)) (by (with_reducible repeat (first | refine blk_drewN ?_ _ | refine blk_drew ?_ | refine blk_alloc ?_ _)); exact BK208.out) hb); have n1_ := Aside0.mk (blk_below (g := gb209) (o := .cells #[.int .u8 a2_0, .int .u8 a2_1] 44 (0, 0)) (by (with_reducible repeat (first | refine blk_drewN ?_ _ | refine blk_drew ?_ | refine blk_alloc ?_ _)); exact BK209.out) hb); have n2_ := Aside0.mk (below_step (by repeat (first | (with_reducible first | exact HB.out | apply below_alloc | apply pw_below_drewN | apply below_drew1 | refine below_set ?_ GE208.out | refine below_set ?_ GE209.out) | exact HB.out)) hb); clear BK208; clear BK209; clear HB; have BK208 := n0_; have BK209 := n1_; have HB := n2_; clear n0_ n1_ n2_; (try clear hb); (try clear hb2); (try clear hk); (try clear hi))))
     go_meet
     case rel => exact ⟨_, (true), (by first | rfl | (simp; done) | (simp [*]; done)), H', ⟨by first | omega | exact Nat.le_refl _⟩, ⟨by (with_reducible repeat (first | refine blk_drewN ?_ _ | refine blk_drew ?_ | refine blk_alloc ?_ _)); exact BK208.out⟩, ⟨by (with_reducible repeat (first | refine blk_drewN ?_ _ | refine blk_drew ?_ | refine blk_alloc ?_ _)); exact BK209.out⟩, ⟨by repeat (first | (with_reducible first | exact HB.out | apply below_alloc | apply pw_below_drewN | apply below_drew1 | refine below_set ?_ GE208.out | refine below_set ?_ GE209.out) | exact HB.out)⟩⟩
  case rest =>
   clear HC6
   try clear c1
   try clear p2
   try clear c5
   try clear c9
   try clear c10
   try clear c10b0
   try clear c10b1
   try clear c12
   try clear c15
   try clear hcz16_0
   try clear hcz16_1
   try clear hcz16_2
   try clear hfz16_0
   try clear hfz16_1
   try clear hfz16_2
   obtain ⟨kq, x34_5, rfl, HA, HJ5, BK208, BK209, HB⟩ := hcut
   cases kq with
   | zero => exact absurd HA.out (by simp [tegulalaw32_ExtentMaps.j0])
   | succ kj5 =>
    have H := HA.out
    clear HA
    simp only [tegulalaw32_ExtentMaps.j0] at H
    by_cases c19 : x34_5 = true
    ·
     subst c19
     have H1 : (some true) = some r := by rw [if_pos rfl] at H; exact H
     clear H
     have H := H1
     clear H1
     obtain rfl := Option.some.inj H
     go_wp2
     repeat (go_quiet (fail); try go_wp2)
     go_ret
     exact ⟨by first | rfl | (simp [errW_none, errW_some] <;> rfl) | (simp [*, errW_none, errW_some] <;> rfl), by repeat (first | (with_reducible first | exact HB.out | apply below_alloc | apply pw_below_drewN | apply below_drew1 | refine below_set ?_ GE208.out | refine below_set ?_ GE209.out) | exact HB.out)⟩
    ·
     replace c19 := Bool.eq_false_iff.mpr c19
     subst c19
     have H1 : ((extent_Put.f kj5 l0 a1_0 a1_1 a1_2).bind fun bt213 => ((extent_Cut.f kj5 bt213.1 (wrap64 (a2_0)) (wrap64 (a2_1))).bind fun bt220 => (if bt213.2.2 = 0 then (tegulalaw32_ExtentMaps.j1 kj5 l0 (wrap64 (a2_0)) (wrap64 (a2_1)) bt213.1 bt220.1 (bt220.2.2 != 0) a1_0 a1_1 a1_2) else (tegulalaw32_ExtentMaps.j1 kj5 l0 (wrap64 (a2_0)) (wrap64 (a2_1)) bt213.1 bt220.1 true a1_0 a1_1 a1_2)))) = some r := by rw [if_neg (show ¬ (false = true) by decide)] at H; exact H
     clear H
     have H := H1
     clear H1
     replace H := Option.bind_eq_some_iff.mp H
     obtain ⟨⟨t213, t216, t219⟩, A200, H⟩ := H
     replace H : ((extent_Cut.f kj5 t213 (wrap64 (a2_0)) (wrap64 (a2_1))).bind fun bt220 => (if t219 = 0 then (tegulalaw32_ExtentMaps.j1 kj5 l0 (wrap64 (a2_0)) (wrap64 (a2_1)) t213 bt220.1 (bt220.2.2 != 0) a1_0 a1_1 a1_2) else (tegulalaw32_ExtentMaps.j1 kj5 l0 (wrap64 (a2_0)) (wrap64 (a2_1)) t213 bt220.1 true a1_0 a1_1 a1_2))) = some r := H
     have A20 := Aside0.mk A200
     clear A200
     replace H := Option.bind_eq_some_iff.mp H
     obtain ⟨⟨t220, t221, t222⟩, A210, H⟩ := H
     replace H : (if t219 = 0 then (tegulalaw32_ExtentMaps.j1 kj5 l0 (wrap64 (a2_0)) (wrap64 (a2_1)) t213 t220 (t222 != 0) a1_0 a1_1 a1_2) else (tegulalaw32_ExtentMaps.j1 kj5 l0 (wrap64 (a2_0)) (wrap64 (a2_1)) t213 t220 true a1_0 a1_1 a1_2)) = some r := H
     have A21 := Aside0.mk A210
     clear A210
     have HC22 := Aside0.mk H
     clear H
     have hnb23 := NB209_208.out
     have hnc23 := NB208_209.out
     have hcz24_0 : wc.cell? ⟨gb209, 0, none⟩ = some (.int .u8 a2_0) := (blk_cell BK209.out 0).trans rfl
     have hcz24_1 : wc.cell? ⟨gb209, 1, none⟩ = some (.int .u8 a2_1) := (blk_cell BK209.out 1).trans rfl
     have hfz24_0 := blk_frozen BK209.out 0
     have hfz24_1 := blk_frozen BK209.out 1
     have hcz25_0 : wc.cell? ⟨gb208, 0, none⟩ = some (.int .i64 a1_0) := (blk_cell BK208.out 0).trans rfl
     have hcz25_1 : wc.cell? ⟨gb208, 1, none⟩ = some (.int .i64 a1_1) := (blk_cell BK208.out 1).trans rfl
     have hcz25_2 : wc.cell? ⟨gb208, 2, none⟩ = some (.int .i64 a1_2) := (blk_cell BK208.out 2).trans rfl
     have hfz25_0 := blk_frozen BK208.out 0
     have hfz25_1 := blk_frozen BK208.out 1
     have hfz25_2 := blk_frozen BK208.out 2
     go_upto_region 8 with (first | (go_at_call 24; (with_reducible refine (extent_Put.calls kj5 _ _ l0 a1_0 a1_1 a1_2 t213 t216 t219 _ ?side1 ?side2 A20.out).mono ?_); (case side1 => repeat (first | exact (Kd.C_below HR0.out HB.out) | (with_reducible refine Kd.C_alloc ?_ _) | (with_reducible refine Kd.C_drewN ?_ _) | (with_reducible refine Kd.C_drew ?_))); (case side2 => exact HC0.out); rintro e w26 ⟨v214, v217, rfl, ho0, ho1, hb⟩; have n0_ := Aside0.mk (Kd.R_lower (Kd.R_newB ho0 (g := gb208) (o := .cells #[.int .i64 a1_0, .int .i64 a1_1, .int .i64 a1_2] 33 (0, 0)) (by (with_reducible repeat (first | refine blk_drewN ?_ _ | refine blk_drew ?_ | refine blk_alloc ?_ _)); exact BK208.out)) (below_size (by repeat (first | (with_reducible first | exact HB.out | apply below_alloc | apply pw_below_drewN | apply below_drew1 | refine below_set ?_ GE208.out | refine below_set ?_ GE209.out) | exact HB.out)))); have n1_ := Aside0.mk (Kd.R_lower (Kd.R_newB ho1 (g := gb208) (o := .cells #[.int .i64 a1_0, .int .i64 a1_1, .int .i64 a1_2] 33 (0, 0)) (by (with_reducible repeat (first | refine blk_drewN ?_ _ | refine blk_drew ?_ | refine blk_alloc ?_ _)); exact BK208.out)) (below_size (by repeat (first | (with_reducible first | exact HB.out | apply below_alloc | apply pw_below_drewN | apply below_drew1 | refine below_set ?_ GE208.out | refine below_set ?_ GE209.out) | exact HB.out)))); have n2_ := Aside0.mk (blk_below (g := gb208) (o := .cells #[.int .i64 a1_0, .int .i64 a1_1, .int .i64 a1_2] 33 (0, 0)) (by (with_reducible repeat (first | refine blk_drewN ?_ _ | refine blk_drew ?_ | refine blk_alloc ?_ _)); exact BK208.out) hb); have n3_ := Aside0.mk (blk_below (g := gb209) (o := .cells #[.int .u8 a2_0, .int .u8 a2_1] 44 (0, 0)) (by (with_reducible repeat (first | refine blk_drewN ?_ _ | refine blk_drew ?_ | refine blk_alloc ?_ _)); exact BK209.out) hb); have n4_ := Aside0.mk (below_step (by repeat (first | (with_reducible first | exact HB.out | apply below_alloc | apply pw_below_drewN | apply below_drew1 | refine below_set ?_ GE208.out | refine below_set ?_ GE209.out) | exact HB.out)) hb); clear BK208; clear BK209; clear HB; have HO215 := n0_; have HO218 := n1_; have BK208 := n2_; have BK209 := n3_; have HB := n4_; clear n0_ n1_ n2_ n3_ n4_; (try clear hb); (try clear hb2); (try clear hk); (try clear hi); (try clear ho0); (try clear ho1); obtain ⟨Ao27, co27, eo27⟩ := Kd.R_slice HO215.out; subst eo27) | (go_at_call 13; (with_reducible refine (extent_Cut.calls kj5 _ _ t213 (wrap64 (a2_0)) (wrap64 (a2_1)) t220 t221 t222 _ ?side1 ?side2 A21.out).mono ?_); (case side1 => repeat (first | exact (Kd.R_reads' HO215.out).2.2 | (with_reducible refine Kd.C_alloc ?_ _) | (with_reducible refine Kd.C_drewN ?_ _) | (with_reducible refine Kd.C_drew ?_))); (case side2 => exact (Kd.R_reads' HO215.out).2.1); rintro e w28 ⟨v223, v225, rfl, ho0, ho1, hb⟩; have n0_ := Aside0.mk (Kd.R_mono (Kd.R_told (Kd.R_told (Kd.R_old (by (with_reducible repeat (first | apply Kd.R_alloc | apply Kd.R_drewN | apply Kd.R_drew)); exact HO215.out) hb) (Kd.R_base ho0)) (Kd.R_base ho1)) (fun _ h_ => h_.1)); have n1_ := Aside0.mk (Kd.R_mono (Kd.R_told (Kd.R_told (Kd.R_old (by (with_reducible repeat (first | apply Kd.R_alloc | apply Kd.R_drewN | apply Kd.R_drew)); exact HO218.out) hb) (Kd.R_base ho0)) (Kd.R_base ho1)) (fun _ h_ => h_.1)); have n2_ := Aside0.mk (Kd.R_lower (Kd.R_newB (Kd.R_new' (Kd.R_new' ho0 (Kd.R_lt (by (with_reducible repeat (first | apply Kd.R_alloc | apply Kd.R_drewN | apply Kd.R_drew)); exact HO215.out))) (Kd.R_lt (by (with_reducible repeat (first | apply Kd.R_alloc | apply Kd.R_drewN | apply Kd.R_drew)); exact HO218.out))) (g := gb208) (o := .cells #[.int .i64 a1_0, .int .i64 a1_1, .int .i64 a1_2] 33 (0, 0)) (by (with_reducible repeat (first | refine blk_drewN ?_ _ | refine blk_drew ?_ | refine blk_alloc ?_ _)); exact BK208.out)) (below_size (by repeat (first | (with_reducible first | exact HB.out | apply below_alloc | apply pw_below_drewN | apply below_drew1 | refine below_set ?_ GE208.out | refine below_set ?_ GE209.out) | exact HB.out)))); have n3_ := Aside0.mk (Kd.R_lower (Kd.R_newB (Kd.R_new' (Kd.R_new' ho1 (Kd.R_lt (by (with_reducible repeat (first | apply Kd.R_alloc | apply Kd.R_drewN | apply Kd.R_drew)); exact HO215.out))) (Kd.R_lt (by (with_reducible repeat (first | apply Kd.R_alloc | apply Kd.R_drewN | apply Kd.R_drew)); exact HO218.out))) (g := gb208) (o := .cells #[.int .i64 a1_0, .int .i64 a1_1, .int .i64 a1_2] 33 (0, 0)) (by (with_reducible repeat (first | refine blk_drewN ?_ _ | refine blk_drew ?_ | refine blk_alloc ?_ _)); exact BK208.out)) (below_size (by repeat (first | (with_reducible first | exact HB.out | apply below_alloc | apply pw_below_drewN | apply below_drew1 | refine below_set ?_ GE208.out | refine below_set ?_ GE209.out) | exact HB.out)))); have n4_ := Aside0.mk (blk_below (g := gb208) (o := .cells #[.int .i64 a1_0, .int .i64 a1_1, .int .i64 a1_2] 33 (0, 0)) (by (with_reducible repeat (first | refine blk_drewN ?_ _ | refine blk_drew ?_ | refine blk_alloc ?_ _)); exact BK208.out) hb); have n5_ := Aside0.mk (blk_below (g := gb209) (o := .cells #[.int .u8 a2_0, .int .u8 a2_1] 44 (0, 0)) (by (with_reducible repeat (first | refine blk_drewN ?_ _ | refine blk_drew ?_ | refine blk_alloc ?_ _)); exact BK209.out) hb); have n6_ := Aside0.mk (below_step (by repeat (first | (with_reducible first | exact HB.out | apply below_alloc | apply pw_below_drewN | apply below_drew1 | refine below_set ?_ GE208.out | refine below_set ?_ GE209.out) | exact HB.out)) hb); clear HO215; clear HO218; clear BK208; clear BK209; clear HB; have HO215 := n0_; have HO218 := n1_; have HO224 := n2_; have HO226 := n3_; have BK208 := n4_; have BK209 := n5_; have HB := n6_; clear n0_ n1_ n2_ n3_ n4_ n5_ n6_; (try clear hb); (try clear hb2); (try clear hk); (try clear hi); (try clear ho0); (try clear ho1)))
     repeat (go_quiet (first | (go_at_call 24; (with_reducible refine (extent_Put.calls kj5 _ _ l0 a1_0 a1_1 a1_2 t213 t216 t219 _ ?side1 ?side2 A20.out).mono ?_); (case side1 => repeat (first | exact (Kd.C_below HR0.out HB.out) | (with_reducible refine Kd.C_alloc ?_ _) | (with_reducible refine Kd.C_drewN ?_ _) | (with_reducible refine Kd.C_drew ?_))); (case side2 => exact HC0.out); rintro e w26 ⟨v214, v217, rfl, ho0, ho1, hb⟩; have n0_ := Aside0.mk (Kd.R_lower (Kd.R_newB ho0 (g := gb208) (o := .cells #[.int .i64 a1_0, .int .i64 a1_1, .int .i64 a1_2] 33 (0, 0)) (by (with_reducible repeat (first | refine blk_drewN ?_ _ | refine blk_drew ?_ | refine blk_alloc ?_ _)); exact BK208.out)) (below_size (by repeat (first | (with_reducible first | exact HB.out | apply below_alloc | apply pw_below_drewN | apply below_drew1 | refine below_set ?_ GE208.out | refine below_set ?_ GE209.out) | exact HB.out)))); have n1_ := Aside0.mk (Kd.R_lower (Kd.R_newB ho1 (g := gb208) (o := .cells #[.int .i64 a1_0, .int .i64 a1_1, .int .i64 a1_2] 33 (0, 0)) (by (with_reducible repeat (first | refine blk_drewN ?_ _ | refine blk_drew ?_ | refine blk_alloc ?_ _)); exact BK208.out)) (below_size (by repeat (first | (with_reducible first | exact HB.out | apply below_alloc | apply pw_below_drewN | apply below_drew1 | refine below_set ?_ GE208.out | refine below_set ?_ GE209.out) | exact HB.out)))); have n2_ := Aside0.mk (blk_below (g := gb208) (o := .cells #[.int .i64 a1_0, .int .i64 a1_1, .int .i64 a1_2] 33 (0, 0)) (by (with_reducible repeat (first | refine blk_drewN ?_ _ | refine blk_drew ?_ | refine blk_alloc ?_ _)); exact BK208.out) hb); have n3_ := Aside0.mk (blk_below (g := gb209) (o := .cells #[.int .u8 a2_0, .int .u8 a2_1] 44 (0, 0)) (by (with_reducible repeat (first | refine blk_drewN ?_ _ | refine blk_drew ?_ | refine blk_alloc ?_ _)); exact BK209.out) hb); have n4_ := Aside0.mk (below_step (by repeat (first | (with_reducible first | exact HB.out | apply below_alloc | apply pw_below_drewN | apply below_drew1 | refine below_set ?_ GE208.out | refine below_set ?_ GE209.out) | exact HB.out)) hb); clear BK208; clear BK209; clear HB; have HO215 := n0_; have HO218 := n1_; have BK208 := n2_; have BK209 := n3_; have HB := n4_; clear n0_ n1_ n2_ n3_ n4_; (try clear hb); (try clear hb2); (try clear hk); (try clear hi); (try clear ho0); (try clear ho1); obtain ⟨Ao27, co27, eo27⟩ := Kd.R_slice HO215.out; subst eo27) | (go_at_call 13; (with_reducible refine (extent_Cut.calls kj5 _ _ t213 (wrap64 (a2_0)) (wrap64 (a2_1)) t220 t221 t222 _ ?side1 ?side2 A21.out).mono ?_); (case side1 => repeat (first | exact (Kd.R_reads' HO215.out).2.2 | (with_reducible refine Kd.C_alloc ?_ _) | (with_reducible refine Kd.C_drewN ?_ _) | (with_reducible refine Kd.C_drew ?_))); (case side2 => exact (Kd.R_reads' HO215.out).2.1); rintro e w28 ⟨v223, v225, rfl, ho0, ho1, hb⟩; have n0_ := Aside0.mk (Kd.R_mono (Kd.R_told (Kd.R_told (Kd.R_old (by (with_reducible repeat (first | apply Kd.R_alloc | apply Kd.R_drewN | apply Kd.R_drew)); exact HO215.out) hb) (Kd.R_base ho0)) (Kd.R_base ho1)) (fun _ h_ => h_.1)); have n1_ := Aside0.mk (Kd.R_mono (Kd.R_told (Kd.R_told (Kd.R_old (by (with_reducible repeat (first | apply Kd.R_alloc | apply Kd.R_drewN | apply Kd.R_drew)); exact HO218.out) hb) (Kd.R_base ho0)) (Kd.R_base ho1)) (fun _ h_ => h_.1)); have n2_ := Aside0.mk (Kd.R_lower (Kd.R_newB (Kd.R_new' (Kd.R_new' ho0 (Kd.R_lt (by (with_reducible repeat (first | apply Kd.R_alloc | apply Kd.R_drewN | apply Kd.R_drew)); exact HO215.out))) (Kd.R_lt (by (with_reducible repeat (first | apply Kd.R_alloc | apply Kd.R_drewN | apply Kd.R_drew)); exact HO218.out))) (g := gb208) (o := .cells #[.int .i64 a1_0, .int .i64 a1_1, .int .i64 a1_2] 33 (0, 0)) (by (with_reducible repeat (first | refine blk_drewN ?_ _ | refine blk_drew ?_ | refine blk_alloc ?_ _)); exact BK208.out)) (below_size (by repeat (first | (with_reducible first | exact HB.out | apply below_alloc | apply pw_below_drewN | apply below_drew1 | refine below_set ?_ GE208.out | refine below_set ?_ GE209.out) | exact HB.out)))); have n3_ := Aside0.mk (Kd.R_lower (Kd.R_newB (Kd.R_new' (Kd.R_new' ho1 (Kd.R_lt (by (with_reducible repeat (first | apply Kd.R_alloc | apply Kd.R_drewN | apply Kd.R_drew)); exact HO215.out))) (Kd.R_lt (by (with_reducible repeat (first | apply Kd.R_alloc | apply Kd.R_drewN | apply Kd.R_drew)); exact HO218.out))) (g := gb208) (o := .cells #[.int .i64 a1_0, .int .i64 a1_1, .int .i64 a1_2] 33 (0, 0)) (by (with_reducible repeat (first | refine blk_drewN ?_ _ | refine blk_drew ?_ | refine blk_alloc ?_ _)); exact BK208.out)) (below_size (by repeat (first | (with_reducible first | exact HB.out | apply below_alloc | apply pw_below_drewN | apply below_drew1 | refine below_set ?_ GE208.out | refine below_set ?_ GE209.out) | exact HB.out)))); have n4_ := Aside0.mk (blk_below (g := gb208) (o := .cells #[.int .i64 a1_0, .int .i64 a1_1, .int .i64 a1_2] 33 (0, 0)) (by (with_reducible repeat (first | refine blk_drewN ?_ _ | refine blk_drew ?_ | refine blk_alloc ?_ _)); exact BK208.out) hb); have n5_ := Aside0.mk (blk_below (g := gb209) (o := .cells #[.int .u8 a2_0, .int .u8 a2_1] 44 (0, 0)) (by (with_reducible repeat (first | refine blk_drewN ?_ _ | refine blk_drew ?_ | refine blk_alloc ?_ _)); exact BK209.out) hb); have n6_ := Aside0.mk (below_step (by repeat (first | (with_reducible first | exact HB.out | apply below_alloc | apply pw_below_drewN | apply below_drew1 | refine below_set ?_ GE208.out | refine below_set ?_ GE209.out) | exact HB.out)) hb); clear HO215; clear HO218; clear BK208; clear BK209; clear HB; have HO215 := n0_; have HO218 := n1_; have HO224 := n2_; have HO226 := n3_; have BK208 := n4_; have BK209 := n5_; have HB := n6_; clear n0_ n1_ n2_ n3_ n4_ n5_ n6_; (try clear hb); (try clear hb2); (try clear hk); (try clear hi); (try clear ho0); (try clear ho1))); go_upto_region 8 with (first | (go_at_call 24; (with_reducible refine (extent_Put.calls kj5 _ _ l0 a1_0 a1_1 a1_2 t213 t216 t219 _ ?side1 ?side2 A20.out).mono ?_); (case side1 => repeat (first | exact (Kd.C_below HR0.out HB.out) | (with_reducible refine Kd.C_alloc ?_ _) | (with_reducible refine Kd.C_drewN ?_ _) | (with_reducible refine Kd.C_drew ?_))); (case side2 => exact HC0.out); rintro e w26 ⟨v214, v217, rfl, ho0, ho1, hb⟩; have n0_ := Aside0.mk (Kd.R_lower (Kd.R_newB ho0 (g := gb208) (o := .cells #[.int .i64 a1_0, .int .i64 a1_1, .int .i64 a1_2] 33 (0, 0)) (by (with_reducible repeat (first | refine blk_drewN ?_ _ | refine blk_drew ?_ | refine blk_alloc ?_ _)); exact BK208.out)) (below_size (by repeat (first | (with_reducible first | exact HB.out | apply below_alloc | apply pw_below_drewN | apply below_drew1 | refine below_set ?_ GE208.out | refine below_set ?_ GE209.out) | exact HB.out)))); have n1_ := Aside0.mk (Kd.R_lower (Kd.R_newB ho1 (g := gb208) (o := .cells #[.int .i64 a1_0, .int .i64 a1_1, .int .i64 a1_2] 33 (0, 0)) (by (with_reducible repeat (first | refine blk_drewN ?_ _ | refine blk_drew ?_ | refine blk_alloc ?_ _)); exact BK208.out)) (below_size (by repeat (first | (with_reducible first | exact HB.out | apply below_alloc | apply pw_below_drewN | apply below_drew1 | refine below_set ?_ GE208.out | refine below_set ?_ GE209.out) | exact HB.out)))); have n2_ := Aside0.mk (blk_below (g := gb208) (o := .cells #[.int .i64 a1_0, .int .i64 a1_1, .int .i64 a1_2] 33 (0, 0)) (by (with_reducible repeat (first | refine blk_drewN ?_ _ | refine blk_drew ?_ | refine blk_alloc ?_ _)); exact BK208.out) hb); have n3_ := Aside0.mk (blk_below (g := gb209) (o := .cells #[.int .u8 a2_0, .int .u8 a2_1] 44 (0, 0)) (by (with_reducible repeat (first | refine blk_drewN ?_ _ | refine blk_drew ?_ | refine blk_alloc ?_ _)); exact BK209.out) hb); have n4_ := Aside0.mk (below_step (by repeat (first | (with_reducible first | exact HB.out | apply below_alloc | apply pw_below_drewN | apply below_drew1 | refine below_set ?_ GE208.out | refine below_set ?_ GE209.out) | exact HB.out)) hb); clear BK208; clear BK209; clear HB; have HO215 := n0_; have HO218 := n1_; have BK208 := n2_; have BK209 := n3_; have HB := n4_; clear n0_ n1_ n2_ n3_ n4_; (try clear hb); (try clear hb2); (try clear hk); (try clear hi); (try clear ho0); (try clear ho1); obtain ⟨Ao27, co27, eo27⟩ := Kd.R_slice HO215.out; subst eo27) | (go_at_call 13; (with_reducible refine (extent_Cut.calls kj5 _ _ t213 (wrap64 (a2_0)) (wrap64 (a2_1)) t220 t221 t222 _ ?side1 ?side2 A21.out).mono ?_); (case side1 => repeat (first | exact (Kd.R_reads' HO215.out).2.2 | (with_reducible refine Kd.C_alloc ?_ _) | (with_reducible refine Kd.C_drewN ?_ _) | (with_reducible refine Kd.C_drew ?_))); (case side2 => exact (Kd.R_reads' HO215.out).2.1); rintro e w28 ⟨v223, v225, rfl, ho0, ho1, hb⟩; have n0_ := Aside0.mk (Kd.R_mono (Kd.R_told (Kd.R_told (Kd.R_old (by (with_reducible repeat (first | apply Kd.R_alloc | apply Kd.R_drewN | apply Kd.R_drew)); exact HO215.out) hb) (Kd.R_base ho0)) (Kd.R_base ho1)) (fun _ h_ => h_.1)); have n1_ := Aside0.mk (Kd.R_mono (Kd.R_told (Kd.R_told (Kd.R_old (by (with_reducible repeat (first | apply Kd.R_alloc | apply Kd.R_drewN | apply Kd.R_drew)); exact HO218.out) hb) (Kd.R_base ho0)) (Kd.R_base ho1)) (fun _ h_ => h_.1)); have n2_ := Aside0.mk (Kd.R_lower (Kd.R_newB (Kd.R_new' (Kd.R_new' ho0 (Kd.R_lt (by (with_reducible repeat (first | apply Kd.R_alloc | apply Kd.R_drewN | apply Kd.R_drew)); exact HO215.out))) (Kd.R_lt (by (with_reducible repeat (first | apply Kd.R_alloc | apply Kd.R_drewN | apply Kd.R_drew)); exact HO218.out))) (g := gb208) (o := .cells #[.int .i64 a1_0, .int .i64 a1_1, .int .i64 a1_2] 33 (0, 0)) (by (with_reducible repeat (first | refine blk_drewN ?_ _ | refine blk_drew ?_ | refine blk_alloc ?_ _)); exact BK208.out)) (below_size (by repeat (first | (with_reducible first | exact HB.out | apply below_alloc | apply pw_below_drewN | apply below_drew1 | refine below_set ?_ GE208.out | refine below_set ?_ GE209.out) | exact HB.out)))); have n3_ := Aside0.mk (Kd.R_lower (Kd.R_newB (Kd.R_new' (Kd.R_new' ho1 (Kd.R_lt (by (with_reducible repeat (first | apply Kd.R_alloc | apply Kd.R_drewN | apply Kd.R_drew)); exact HO215.out))) (Kd.R_lt (by (with_reducible repeat (first | apply Kd.R_alloc | apply Kd.R_drewN | apply Kd.R_drew)); exact HO218.out))) (g := gb208) (o := .cells #[.int .i64 a1_0, .int .i64 a1_1, .int .i64 a1_2] 33 (0, 0)) (by (with_reducible repeat (first | refine blk_drewN ?_ _ | refine blk_drew ?_ | refine blk_alloc ?_ _)); exact BK208.out)) (below_size (by repeat (first | (with_reducible first | exact HB.out | apply below_alloc | apply pw_below_drewN | apply below_drew1 | refine below_set ?_ GE208.out | refine below_set ?_ GE209.out) | exact HB.out)))); have n4_ := Aside0.mk (blk_below (g := gb208) (o := .cells #[.int .i64 a1_0, .int .i64 a1_1, .int .i64 a1_2] 33 (0, 0)) (by (with_reducible repeat (first | refine blk_drewN ?_ _ | refine blk_drew ?_ | refine blk_alloc ?_ _)); exact BK208.out) hb); have n5_ := Aside0.mk (blk_below (g := gb209) (o := .cells #[.int .u8 a2_0, .int .u8 a2_1] 44 (0, 0)) (by (with_reducible repeat (first | refine blk_drewN ?_ _ | refine blk_drew ?_ | refine blk_alloc ?_ _)); exact BK209.out) hb); have n6_ := Aside0.mk (below_step (by repeat (first | (with_reducible first | exact HB.out | apply below_alloc | apply pw_below_drewN | apply below_drew1 | refine below_set ?_ GE208.out | refine below_set ?_ GE209.out) | exact HB.out)) hb); clear HO215; clear HO218; clear BK208; clear BK209; clear HB; have HO215 := n0_; have HO218 := n1_; have HO224 := n2_; have HO226 := n3_; have BK208 := n4_; have BK209 := n5_; have HB := n6_; clear n0_ n1_ n2_ n3_ n4_ n5_ n6_; (try clear hb); (try clear hb2); (try clear hk); (try clear hi); (try clear ho0); (try clear ho1))))
     (try simp only [Act.put, List.setIfInBounds_toArray, List.set_cons_zero, List.set_cons_succ])
     go_cut [61] (fun v61 wc => ∃ (kq : Nat) (x61_21 : Bool), v61 = .bool x61_21 ∧ Aside0 (tegulalaw32_ExtentMaps.j1 kq l0 (wrap64 (a2_0)) (wrap64 (a2_1)) t213 t220 x61_21 a1_0 a1_1 a1_2 = some r) ∧ Aside0 (kq ≤ kj5) ∧ Aside0 (Kd.R k33 33 wc w.heap.size (fun k_ => some k_ ≠ (v223 : Value).ownBlock ∧ k_ ≠ gb208) (.slice Ao27 t213.length co27) t213) ∧ Aside0 (Kd.R k33 33 wc w.heap.size (fun k_ => some k_ ≠ ((.slice Ao27 t213.length co27) : Value).ownBlock ∧ k_ ≠ gb208) v223 t220) ∧ Aside0 (wc.heap[gb208]? = some (.cells #[.int .i64 a1_0, .int .i64 a1_1, .int .i64 a1_2] 33 (0, 0))) ∧ Aside0 (wc.heap[gb209]? = some (.cells #[.int .u8 a2_0, .int .u8 a2_1] 44 (0, 0))) ∧ Aside0 (Below w.heap.size w wc))
     case first =>
      have H := HC22.out
      clear HC22
      by_cases c29 : t219 = 0
      ·
       rw [if_pos c29] at H
       have c29b0 : (t219 == 0) = true := beq_iff_eq.mpr c29
       have c29b1 : (t219 != 0) = false := bne_eq_false_iff_eq.mpr c29
       clear c29
       (first | rw [c29b0] | (simp only [i64_w, i32_w]; rw [c29b0]) | skip)
       have H' := Aside0.mk H
       clear H
       go_wp2
       repeat (go_quiet (fail); try go_wp2)
       go_meet
       case rel => exact ⟨_, ((t222 != 0)), (by first | rfl | (simp; done) | (simp [*]; done)), H', ⟨by have := HJ5.out; first | omega | exact Nat.le_refl _⟩, ⟨by (with_reducible repeat (first | apply Kd.R_alloc | apply Kd.R_drewN | apply Kd.R_drew)); exact Kd.R_mono HO215.out (fun _ hk => ⟨hk.1.2, hk.1.1.2⟩)⟩, ⟨by (with_reducible repeat (first | apply Kd.R_alloc | apply Kd.R_drewN | apply Kd.R_drew)); exact Kd.R_mono HO224.out (fun _ hk => ⟨hk.1.1.2, hk.2⟩)⟩, ⟨by (with_reducible repeat (first | refine blk_drewN ?_ _ | refine blk_drew ?_ | refine blk_alloc ?_ _)); exact BK208.out⟩, ⟨by (with_reducible repeat (first | refine blk_drewN ?_ _ | refine blk_drew ?_ | refine blk_alloc ?_ _)); exact BK209.out⟩, ⟨by repeat (first | (with_reducible first | exact HB.out | apply below_alloc | apply pw_below_drewN | apply below_drew1 | refine below_set ?_ GE208.out | refine below_set ?_ GE209.out) | exact HB.out)⟩⟩
      ·
       rw [if_neg c29] at H
       have c29b0 : (t219 == 0) = false := beq_eq_false_iff_ne.mpr c29
       have c29b1 : (t219 != 0) = true := bne_iff_ne.mpr c29
       (first | rw [c29b0] | (simp only [i64_w, i32_w]; rw [c29b0]) | skip)
       have H' := Aside0.mk H
       clear H
       go_wp2
       repeat (go_quiet (fail); try go_wp2)
       go_meet
       case rel => exact ⟨_, (true), (by first | rfl | (simp; done) | (simp [*]; done)), H', ⟨by have := HJ5.out; first | omega | exact Nat.le_refl _⟩, ⟨by (with_reducible repeat (first | apply Kd.R_alloc | apply Kd.R_drewN | apply Kd.R_drew)); exact Kd.R_mono HO215.out (fun _ hk => ⟨hk.1.2, hk.1.1.2⟩)⟩, ⟨by (with_reducible repeat (first | apply Kd.R_alloc | apply Kd.R_drewN | apply Kd.R_drew)); exact Kd.R_mono HO224.out (fun _ hk => ⟨hk.1.1.2, hk.2⟩)⟩, ⟨by (with_reducible repeat (first | refine blk_drewN ?_ _ | refine blk_drew ?_ | refine blk_alloc ?_ _)); exact BK208.out⟩, ⟨by (with_reducible repeat (first | refine blk_drewN ?_ _ | refine blk_drew ?_ | refine blk_alloc ?_ _)); exact BK209.out⟩, ⟨by repeat (first | (with_reducible first | exact HB.out | apply below_alloc | apply pw_below_drewN | apply below_drew1 | refine below_set ?_ GE208.out | refine below_set ?_ GE209.out) | exact HB.out)⟩⟩
     case rest =>
      clear HC22
      try clear c1
      try clear c2
      try clear p2
      try clear c5
      try clear p6
      try clear c9
      try clear c10
      try clear c10b0
      try clear c10b1
      try clear c12
      try clear c15
      try clear c19
      try clear c23
      try clear c29
      try clear c29b0
      try clear c29b1
      try clear hcz16_0
      try clear hcz16_1
      try clear hcz16_2
      try clear hcz24_0
      try clear hcz24_1
      try clear hcz25_0
      try clear hcz25_1
      try clear hcz25_2
      try clear hfz16_0
      try clear hfz16_1
      try clear hfz16_2
      try clear hfz24_0
      try clear hfz24_1
      try clear hfz25_0
      try clear hfz25_1
      try clear hfz25_2
      try clear p2
      obtain ⟨kq, x61_21, rfl, HA, HJ21, HO_9, HO_12, BK208, BK209, HB⟩ := hcut
      cases kq with
      | zero => exact absurd HA.out (by simp [tegulalaw32_ExtentMaps.j1])
      | succ kj21 =>
       have H := HA.out
       clear HA
       simp only [tegulalaw32_ExtentMaps.j1] at H
       by_cases c30 : x61_21 = true
       ·
        subst c30
        have H1 : (some false) = some r := by rw [if_pos rfl] at H; exact H
        clear H
        have H := H1
        clear H1
        obtain rfl := Option.some.inj H
        go_wp2
        repeat (go_quiet (fail); try go_wp2)
        go_ret
        exact ⟨by first | rfl | (simp [errW_none, errW_some] <;> rfl) | (simp [*, errW_none, errW_some] <;> rfl), by repeat (first | (with_reducible first | exact HB.out | apply below_alloc | apply pw_below_drewN | apply below_drew1 | refine below_set ?_ GE208.out | refine below_set ?_ GE209.out) | exact HB.out)⟩
       ·
        replace c30 := Bool.eq_false_iff.mpr c30
        subst c30
        have H1 : (tegulalaw32_ExtentMaps.l0 kj21 l0 (wrap64 (a2_0)) (wrap64 (a2_1)) t213 t220 0 a1_0 a1_1 a1_2) = some r := by rw [if_neg (show ¬ (false = true) by decide)] at H; exact H
        clear H
        have H := H1
        clear H1
        have H' := Aside0.mk H
        clear H
        go_wp2
        repeat (go_quiet (fail); try go_wp2)
        go_loopg [15] kj21 (fun kq v15 w' => ∃ (x15_3 : Int), v15 = .int .i64 x15_3 ∧ Aside0 (tegulalaw32_ExtentMaps.l0 kq l0 (wrap64 (a2_0)) (wrap64 (a2_1)) t213 t220 x15_3 a1_0 a1_1 a1_2 = some r) ∧ Aside0 (kq ≤ kj21) ∧ Aside0 (Kd.R k33 33 w' w.heap.size (fun k_ => some k_ ≠ (v223 : Value).ownBlock ∧ k_ ≠ gb208) (.slice Ao27 t213.length co27) t213) ∧ Aside0 (Kd.R k33 33 w' w.heap.size (fun k_ => some k_ ≠ ((.slice Ao27 t213.length co27) : Value).ownBlock ∧ k_ ≠ gb208) v223 t220) ∧ Aside0 (w'.heap[gb208]? = some (.cells #[.int .i64 a1_0, .int .i64 a1_1, .int .i64 a1_2] 33 (0, 0))) ∧ Aside0 (w'.heap[gb209]? = some (.cells #[.int .u8 a2_0, .int .u8 a2_1] 44 (0, 0))) ∧ Aside0 (Below w.heap.size w w'))
        case atStart => exact ⟨(0), (by first | rfl | (simp; done) | (simp [*]; done)), H', ⟨Nat.le_refl _⟩, ⟨by (with_reducible repeat (first | apply Kd.R_alloc | apply Kd.R_drewN | apply Kd.R_drew)); exact HO_9.out⟩, ⟨by (with_reducible repeat (first | apply Kd.R_alloc | apply Kd.R_drewN | apply Kd.R_drew)); exact HO_12.out⟩, ⟨by (with_reducible repeat (first | refine blk_drewN ?_ _ | refine blk_drew ?_ | refine blk_alloc ?_ _)); exact BK208.out⟩, ⟨by (with_reducible repeat (first | refine blk_drewN ?_ _ | refine blk_drew ?_ | refine blk_alloc ?_ _)); exact BK209.out⟩, ⟨by repeat (first | (with_reducible first | exact HB.out | apply below_alloc | apply pw_below_drewN | apply below_drew1 | refine below_set ?_ GE208.out | refine below_set ?_ GE209.out) | exact HB.out)⟩⟩
        case round =>
         clear H'
         try clear c1
         try clear c2
         try clear p2
         try clear c3
         try clear c5
         try clear p6
         try clear c9
         try clear c10
         try clear c10b0
         try clear c10b1
         try clear c12
         try clear c15
         try clear c19
         try clear c23
         try clear c29
         try clear c29b0
         try clear c29b1
         try clear c30
         try clear hcz16_0
         try clear hcz16_1
         try clear hcz16_2
         try clear hcz24_0
         try clear hcz24_1
         try clear hcz25_0
         try clear hcz25_1
         try clear hcz25_2
         try clear hfz16_0
         try clear hfz16_1
         try clear hfz16_2
         try clear hfz24_0
         try clear hfz24_1
         try clear hfz25_0
         try clear hfz25_1
         try clear hfz25_2
         try clear p2
         try clear p6
         obtain ⟨x15_3, rfl, HA, HK3, HO_9, HO_12, BK208, BK209, HB⟩ := hrel
         cases gk with
         | zero => exact absurd HA.out (by simp [tegulalaw32_ExtentMaps.l0])
         | succ k3 =>
          have H := HA.out
          clear HA
          simp only [tegulalaw32_ExtentMaps.l0] at H
          by_cases c31 : x15_3 < 60
          ·
           rw [if_pos c31] at H
           have c31b0 : decide (x15_3 < 60) = true := decide_eq_true c31
           clear c31
           replace H := Option.bind_eq_some_iff.mp H
           obtain ⟨⟨t227, t228⟩, A320, H⟩ := H
           replace H : (if x15_3 ≥ a1_0 then (tegulalaw32_ExtentMaps.j3 k3 l0 (wrap64 (a2_0)) (wrap64 (a2_1)) t213 t220 x15_3 t227 t228 (decide (x15_3 < (wrap64 (a1_0 + a1_1)))) a1_0 a1_1 a1_2) else (tegulalaw32_ExtentMaps.j3 k3 l0 (wrap64 (a2_0)) (wrap64 (a2_1)) t213 t220 x15_3 t227 t228 false a1_0 a1_1 a1_2)) = some r := H
           have A32 := Aside0.mk A320
           clear A320
           have HC33 := Aside0.mk H
           clear H
           go_upto_region 14 with (first | (go_at_call 23; (with_reducible refine (tegularef32_Find.calls k3 _ _ l0 x15_3 t227 t228 _ ?side1 ?side2 A32.out).mono ?_); (case side1 => repeat (first | exact (Kd.C_below HR0.out HB.out) | (with_reducible refine Kd.C_alloc ?_ _) | (with_reducible refine Kd.C_drewN ?_ _) | (with_reducible refine Kd.C_drew ?_))); (case side2 => exact HC0.out); rintro e w34 ⟨rfl, hb⟩; have n0_ := Aside0.mk (Kd.R_below (by (with_reducible repeat (first | apply Kd.R_alloc | apply Kd.R_drewN | apply Kd.R_drew)); exact HO_9.out) hb); have n1_ := Aside0.mk (Kd.R_below (by (with_reducible repeat (first | apply Kd.R_alloc | apply Kd.R_drewN | apply Kd.R_drew)); exact HO_12.out) hb); have n2_ := Aside0.mk (blk_below (g := gb208) (o := .cells #[.int .i64 a1_0, .int .i64 a1_1, .int .i64 a1_2] 33 (0, 0)) (by (with_reducible repeat (first | refine blk_drewN ?_ _ | refine blk_drew ?_ | refine blk_alloc ?_ _)); exact BK208.out) hb); have n3_ := Aside0.mk (blk_below (g := gb209) (o := .cells #[.int .u8 a2_0, .int .u8 a2_1] 44 (0, 0)) (by (with_reducible repeat (first | refine blk_drewN ?_ _ | refine blk_drew ?_ | refine blk_alloc ?_ _)); exact BK209.out) hb); have n4_ := Aside0.mk (below_step (by repeat (first | (with_reducible first | exact HB.out | apply below_alloc | apply pw_below_drewN | apply below_drew1 | refine below_set ?_ GE208.out | refine below_set ?_ GE209.out) | exact HB.out)) hb); clear HO_9; clear HO_12; clear BK208; clear BK209; clear HB; have HO_9 := n0_; have HO_12 := n1_; have BK208 := n2_; have BK209 := n3_; have HB := n4_; clear n0_ n1_ n2_ n3_ n4_; (try clear hb); (try clear hb2); (try clear hk); (try clear hi)))
           repeat (go_quiet (first | (go_at_call 23; (with_reducible refine (tegularef32_Find.calls k3 _ _ l0 x15_3 t227 t228 _ ?side1 ?side2 A32.out).mono ?_); (case side1 => repeat (first | exact (Kd.C_below HR0.out HB.out) | (with_reducible refine Kd.C_alloc ?_ _) | (with_reducible refine Kd.C_drewN ?_ _) | (with_reducible refine Kd.C_drew ?_))); (case side2 => exact HC0.out); rintro e w34 ⟨rfl, hb⟩; have n0_ := Aside0.mk (Kd.R_below (by (with_reducible repeat (first | apply Kd.R_alloc | apply Kd.R_drewN | apply Kd.R_drew)); exact HO_9.out) hb); have n1_ := Aside0.mk (Kd.R_below (by (with_reducible repeat (first | apply Kd.R_alloc | apply Kd.R_drewN | apply Kd.R_drew)); exact HO_12.out) hb); have n2_ := Aside0.mk (blk_below (g := gb208) (o := .cells #[.int .i64 a1_0, .int .i64 a1_1, .int .i64 a1_2] 33 (0, 0)) (by (with_reducible repeat (first | refine blk_drewN ?_ _ | refine blk_drew ?_ | refine blk_alloc ?_ _)); exact BK208.out) hb); have n3_ := Aside0.mk (blk_below (g := gb209) (o := .cells #[.int .u8 a2_0, .int .u8 a2_1] 44 (0, 0)) (by (with_reducible repeat (first | refine blk_drewN ?_ _ | refine blk_drew ?_ | refine blk_alloc ?_ _)); exact BK209.out) hb); have n4_ := Aside0.mk (below_step (by repeat (first | (with_reducible first | exact HB.out | apply below_alloc | apply pw_below_drewN | apply below_drew1 | refine below_set ?_ GE208.out | refine below_set ?_ GE209.out) | exact HB.out)) hb); clear HO_9; clear HO_12; clear BK208; clear BK209; clear HB; have HO_9 := n0_; have HO_12 := n1_; have BK208 := n2_; have BK209 := n3_; have HB := n4_; clear n0_ n1_ n2_ n3_ n4_; (try clear hb); (try clear hb2); (try clear hk); (try clear hi))); go_upto_region 14 with (first | (go_at_call 23; (with_reducible refine (tegularef32_Find.calls k3 _ _ l0 x15_3 t227 t228 _ ?side1 ?side2 A32.out).mono ?_); (case side1 => repeat (first | exact (Kd.C_below HR0.out HB.out) | (with_reducible refine Kd.C_alloc ?_ _) | (with_reducible refine Kd.C_drewN ?_ _) | (with_reducible refine Kd.C_drew ?_))); (case side2 => exact HC0.out); rintro e w34 ⟨rfl, hb⟩; have n0_ := Aside0.mk (Kd.R_below (by (with_reducible repeat (first | apply Kd.R_alloc | apply Kd.R_drewN | apply Kd.R_drew)); exact HO_9.out) hb); have n1_ := Aside0.mk (Kd.R_below (by (with_reducible repeat (first | apply Kd.R_alloc | apply Kd.R_drewN | apply Kd.R_drew)); exact HO_12.out) hb); have n2_ := Aside0.mk (blk_below (g := gb208) (o := .cells #[.int .i64 a1_0, .int .i64 a1_1, .int .i64 a1_2] 33 (0, 0)) (by (with_reducible repeat (first | refine blk_drewN ?_ _ | refine blk_drew ?_ | refine blk_alloc ?_ _)); exact BK208.out) hb); have n3_ := Aside0.mk (blk_below (g := gb209) (o := .cells #[.int .u8 a2_0, .int .u8 a2_1] 44 (0, 0)) (by (with_reducible repeat (first | refine blk_drewN ?_ _ | refine blk_drew ?_ | refine blk_alloc ?_ _)); exact BK209.out) hb); have n4_ := Aside0.mk (below_step (by repeat (first | (with_reducible first | exact HB.out | apply below_alloc | apply pw_below_drewN | apply below_drew1 | refine below_set ?_ GE208.out | refine below_set ?_ GE209.out) | exact HB.out)) hb); clear HO_9; clear HO_12; clear BK208; clear BK209; clear HB; have HO_9 := n0_; have HO_12 := n1_; have BK208 := n2_; have BK209 := n3_; have HB := n4_; clear n0_ n1_ n2_ n3_ n4_; (try clear hb); (try clear hb2); (try clear hk); (try clear hi))))
           (try simp only [Act.put, List.setIfInBounds_toArray, List.set_cons_zero, List.set_cons_succ])
           go_cut [84] (fun v84 wc => ∃ (kq : Nat) (x84_32 : Bool), v84 = .bool x84_32 ∧ Aside0 (tegulalaw32_ExtentMaps.j3 kq l0 (wrap64 (a2_0)) (wrap64 (a2_1)) t213 t220 x15_3 t227 t228 x84_32 a1_0 a1_1 a1_2 = some r) ∧ Aside0 (kq ≤ k3) ∧ Aside0 (Kd.R k33 33 wc w.heap.size (fun k_ => some k_ ≠ (v223 : Value).ownBlock ∧ k_ ≠ gb208) (.slice Ao27 t213.length co27) t213) ∧ Aside0 (Kd.R k33 33 wc w.heap.size (fun k_ => some k_ ≠ ((.slice Ao27 t213.length co27) : Value).ownBlock ∧ k_ ≠ gb208) v223 t220) ∧ Aside0 (wc.heap[gb208]? = some (.cells #[.int .i64 a1_0, .int .i64 a1_1, .int .i64 a1_2] 33 (0, 0))) ∧ Aside0 (wc.heap[gb209]? = some (.cells #[.int .u8 a2_0, .int .u8 a2_1] 44 (0, 0))) ∧ Aside0 (Below w.heap.size w wc))
           case first =>
            have H := HC33.out
            clear HC33
            by_cases c35 : x15_3 ≥ a1_0
            ·
             rw [if_pos c35] at H
             have c35b0 : decide (a1_0 ≤ x15_3) = true := decide_eq_true c35
             clear c35
             (first | rw [c35b0] | (simp only [i64_w, i32_w]; rw [c35b0]) | skip)
             have H' := Aside0.mk H
             clear H
             have hnb36 := NB208_209.out
             have hnc36 := NB209_208.out
             have hcz37_0 : w34.cell? ⟨gb208, 0, none⟩ = some (.int .i64 a1_0) := (blk_cell BK208.out 0).trans rfl
             have hcz37_1 : w34.cell? ⟨gb208, 1, none⟩ = some (.int .i64 a1_1) := (blk_cell BK208.out 1).trans rfl
             have hcz37_2 : w34.cell? ⟨gb208, 2, none⟩ = some (.int .i64 a1_2) := (blk_cell BK208.out 2).trans rfl
             have hfz37_0 := blk_frozen BK208.out 0
             have hfz37_1 := blk_frozen BK208.out 1
             have hfz37_2 := blk_frozen BK208.out 2
             go_wp2
             repeat (go_quiet (fail); try go_wp2)
             go_meet
             case rel => exact ⟨_, (decide (x15_3 < (wrap64 (a1_0 + a1_1)))), (by first | rfl | (simp; done) | (simp [*]; done)), H', ⟨by have := HJ5.out; have := HJ21.out; have := HK3.out; first | omega | exact Nat.le_refl _⟩, ⟨by (with_reducible repeat (first | apply Kd.R_alloc | apply Kd.R_drewN | apply Kd.R_drew)); exact HO_9.out⟩, ⟨by (with_reducible repeat (first | apply Kd.R_alloc | apply Kd.R_drewN | apply Kd.R_drew)); exact HO_12.out⟩, ⟨by (with_reducible repeat (first | refine blk_drewN ?_ _ | refine blk_drew ?_ | refine blk_alloc ?_ _)); exact BK208.out⟩, ⟨by (with_reducible repeat (first | refine blk_drewN ?_ _ | refine blk_drew ?_ | refine blk_alloc ?_ _)); exact BK209.out⟩, ⟨by repeat (first | (with_reducible first | exact HB.out | apply below_alloc | apply pw_below_drewN | apply below_drew1 | refine below_set ?_ GE208.out | refine below_set ?_ GE209.out) | exact HB.out)⟩⟩
            ·
             rw [if_neg c35] at H
             have c35b0 : decide (a1_0 ≤ x15_3) = false := decide_eq_false c35
             clear c35
             (first | rw [c35b0] | (simp only [i64_w, i32_w]; rw [c35b0]) | skip)
             have H' := Aside0.mk H
             clear H
             have hnb38 := NB208_209.out
             have hnc38 := NB209_208.out
             have hcz39_0 : w34.cell? ⟨gb208, 0, none⟩ = some (.int .i64 a1_0) := (blk_cell BK208.out 0).trans rfl
             have hcz39_1 : w34.cell? ⟨gb208, 1, none⟩ = some (.int .i64 a1_1) := (blk_cell BK208.out 1).trans rfl
             have hcz39_2 : w34.cell? ⟨gb208, 2, none⟩ = some (.int .i64 a1_2) := (blk_cell BK208.out 2).trans rfl
             have hfz39_0 := blk_frozen BK208.out 0
             have hfz39_1 := blk_frozen BK208.out 1
             have hfz39_2 := blk_frozen BK208.out 2
             go_wp2
             repeat (go_quiet (fail); try go_wp2)
             go_meet
             case rel => exact ⟨_, (false), (by first | rfl | (simp; done) | (simp [*]; done)), H', ⟨by have := HJ5.out; have := HJ21.out; have := HK3.out; first | omega | exact Nat.le_refl _⟩, ⟨by (with_reducible repeat (first | apply Kd.R_alloc | apply Kd.R_drewN | apply Kd.R_drew)); exact HO_9.out⟩, ⟨by (with_reducible repeat (first | apply Kd.R_alloc | apply Kd.R_drewN | apply Kd.R_drew)); exact HO_12.out⟩, ⟨by (with_reducible repeat (first | refine blk_drewN ?_ _ | refine blk_drew ?_ | refine blk_alloc ?_ _)); exact BK208.out⟩, ⟨by (with_reducible repeat (first | refine blk_drewN ?_ _ | refine blk_drew ?_ | refine blk_alloc ?_ _)); exact BK209.out⟩, ⟨by repeat (first | (with_reducible first | exact HB.out | apply below_alloc | apply pw_below_drewN | apply below_drew1 | refine below_set ?_ GE208.out | refine below_set ?_ GE209.out) | exact HB.out)⟩⟩
           case rest =>
            clear HC33
            try clear c1
            try clear c2
            try clear p2
            try clear c3
            try clear c5
            try clear p6
            try clear c9
            try clear c10
            try clear c10b0
            try clear c10b1
            try clear c12
            try clear c15
            try clear c19
            try clear c23
            try clear c29
            try clear c29b0
            try clear c29b1
            try clear c30
            try clear c31
            try clear c31b0
            try clear c35
            try clear c35b0
            try clear c36
            try clear c38
            try clear hcz16_0
            try clear hcz16_1
            try clear hcz16_2
            try clear hcz24_0
            try clear hcz24_1
            try clear hcz25_0
            try clear hcz25_1
            try clear hcz25_2
            try clear hcz37_0
            try clear hcz37_1
            try clear hcz37_2
            try clear hcz39_0
            try clear hcz39_1
            try clear hcz39_2
            try clear hfz16_0
            try clear hfz16_1
            try clear hfz16_2
            try clear hfz24_0
            try clear hfz24_1
            try clear hfz25_0
            try clear hfz25_1
            try clear hfz25_2
            try clear hfz37_0
            try clear hfz37_1
            try clear hfz37_2
            try clear hfz39_0
            try clear hfz39_1
            try clear hfz39_2
            try clear p2
            try clear p6
            obtain ⟨kq, x84_32, rfl, HA, HJ32, HO_9, HO_12, BK208, BK209, HB⟩ := hcut
            cases kq with
            | zero => exact absurd HA.out (by simp [tegulalaw32_ExtentMaps.j3])
            | succ kj32 =>
             have H := HA.out
             clear HA
             simp only [tegulalaw32_ExtentMaps.j3] at H
             have HC40 := Aside0.mk H
             clear H
             go_upto_if 84 with (fail)
             repeat (go_quiet (fail); go_upto_if 84 with (fail))
             go_cut [16, 17] (fun v16 v17 wc => ∃ (kq : Nat) (x16_39 : Int) (x17_39 : Bool), v16 = .int .i64 x16_39 ∧ v17 = .bool x17_39 ∧ Aside0 (tegulalaw32_ExtentMaps.j4 kq l0 (wrap64 (a2_0)) (wrap64 (a2_1)) t213 t220 x15_3 x16_39 x17_39 a1_0 a1_1 a1_2 = some r) ∧ Aside0 (kq ≤ kj32) ∧ Aside0 (Kd.R k33 33 wc w.heap.size (fun k_ => some k_ ≠ (v223 : Value).ownBlock ∧ k_ ≠ gb208) (.slice Ao27 t213.length co27) t213) ∧ Aside0 (Kd.R k33 33 wc w.heap.size (fun k_ => some k_ ≠ ((.slice Ao27 t213.length co27) : Value).ownBlock ∧ k_ ≠ gb208) v223 t220) ∧ Aside0 (wc.heap[gb208]? = some (.cells #[.int .i64 a1_0, .int .i64 a1_1, .int .i64 a1_2] 33 (0, 0))) ∧ Aside0 (wc.heap[gb209]? = some (.cells #[.int .u8 a2_0, .int .u8 a2_1] 44 (0, 0))) ∧ Aside0 (Below w.heap.size w wc))
             case first =>
              have H := HC40.out
              clear HC40
              by_cases c41 : x84_32 = true
              ·
               subst c41
               have H1 : (tegulalaw32_ExtentMaps.j4 kj32 l0 (wrap64 (a2_0)) (wrap64 (a2_1)) t213 t220 x15_3 (wrap64 ((wrap64 (a1_2 + x15_3)) - a1_0)) true a1_0 a1_1 a1_2) = some r := by rw [if_pos rfl] at H; exact H
               clear H
               have H := H1
               clear H1
               have H' := Aside0.mk H
               clear H
               have hnb42 := NB208_209.out
               have hnc42 := NB209_208.out
               have hcz43_0 : wc.cell? ⟨gb208, 0, none⟩ = some (.int .i64 a1_0) := (blk_cell BK208.out 0).trans rfl
               have hcz43_1 : wc.cell? ⟨gb208, 1, none⟩ = some (.int .i64 a1_1) := (blk_cell BK208.out 1).trans rfl
               have hcz43_2 : wc.cell? ⟨gb208, 2, none⟩ = some (.int .i64 a1_2) := (blk_cell BK208.out 2).trans rfl
               have hfz43_0 := blk_frozen BK208.out 0
               have hfz43_1 := blk_frozen BK208.out 1
               have hfz43_2 := blk_frozen BK208.out 2
               go_wp2
               repeat (go_quiet (fail); try go_wp2)
               go_meet
               case rel => exact ⟨_, (wrap64 ((wrap64 (a1_2 + x15_3)) - a1_0)), (true), (by first | rfl | (simp; done) | (simp [*]; done)), (by first | rfl | (simp; done) | (simp [*]; done)), H', ⟨by have := HJ5.out; have := HJ21.out; have := HK3.out; have := HJ32.out; first | omega | exact Nat.le_refl _⟩, ⟨by (with_reducible repeat (first | apply Kd.R_alloc | apply Kd.R_drewN | apply Kd.R_drew)); exact HO_9.out⟩, ⟨by (with_reducible repeat (first | apply Kd.R_alloc | apply Kd.R_drewN | apply Kd.R_drew)); exact HO_12.out⟩, ⟨by (with_reducible repeat (first | refine blk_drewN ?_ _ | refine blk_drew ?_ | refine blk_alloc ?_ _)); exact BK208.out⟩, ⟨by (with_reducible repeat (first | refine blk_drewN ?_ _ | refine blk_drew ?_ | refine blk_alloc ?_ _)); exact BK209.out⟩, ⟨by repeat (first | (with_reducible first | exact HB.out | apply below_alloc | apply pw_below_drewN | apply below_drew1 | refine below_set ?_ GE208.out | refine below_set ?_ GE209.out) | exact HB.out)⟩⟩
              ·
               replace c41 := Bool.eq_false_iff.mpr c41
               subst c41
               have H1 : (tegulalaw32_ExtentMaps.j4 kj32 l0 (wrap64 (a2_0)) (wrap64 (a2_1)) t213 t220 x15_3 t227 t228 a1_0 a1_1 a1_2) = some r := by rw [if_neg (show ¬ (false = true) by decide)] at H; exact H
               clear H
               have H := H1
               clear H1
               have H' := Aside0.mk H
               clear H
               go_wp2
               repeat (go_quiet (fail); try go_wp2)
               go_meet
               case rel => exact ⟨_, (t227), (t228), (by first | rfl | (simp; done) | (simp [*]; done)), (by first | rfl | (simp; done) | (simp [*]; done)), H', ⟨by have := HJ5.out; have := HJ21.out; have := HK3.out; have := HJ32.out; first | omega | exact Nat.le_refl _⟩, ⟨by (with_reducible repeat (first | apply Kd.R_alloc | apply Kd.R_drewN | apply Kd.R_drew)); exact HO_9.out⟩, ⟨by (with_reducible repeat (first | apply Kd.R_alloc | apply Kd.R_drewN | apply Kd.R_drew)); exact HO_12.out⟩, ⟨by (with_reducible repeat (first | refine blk_drewN ?_ _ | refine blk_drew ?_ | refine blk_alloc ?_ _)); exact BK208.out⟩, ⟨by (with_reducible repeat (first | refine blk_drewN ?_ _ | refine blk_drew ?_ | refine blk_alloc ?_ _)); exact BK209.out⟩, ⟨by repeat (first | (with_reducible first | exact HB.out | apply below_alloc | apply pw_below_drewN | apply below_drew1 | refine below_set ?_ GE208.out | refine below_set ?_ GE209.out) | exact HB.out)⟩⟩
             case rest =>
              clear HC40
              try clear c1
              try clear c2
              try clear p2
              try clear c3
              try clear c4
              try clear c5
              try clear p6
              try clear c9
              try clear c10
              try clear c10b0
              try clear c10b1
              try clear c12
              try clear c15
              try clear c19
              try clear c23
              try clear c29
              try clear c29b0
              try clear c29b1
              try clear c30
              try clear c31
              try clear c31b0
              try clear c35
              try clear c35b0
              try clear c36
              try clear c38
              try clear c41
              try clear c42
              try clear hcz16_0
              try clear hcz16_1
              try clear hcz16_2
              try clear hcz24_0
              try clear hcz24_1
              try clear hcz25_0
              try clear hcz25_1
              try clear hcz25_2
              try clear hcz37_0
              try clear hcz37_1
              try clear hcz37_2
              try clear hcz39_0
              try clear hcz39_1
              try clear hcz39_2
              try clear hcz43_0
              try clear hcz43_1
              try clear hcz43_2
              try clear hfz16_0
              try clear hfz16_1
              try clear hfz16_2
              try clear hfz24_0
              try clear hfz24_1
              try clear hfz25_0
              try clear hfz25_1
              try clear hfz25_2
              try clear hfz37_0
              try clear hfz37_1
              try clear hfz37_2
              try clear hfz39_0
              try clear hfz39_1
              try clear hfz39_2
              try clear hfz43_0
              try clear hfz43_1
              try clear hfz43_2
              try clear p2
              try clear p6
              obtain ⟨kq, x16_39, x17_39, rfl, rfl, HA, HJ39, HO_9, HO_12, BK208, BK209, HB⟩ := hcut
              cases kq with
              | zero => exact absurd HA.out (by simp [tegulalaw32_ExtentMaps.j4])
              | succ kj39 =>
               have H := HA.out
               clear HA
               simp only [tegulalaw32_ExtentMaps.j4] at H
               replace H := Option.bind_eq_some_iff.mp H
               obtain ⟨⟨t229, t230⟩, A440, H⟩ := H
               replace H : (if t229 = x16_39 then (tegulalaw32_ExtentMaps.j5 kj39 l0 (wrap64 (a2_0)) (wrap64 (a2_1)) t213 t220 x15_3 x16_39 x17_39 (t230 != x17_39) a1_0 a1_1 a1_2) else (tegulalaw32_ExtentMaps.j5 kj39 l0 (wrap64 (a2_0)) (wrap64 (a2_1)) t213 t220 x15_3 x16_39 x17_39 true a1_0 a1_1 a1_2)) = some r := H
               have A44 := Aside0.mk A440
               clear A440
               have HC45 := Aside0.mk H
               clear H
               go_upto_region 17 with (first | (go_at_call 22; (with_reducible refine (extent_Find.calls kj39 _ _ t213 x15_3 t229 t230 _ ?side1 ?side2 A44.out).mono ?_); (case side1 => repeat (first | exact (Kd.R_reads' HO_9.out).2.2 | (with_reducible refine Kd.C_alloc ?_ _) | (with_reducible refine Kd.C_drewN ?_ _) | (with_reducible refine Kd.C_drew ?_))); (case side2 => exact (Kd.R_reads' HO_9.out).2.1); rintro e w46 ⟨rfl, hb⟩; have n0_ := Aside0.mk (Kd.R_below (by (with_reducible repeat (first | apply Kd.R_alloc | apply Kd.R_drewN | apply Kd.R_drew)); exact HO_9.out) hb); have n1_ := Aside0.mk (Kd.R_below (by (with_reducible repeat (first | apply Kd.R_alloc | apply Kd.R_drewN | apply Kd.R_drew)); exact HO_12.out) hb); have n2_ := Aside0.mk (blk_below (g := gb208) (o := .cells #[.int .i64 a1_0, .int .i64 a1_1, .int .i64 a1_2] 33 (0, 0)) (by (with_reducible repeat (first | refine blk_drewN ?_ _ | refine blk_drew ?_ | refine blk_alloc ?_ _)); exact BK208.out) hb); have n3_ := Aside0.mk (blk_below (g := gb209) (o := .cells #[.int .u8 a2_0, .int .u8 a2_1] 44 (0, 0)) (by (with_reducible repeat (first | refine blk_drewN ?_ _ | refine blk_drew ?_ | refine blk_alloc ?_ _)); exact BK209.out) hb); have n4_ := Aside0.mk (below_step (by repeat (first | (with_reducible first | exact HB.out | apply below_alloc | apply pw_below_drewN | apply below_drew1 | refine below_set ?_ GE208.out | refine below_set ?_ GE209.out) | exact HB.out)) hb); clear HO_9; clear HO_12; clear BK208; clear BK209; clear HB; have HO_9 := n0_; have HO_12 := n1_; have BK208 := n2_; have BK209 := n3_; have HB := n4_; clear n0_ n1_ n2_ n3_ n4_; (try clear hb); (try clear hb2); (try clear hk); (try clear hi)))
               repeat (go_quiet (first | (go_at_call 22; (with_reducible refine (extent_Find.calls kj39 _ _ t213 x15_3 t229 t230 _ ?side1 ?side2 A44.out).mono ?_); (case side1 => repeat (first | exact (Kd.R_reads' HO_9.out).2.2 | (with_reducible refine Kd.C_alloc ?_ _) | (with_reducible refine Kd.C_drewN ?_ _) | (with_reducible refine Kd.C_drew ?_))); (case side2 => exact (Kd.R_reads' HO_9.out).2.1); rintro e w46 ⟨rfl, hb⟩; have n0_ := Aside0.mk (Kd.R_below (by (with_reducible repeat (first | apply Kd.R_alloc | apply Kd.R_drewN | apply Kd.R_drew)); exact HO_9.out) hb); have n1_ := Aside0.mk (Kd.R_below (by (with_reducible repeat (first | apply Kd.R_alloc | apply Kd.R_drewN | apply Kd.R_drew)); exact HO_12.out) hb); have n2_ := Aside0.mk (blk_below (g := gb208) (o := .cells #[.int .i64 a1_0, .int .i64 a1_1, .int .i64 a1_2] 33 (0, 0)) (by (with_reducible repeat (first | refine blk_drewN ?_ _ | refine blk_drew ?_ | refine blk_alloc ?_ _)); exact BK208.out) hb); have n3_ := Aside0.mk (blk_below (g := gb209) (o := .cells #[.int .u8 a2_0, .int .u8 a2_1] 44 (0, 0)) (by (with_reducible repeat (first | refine blk_drewN ?_ _ | refine blk_drew ?_ | refine blk_alloc ?_ _)); exact BK209.out) hb); have n4_ := Aside0.mk (below_step (by repeat (first | (with_reducible first | exact HB.out | apply below_alloc | apply pw_below_drewN | apply below_drew1 | refine below_set ?_ GE208.out | refine below_set ?_ GE209.out) | exact HB.out)) hb); clear HO_9; clear HO_12; clear BK208; clear BK209; clear HB; have HO_9 := n0_; have HO_12 := n1_; have BK208 := n2_; have BK209 := n3_; have HB := n4_; clear n0_ n1_ n2_ n3_ n4_; (try clear hb); (try clear hb2); (try clear hk); (try clear hi))); go_upto_region 17 with (first | (go_at_call 22; (with_reducible refine (extent_Find.calls kj39 _ _ t213 x15_3 t229 t230 _ ?side1 ?side2 A44.out).mono ?_); (case side1 => repeat (first | exact (Kd.R_reads' HO_9.out).2.2 | (with_reducible refine Kd.C_alloc ?_ _) | (with_reducible refine Kd.C_drewN ?_ _) | (with_reducible refine Kd.C_drew ?_))); (case side2 => exact (Kd.R_reads' HO_9.out).2.1); rintro e w46 ⟨rfl, hb⟩; have n0_ := Aside0.mk (Kd.R_below (by (with_reducible repeat (first | apply Kd.R_alloc | apply Kd.R_drewN | apply Kd.R_drew)); exact HO_9.out) hb); have n1_ := Aside0.mk (Kd.R_below (by (with_reducible repeat (first | apply Kd.R_alloc | apply Kd.R_drewN | apply Kd.R_drew)); exact HO_12.out) hb); have n2_ := Aside0.mk (blk_below (g := gb208) (o := .cells #[.int .i64 a1_0, .int .i64 a1_1, .int .i64 a1_2] 33 (0, 0)) (by (with_reducible repeat (first | refine blk_drewN ?_ _ | refine blk_drew ?_ | refine blk_alloc ?_ _)); exact BK208.out) hb); have n3_ := Aside0.mk (blk_below (g := gb209) (o := .cells #[.int .u8 a2_0, .int .u8 a2_1] 44 (0, 0)) (by (with_reducible repeat (first | refine blk_drewN ?_ _ | refine blk_drew ?_ | refine blk_alloc ?_ _)); exact BK209.out) hb); have n4_ := Aside0.mk (below_step (by repeat (first | (with_reducible first | exact HB.out | apply below_alloc | apply pw_below_drewN | apply below_drew1 | refine below_set ?_ GE208.out | refine below_set ?_ GE209.out) | exact HB.out)) hb); clear HO_9; clear HO_12; clear BK208; clear BK209; clear HB; have HO_9 := n0_; have HO_12 := n1_; have BK208 := n2_; have BK209 := n3_; have HB := n4_; clear n0_ n1_ n2_ n3_ n4_; (try clear hb); (try clear hb2); (try clear hk); (try clear hi))))
               (try simp only [Act.put, List.setIfInBounds_toArray, List.set_cons_zero, List.set_cons_succ])
               go_cut [105] (fun v105 wc => ∃ (kq : Nat) (x105_44 : Bool), v105 = .bool x105_44 ∧ Aside0 (tegulalaw32_ExtentMaps.j5 kq l0 (wrap64 (a2_0)) (wrap64 (a2_1)) t213 t220 x15_3 x16_39 x17_39 x105_44 a1_0 a1_1 a1_2 = some r) ∧ Aside0 (kq ≤ kj39) ∧ Aside0 (Kd.R k33 33 wc w.heap.size (fun k_ => some k_ ≠ (v223 : Value).ownBlock ∧ k_ ≠ gb208) (.slice Ao27 t213.length co27) t213) ∧ Aside0 (Kd.R k33 33 wc w.heap.size (fun k_ => some k_ ≠ ((.slice Ao27 t213.length co27) : Value).ownBlock ∧ k_ ≠ gb208) v223 t220) ∧ Aside0 (wc.heap[gb208]? = some (.cells #[.int .i64 a1_0, .int .i64 a1_1, .int .i64 a1_2] 33 (0, 0))) ∧ Aside0 (wc.heap[gb209]? = some (.cells #[.int .u8 a2_0, .int .u8 a2_1] 44 (0, 0))) ∧ Aside0 (Below w.heap.size w wc))
               case first =>
                have H := HC45.out
                clear HC45
                by_cases c47 : t229 = x16_39
                ·
                 rw [if_pos c47] at H
                 have c47b0 : (t229 == x16_39) = true := beq_iff_eq.mpr c47
                 have c47b1 : (t229 != x16_39) = false := bne_eq_false_iff_eq.mpr c47
                 clear c47
                 (first | rw [c47b0] | (simp only [i64_w, i32_w]; rw [c47b0]) | skip)
                 have H' := Aside0.mk H
                 clear H
                 go_wp2
                 repeat (go_quiet (fail); try go_wp2)
                 go_meet
                 case rel => exact ⟨_, ((t230 != x17_39)), (by first | rfl | (simp; done) | (simp [*]; done)), H', ⟨by have := HJ5.out; have := HJ21.out; have := HK3.out; have := HJ32.out; have := HJ39.out; first | omega | exact Nat.le_refl _⟩, ⟨by (with_reducible repeat (first | apply Kd.R_alloc | apply Kd.R_drewN | apply Kd.R_drew)); exact HO_9.out⟩, ⟨by (with_reducible repeat (first | apply Kd.R_alloc | apply Kd.R_drewN | apply Kd.R_drew)); exact HO_12.out⟩, ⟨by (with_reducible repeat (first | refine blk_drewN ?_ _ | refine blk_drew ?_ | refine blk_alloc ?_ _)); exact BK208.out⟩, ⟨by (with_reducible repeat (first | refine blk_drewN ?_ _ | refine blk_drew ?_ | refine blk_alloc ?_ _)); exact BK209.out⟩, ⟨by repeat (first | (with_reducible first | exact HB.out | apply below_alloc | apply pw_below_drewN | apply below_drew1 | refine below_set ?_ GE208.out | refine below_set ?_ GE209.out) | exact HB.out)⟩⟩
                ·
                 rw [if_neg c47] at H
                 have c47b0 : (t229 == x16_39) = false := beq_eq_false_iff_ne.mpr c47
                 have c47b1 : (t229 != x16_39) = true := bne_iff_ne.mpr c47
                 (first | rw [c47b0] | (simp only [i64_w, i32_w]; rw [c47b0]) | skip)
                 have H' := Aside0.mk H
                 clear H
                 go_wp2
                 repeat (go_quiet (fail); try go_wp2)
                 go_meet
                 case rel => exact ⟨_, (true), (by first | rfl | (simp; done) | (simp [*]; done)), H', ⟨by have := HJ5.out; have := HJ21.out; have := HK3.out; have := HJ32.out; have := HJ39.out; first | omega | exact Nat.le_refl _⟩, ⟨by (with_reducible repeat (first | apply Kd.R_alloc | apply Kd.R_drewN | apply Kd.R_drew)); exact HO_9.out⟩, ⟨by (with_reducible repeat (first | apply Kd.R_alloc | apply Kd.R_drewN | apply Kd.R_drew)); exact HO_12.out⟩, ⟨by (with_reducible repeat (first | refine blk_drewN ?_ _ | refine blk_drew ?_ | refine blk_alloc ?_ _)); exact BK208.out⟩, ⟨by (with_reducible repeat (first | refine blk_drewN ?_ _ | refine blk_drew ?_ | refine blk_alloc ?_ _)); exact BK209.out⟩, ⟨by repeat (first | (with_reducible first | exact HB.out | apply below_alloc | apply pw_below_drewN | apply below_drew1 | refine below_set ?_ GE208.out | refine below_set ?_ GE209.out) | exact HB.out)⟩⟩
               case rest =>
                clear HC45
                try clear c1
                try clear c2
                try clear p2
                try clear c3
                try clear c4
                try clear c5
                try clear p6
                try clear c9
                try clear c10
                try clear c10b0
                try clear c10b1
                try clear c12
                try clear c15
                try clear c19
                try clear c23
                try clear c29
                try clear c29b0
                try clear c29b1
                try clear c30
                try clear c31
                try clear c31b0
                try clear c35
                try clear c35b0
                try clear c36
                try clear c38
                try clear c41
                try clear c42
                try clear c47
                try clear c47b0
                try clear c47b1
                try clear hcz16_0
                try clear hcz16_1
                try clear hcz16_2
                try clear hcz24_0
                try clear hcz24_1
                try clear hcz25_0
                try clear hcz25_1
                try clear hcz25_2
                try clear hcz37_0
                try clear hcz37_1
                try clear hcz37_2
                try clear hcz39_0
                try clear hcz39_1
                try clear hcz39_2
                try clear hcz43_0
                try clear hcz43_1
                try clear hcz43_2
                try clear hfz16_0
                try clear hfz16_1
                try clear hfz16_2
                try clear hfz24_0
                try clear hfz24_1
                try clear hfz25_0
                try clear hfz25_1
                try clear hfz25_2
                try clear hfz37_0
                try clear hfz37_1
                try clear hfz37_2
                try clear hfz39_0
                try clear hfz39_1
                try clear hfz39_2
                try clear hfz43_0
                try clear hfz43_1
                try clear hfz43_2
                try clear p2
                try clear p6
                obtain ⟨kq, x105_44, rfl, HA, HJ44, HO_9, HO_12, BK208, BK209, HB⟩ := hcut
                cases kq with
                | zero => exact absurd HA.out (by simp [tegulalaw32_ExtentMaps.j5])
                | succ kj44 =>
                 have H := HA.out
                 clear HA
                 simp only [tegulalaw32_ExtentMaps.j5] at H
                 by_cases c48 : x105_44 = true
                 ·
                  subst c48
                  have H1 : (some false) = some r := by rw [if_pos rfl] at H; exact H
                  clear H
                  have H := H1
                  clear H1
                  obtain rfl := Option.some.inj H
                  go_wp2
                  repeat (go_quiet (fail); try go_wp2)
                  go_ret
                  exact ⟨by first | rfl | (simp [errW_none, errW_some] <;> rfl) | (simp [*, errW_none, errW_some] <;> rfl), by repeat (first | (with_reducible first | exact HB.out | apply below_alloc | apply pw_below_drewN | apply below_drew1 | refine below_set ?_ GE208.out | refine below_set ?_ GE209.out) | exact HB.out)⟩
                 ·
                  replace c48 := Bool.eq_false_iff.mpr c48
                  subst c48
                  have H1 : (if x15_3 ≥ (wrap64 (a2_0)) then (tegulalaw32_ExtentMaps.j6 kj44 l0 (wrap64 (a2_0)) (wrap64 (a2_1)) t213 t220 x15_3 x16_39 x17_39 (decide (x15_3 < (wrap64 ((wrap64 (a2_0)) + (wrap64 (a2_1)))))) a1_0 a1_1 a1_2) else (tegulalaw32_ExtentMaps.j6 kj44 l0 (wrap64 (a2_0)) (wrap64 (a2_1)) t213 t220 x15_3 x16_39 x17_39 false a1_0 a1_1 a1_2)) = some r := by rw [if_neg (show ¬ (false = true) by decide)] at H; exact H
                  clear H
                  have H := H1
                  clear H1
                  have HC49 := Aside0.mk H
                  clear H
                  go_upto_region 19 with (fail)
                  repeat (go_quiet (fail); go_upto_region 19 with (fail))
                  go_cut [115] (fun v115 wc => ∃ (kq : Nat) (x115_48 : Bool), v115 = .bool x115_48 ∧ Aside0 (tegulalaw32_ExtentMaps.j6 kq l0 (wrap64 (a2_0)) (wrap64 (a2_1)) t213 t220 x15_3 x16_39 x17_39 x115_48 a1_0 a1_1 a1_2 = some r) ∧ Aside0 (kq ≤ kj44) ∧ Aside0 (Kd.R k33 33 wc w.heap.size (fun k_ => some k_ ≠ (v223 : Value).ownBlock ∧ k_ ≠ gb208) (.slice Ao27 t213.length co27) t213) ∧ Aside0 (Kd.R k33 33 wc w.heap.size (fun k_ => some k_ ≠ ((.slice Ao27 t213.length co27) : Value).ownBlock ∧ k_ ≠ gb208) v223 t220) ∧ Aside0 (wc.heap[gb208]? = some (.cells #[.int .i64 a1_0, .int .i64 a1_1, .int .i64 a1_2] 33 (0, 0))) ∧ Aside0 (wc.heap[gb209]? = some (.cells #[.int .u8 a2_0, .int .u8 a2_1] 44 (0, 0))) ∧ Aside0 (Below w.heap.size w wc))
                  case first =>
                   have H := HC49.out
                   clear HC49
                   by_cases c50 : x15_3 ≥ (wrap64 (a2_0))
                   ·
                    rw [if_pos c50] at H
                    have c50b0 : decide ((wrap64 (a2_0)) ≤ x15_3) = true := decide_eq_true c50
                    clear c50
                    (first | rw [c50b0] | (simp only [i64_w, i32_w]; rw [c50b0]) | skip)
                    have H' := Aside0.mk H
                    clear H
                    go_wp2
                    repeat (go_quiet (fail); try go_wp2)
                    go_meet
                    case rel => exact ⟨_, (decide (x15_3 < (wrap64 ((wrap64 (a2_0)) + (wrap64 (a2_1)))))), (by first | rfl | (simp; done) | (simp [*]; done)), H', ⟨by have := HJ5.out; have := HJ21.out; have := HK3.out; have := HJ32.out; have := HJ39.out; have := HJ44.out; first | omega | exact Nat.le_refl _⟩, ⟨by (with_reducible repeat (first | apply Kd.R_alloc | apply Kd.R_drewN | apply Kd.R_drew)); exact HO_9.out⟩, ⟨by (with_reducible repeat (first | apply Kd.R_alloc | apply Kd.R_drewN | apply Kd.R_drew)); exact HO_12.out⟩, ⟨by (with_reducible repeat (first | refine blk_drewN ?_ _ | refine blk_drew ?_ | refine blk_alloc ?_ _)); exact BK208.out⟩, ⟨by (with_reducible repeat (first | refine blk_drewN ?_ _ | refine blk_drew ?_ | refine blk_alloc ?_ _)); exact BK209.out⟩, ⟨by repeat (first | (with_reducible first | exact HB.out | apply below_alloc | apply pw_below_drewN | apply below_drew1 | refine below_set ?_ GE208.out | refine below_set ?_ GE209.out) | exact HB.out)⟩⟩
                   ·
                    rw [if_neg c50] at H
                    have c50b0 : decide ((wrap64 (a2_0)) ≤ x15_3) = false := decide_eq_false c50
                    clear c50
                    (first | rw [c50b0] | (simp only [i64_w, i32_w]; rw [c50b0]) | skip)
                    have H' := Aside0.mk H
                    clear H
                    go_wp2
                    repeat (go_quiet (fail); try go_wp2)
                    go_meet
                    case rel => exact ⟨_, (false), (by first | rfl | (simp; done) | (simp [*]; done)), H', ⟨by have := HJ5.out; have := HJ21.out; have := HK3.out; have := HJ32.out; have := HJ39.out; have := HJ44.out; first | omega | exact Nat.le_refl _⟩, ⟨by (with_reducible repeat (first | apply Kd.R_alloc | apply Kd.R_drewN | apply Kd.R_drew)); exact HO_9.out⟩, ⟨by (with_reducible repeat (first | apply Kd.R_alloc | apply Kd.R_drewN | apply Kd.R_drew)); exact HO_12.out⟩, ⟨by (with_reducible repeat (first | refine blk_drewN ?_ _ | refine blk_drew ?_ | refine blk_alloc ?_ _)); exact BK208.out⟩, ⟨by (with_reducible repeat (first | refine blk_drewN ?_ _ | refine blk_drew ?_ | refine blk_alloc ?_ _)); exact BK209.out⟩, ⟨by repeat (first | (with_reducible first | exact HB.out | apply below_alloc | apply pw_below_drewN | apply below_drew1 | refine below_set ?_ GE208.out | refine below_set ?_ GE209.out) | exact HB.out)⟩⟩
                  case rest =>
                   clear HC49
                   try clear c1
                   try clear c2
                   try clear p2
                   try clear c3
                   try clear c4
                   try clear c5
                   try clear p6
                   try clear c9
                   try clear c10
                   try clear c10b0
                   try clear c10b1
                   try clear c12
                   try clear c15
                   try clear c19
                   try clear c23
                   try clear c29
                   try clear c29b0
                   try clear c29b1
                   try clear c30
                   try clear c31
                   try clear c31b0
                   try clear c35
                   try clear c35b0
                   try clear c36
                   try clear c38
                   try clear c41
                   try clear c42
                   try clear c47
                   try clear c47b0
                   try clear c47b1
                   try clear c48
                   try clear c50
                   try clear c50b0
                   try clear hcz16_0
                   try clear hcz16_1
                   try clear hcz16_2
                   try clear hcz24_0
                   try clear hcz24_1
                   try clear hcz25_0
                   try clear hcz25_1
                   try clear hcz25_2
                   try clear hcz37_0
                   try clear hcz37_1
                   try clear hcz37_2
                   try clear hcz39_0
                   try clear hcz39_1
                   try clear hcz39_2
                   try clear hcz43_0
                   try clear hcz43_1
                   try clear hcz43_2
                   try clear hfz16_0
                   try clear hfz16_1
                   try clear hfz16_2
                   try clear hfz24_0
                   try clear hfz24_1
                   try clear hfz25_0
                   try clear hfz25_1
                   try clear hfz25_2
                   try clear hfz37_0
                   try clear hfz37_1
                   try clear hfz37_2
                   try clear hfz39_0
                   try clear hfz39_1
                   try clear hfz39_2
                   try clear hfz43_0
                   try clear hfz43_1
                   try clear hfz43_2
                   try clear p2
                   try clear p6
                   obtain ⟨kq, x115_48, rfl, HA, HJ48, HO_9, HO_12, BK208, BK209, HB⟩ := hcut
                   cases kq with
                   | zero => exact absurd HA.out (by simp [tegulalaw32_ExtentMaps.j6])
                   | succ kj48 =>
                    have H := HA.out
                    clear HA
                    simp only [tegulalaw32_ExtentMaps.j6] at H
                    by_cases c51 : x115_48 = true
                    ·
                     subst c51
                     have H1 : ((extent_Find.f kj48 t220 x15_3).bind fun bt231 => (if bt231.1 = 0 then (if (bt231.2 != false) = true then (some false) else (tegulalaw32_ExtentMaps.l0 kj48 l0 (wrap64 (a2_0)) (wrap64 (a2_1)) t213 t220 (wrap64 (x15_3 + 1)) a1_0 a1_1 a1_2)) else (some false))) = some r := by rw [if_pos rfl] at H; exact H
                     clear H
                     have H := H1
                     clear H1
                     replace H := Option.bind_eq_some_iff.mp H
                     obtain ⟨⟨t231, t232⟩, A520, H⟩ := H
                     replace H : (if t231 = 0 then (if (t232 != false) = true then (some false) else (tegulalaw32_ExtentMaps.l0 kj48 l0 (wrap64 (a2_0)) (wrap64 (a2_1)) t213 t220 (wrap64 (x15_3 + 1)) a1_0 a1_1 a1_2)) else (some false)) = some r := H
                     have A52 := Aside0.mk A520
                     clear A520
                     by_cases c53 : t231 = 0
                     ·
                      rw [if_pos c53] at H
                      have c53b0 : (t231 == 0) = true := beq_iff_eq.mpr c53
                      have c53b1 : (t231 != 0) = false := bne_eq_false_iff_eq.mpr c53
                      clear c53
                      by_cases c54 : (t232 != false) = true
                      ·
                       rw [if_pos c54] at H
                       have c54b0 : (t232 != false) = true := c54
                       (try (have c54b1 : decide (t232 = false) = false := by simpa using c54))
                       (try (have c54b2 : (t232 == false) = false := by simpa using c54))
                       (try (have c54b3 : ¬ (t232 = false) := by simpa using c54))
                       clear c54
                       obtain rfl := Option.some.inj H
                       obtain ⟨Ao55, co55, eo55⟩ := Kd.R_slice HO_12.out
                       subst eo55
                       go_wp2_with (first | (go_at_call 22; (with_reducible refine (extent_Find.calls kj48 _ _ t220 x15_3 t231 t232 _ ?side1 ?side2 A52.out).mono ?_); (case side1 => repeat (first | exact (Kd.R_reads' HO_12.out).2.2 | (with_reducible refine Kd.C_alloc ?_ _) | (with_reducible refine Kd.C_drewN ?_ _) | (with_reducible refine Kd.C_drew ?_))); (case side2 => exact (Kd.R_reads' HO_12.out).2.1); rintro e w56 ⟨rfl, hb⟩; have n0_ := Aside0.mk (Kd.R_below (by (with_reducible repeat (first | apply Kd.R_alloc | apply Kd.R_drewN | apply Kd.R_drew)); exact HO_9.out) hb); have n1_ := Aside0.mk (Kd.R_below (by (with_reducible repeat (first | apply Kd.R_alloc | apply Kd.R_drewN | apply Kd.R_drew)); exact HO_12.out) hb); have n2_ := Aside0.mk (blk_below (g := gb208) (o := .cells #[.int .i64 a1_0, .int .i64 a1_1, .int .i64 a1_2] 33 (0, 0)) (by (with_reducible repeat (first | refine blk_drewN ?_ _ | refine blk_drew ?_ | refine blk_alloc ?_ _)); exact BK208.out) hb); have n3_ := Aside0.mk (blk_below (g := gb209) (o := .cells #[.int .u8 a2_0, .int .u8 a2_1] 44 (0, 0)) (by (with_reducible repeat (first | refine blk_drewN ?_ _ | refine blk_drew ?_ | refine blk_alloc ?_ _)); exact BK209.out) hb); have n4_ := Aside0.mk (below_step (by repeat (first | (with_reducible first | exact HB.out | apply below_alloc | apply pw_below_drewN | apply below_drew1 | refine below_set ?_ GE208.out | refine below_set ?_ GE209.out) | exact HB.out)) hb); clear HO_9; clear HO_12; clear BK208; clear BK209; clear HB; have HO_9 := n0_; have HO_12 := n1_; have BK208 := n2_; have BK209 := n3_; have HB := n4_; clear n0_ n1_ n2_ n3_ n4_; (try clear hb); (try clear hb2); (try clear hk); (try clear hi)))
                       repeat (go_quiet (first | (go_at_call 22; (with_reducible refine (extent_Find.calls kj48 _ _ t220 x15_3 t231 t232 _ ?side1 ?side2 A52.out).mono ?_); (case side1 => repeat (first | exact (Kd.R_reads' HO_12.out).2.2 | (with_reducible refine Kd.C_alloc ?_ _) | (with_reducible refine Kd.C_drewN ?_ _) | (with_reducible refine Kd.C_drew ?_))); (case side2 => exact (Kd.R_reads' HO_12.out).2.1); rintro e w56 ⟨rfl, hb⟩; have n0_ := Aside0.mk (Kd.R_below (by (with_reducible repeat (first | apply Kd.R_alloc | apply Kd.R_drewN | apply Kd.R_drew)); exact HO_9.out) hb); have n1_ := Aside0.mk (Kd.R_below (by (with_reducible repeat (first | apply Kd.R_alloc | apply Kd.R_drewN | apply Kd.R_drew)); exact HO_12.out) hb); have n2_ := Aside0.mk (blk_below (g := gb208) (o := .cells #[.int .i64 a1_0, .int .i64 a1_1, .int .i64 a1_2] 33 (0, 0)) (by (with_reducible repeat (first | refine blk_drewN ?_ _ | refine blk_drew ?_ | refine blk_alloc ?_ _)); exact BK208.out) hb); have n3_ := Aside0.mk (blk_below (g := gb209) (o := .cells #[.int .u8 a2_0, .int .u8 a2_1] 44 (0, 0)) (by (with_reducible repeat (first | refine blk_drewN ?_ _ | refine blk_drew ?_ | refine blk_alloc ?_ _)); exact BK209.out) hb); have n4_ := Aside0.mk (below_step (by repeat (first | (with_reducible first | exact HB.out | apply below_alloc | apply pw_below_drewN | apply below_drew1 | refine below_set ?_ GE208.out | refine below_set ?_ GE209.out) | exact HB.out)) hb); clear HO_9; clear HO_12; clear BK208; clear BK209; clear HB; have HO_9 := n0_; have HO_12 := n1_; have BK208 := n2_; have BK209 := n3_; have HB := n4_; clear n0_ n1_ n2_ n3_ n4_; (try clear hb); (try clear hb2); (try clear hk); (try clear hi))); try go_wp2_with (first | (go_at_call 22; (with_reducible refine (extent_Find.calls kj48 _ _ t220 x15_3 t231 t232 _ ?side1 ?side2 A52.out).mono ?_); (case side1 => repeat (first | exact (Kd.R_reads' HO_12.out).2.2 | (with_reducible refine Kd.C_alloc ?_ _) | (with_reducible refine Kd.C_drewN ?_ _) | (with_reducible refine Kd.C_drew ?_))); (case side2 => exact (Kd.R_reads' HO_12.out).2.1); rintro e w56 ⟨rfl, hb⟩; have n0_ := Aside0.mk (Kd.R_below (by (with_reducible repeat (first | apply Kd.R_alloc | apply Kd.R_drewN | apply Kd.R_drew)); exact HO_9.out) hb); have n1_ := Aside0.mk (Kd.R_below (by (with_reducible repeat (first | apply Kd.R_alloc | apply Kd.R_drewN | apply Kd.R_drew)); exact HO_12.out) hb); have n2_ := Aside0.mk (blk_below (g := gb208) (o := .cells #[.int .i64 a1_0, .int .i64 a1_1, .int .i64 a1_2] 33 (0, 0)) (by (with_reducible repeat (first | refine blk_drewN ?_ _ | refine blk_drew ?_ | refine blk_alloc ?_ _)); exact BK208.out) hb); have n3_ := Aside0.mk (blk_below (g := gb209) (o := .cells #[.int .u8 a2_0, .int .u8 a2_1] 44 (0, 0)) (by (with_reducible repeat (first | refine blk_drewN ?_ _ | refine blk_drew ?_ | refine blk_alloc ?_ _)); exact BK209.out) hb); have n4_ := Aside0.mk (below_step (by repeat (first | (with_reducible first | exact HB.out | apply below_alloc | apply pw_below_drewN | apply below_drew1 | refine below_set ?_ GE208.out | refine below_set ?_ GE209.out) | exact HB.out)) hb); clear HO_9; clear HO_12; clear BK208; clear BK209; clear HB; have HO_9 := n0_; have HO_12 := n1_; have BK208 := n2_; have BK209 := n3_; have HB := n4_; clear n0_ n1_ n2_ n3_ n4_; (try clear hb); (try clear hb2); (try clear hk); (try clear hi))))
                       go_ret
                       exact ⟨by first | rfl | (simp [errW_none, errW_some] <;> rfl) | (simp [*, errW_none, errW_some] <;> rfl), by repeat (first | (with_reducible first | exact HB.out | apply below_alloc | apply pw_below_drewN | apply below_drew1 | refine below_set ?_ GE208.out | refine below_set ?_ GE209.out) | exact HB.out)⟩
                      ·
                       rw [if_neg c54] at H
                       have c54b0 : (t232 != false) = false := by simpa using c54
                       (try (have c54b1 : decide (t232 = false) = true := by simpa using c54))
                       (try (have c54b2 : (t232 == false) = true := by simpa using c54))
                       clear c54
                       have H' := Aside0.mk H
                       clear H
                       obtain ⟨Ao57, co57, eo57⟩ := Kd.R_slice HO_12.out
                       subst eo57
                       go_wp2_with (first | (go_at_call 22; (with_reducible refine (extent_Find.calls kj48 _ _ t220 x15_3 t231 t232 _ ?side1 ?side2 A52.out).mono ?_); (case side1 => repeat (first | exact (Kd.R_reads' HO_12.out).2.2 | (with_reducible refine Kd.C_alloc ?_ _) | (with_reducible refine Kd.C_drewN ?_ _) | (with_reducible refine Kd.C_drew ?_))); (case side2 => exact (Kd.R_reads' HO_12.out).2.1); rintro e w58 ⟨rfl, hb⟩; have n0_ := Aside0.mk (Kd.R_below (by (with_reducible repeat (first | apply Kd.R_alloc | apply Kd.R_drewN | apply Kd.R_drew)); exact HO_9.out) hb); have n1_ := Aside0.mk (Kd.R_below (by (with_reducible repeat (first | apply Kd.R_alloc | apply Kd.R_drewN | apply Kd.R_drew)); exact HO_12.out) hb); have n2_ := Aside0.mk (blk_below (g := gb208) (o := .cells #[.int .i64 a1_0, .int .i64 a1_1, .int .i64 a1_2] 33 (0, 0)) (by (with_reducible repeat (first | refine blk_drewN ?_ _ | refine blk_drew ?_ | refine blk_alloc ?_ _)); exact BK208.out) hb); have n3_ := Aside0.mk (blk_below (g := gb209) (o := .cells #[.int .u8 a2_0, .int .u8 a2_1] 44 (0, 0)) (by (with_reducible repeat (first | refine blk_drewN ?_ _ | refine blk_drew ?_ | refine blk_alloc ?_ _)); exact BK209.out) hb); have n4_ := Aside0.mk (below_step (by repeat (first | (with_reducible first | exact HB.out | apply below_alloc | apply pw_below_drewN | apply below_drew1 | refine below_set ?_ GE208.out | refine below_set ?_ GE209.out) | exact HB.out)) hb); clear HO_9; clear HO_12; clear BK208; clear BK209; clear HB; have HO_9 := n0_; have HO_12 := n1_; have BK208 := n2_; have BK209 := n3_; have HB := n4_; clear n0_ n1_ n2_ n3_ n4_; (try clear hb); (try clear hb2); (try clear hk); (try clear hi)))
                       repeat (go_quiet (first | (go_at_call 22; (with_reducible refine (extent_Find.calls kj48 _ _ t220 x15_3 t231 t232 _ ?side1 ?side2 A52.out).mono ?_); (case side1 => repeat (first | exact (Kd.R_reads' HO_12.out).2.2 | (with_reducible refine Kd.C_alloc ?_ _) | (with_reducible refine Kd.C_drewN ?_ _) | (with_reducible refine Kd.C_drew ?_))); (case side2 => exact (Kd.R_reads' HO_12.out).2.1); rintro e w58 ⟨rfl, hb⟩; have n0_ := Aside0.mk (Kd.R_below (by (with_reducible repeat (first | apply Kd.R_alloc | apply Kd.R_drewN | apply Kd.R_drew)); exact HO_9.out) hb); have n1_ := Aside0.mk (Kd.R_below (by (with_reducible repeat (first | apply Kd.R_alloc | apply Kd.R_drewN | apply Kd.R_drew)); exact HO_12.out) hb); have n2_ := Aside0.mk (blk_below (g := gb208) (o := .cells #[.int .i64 a1_0, .int .i64 a1_1, .int .i64 a1_2] 33 (0, 0)) (by (with_reducible repeat (first | refine blk_drewN ?_ _ | refine blk_drew ?_ | refine blk_alloc ?_ _)); exact BK208.out) hb); have n3_ := Aside0.mk (blk_below (g := gb209) (o := .cells #[.int .u8 a2_0, .int .u8 a2_1] 44 (0, 0)) (by (with_reducible repeat (first | refine blk_drewN ?_ _ | refine blk_drew ?_ | refine blk_alloc ?_ _)); exact BK209.out) hb); have n4_ := Aside0.mk (below_step (by repeat (first | (with_reducible first | exact HB.out | apply below_alloc | apply pw_below_drewN | apply below_drew1 | refine below_set ?_ GE208.out | refine below_set ?_ GE209.out) | exact HB.out)) hb); clear HO_9; clear HO_12; clear BK208; clear BK209; clear HB; have HO_9 := n0_; have HO_12 := n1_; have BK208 := n2_; have BK209 := n3_; have HB := n4_; clear n0_ n1_ n2_ n3_ n4_; (try clear hb); (try clear hb2); (try clear hk); (try clear hi))); try go_wp2_with (first | (go_at_call 22; (with_reducible refine (extent_Find.calls kj48 _ _ t220 x15_3 t231 t232 _ ?side1 ?side2 A52.out).mono ?_); (case side1 => repeat (first | exact (Kd.R_reads' HO_12.out).2.2 | (with_reducible refine Kd.C_alloc ?_ _) | (with_reducible refine Kd.C_drewN ?_ _) | (with_reducible refine Kd.C_drew ?_))); (case side2 => exact (Kd.R_reads' HO_12.out).2.1); rintro e w58 ⟨rfl, hb⟩; have n0_ := Aside0.mk (Kd.R_below (by (with_reducible repeat (first | apply Kd.R_alloc | apply Kd.R_drewN | apply Kd.R_drew)); exact HO_9.out) hb); have n1_ := Aside0.mk (Kd.R_below (by (with_reducible repeat (first | apply Kd.R_alloc | apply Kd.R_drewN | apply Kd.R_drew)); exact HO_12.out) hb); have n2_ := Aside0.mk (blk_below (g := gb208) (o := .cells #[.int .i64 a1_0, .int .i64 a1_1, .int .i64 a1_2] 33 (0, 0)) (by (with_reducible repeat (first | refine blk_drewN ?_ _ | refine blk_drew ?_ | refine blk_alloc ?_ _)); exact BK208.out) hb); have n3_ := Aside0.mk (blk_below (g := gb209) (o := .cells #[.int .u8 a2_0, .int .u8 a2_1] 44 (0, 0)) (by (with_reducible repeat (first | refine blk_drewN ?_ _ | refine blk_drew ?_ | refine blk_alloc ?_ _)); exact BK209.out) hb); have n4_ := Aside0.mk (below_step (by repeat (first | (with_reducible first | exact HB.out | apply below_alloc | apply pw_below_drewN | apply below_drew1 | refine below_set ?_ GE208.out | refine below_set ?_ GE209.out) | exact HB.out)) hb); clear HO_9; clear HO_12; clear BK208; clear BK209; clear HB; have HO_9 := n0_; have HO_12 := n1_; have BK208 := n2_; have BK209 := n3_; have HB := n4_; clear n0_ n1_ n2_ n3_ n4_; (try clear hb); (try clear hb2); (try clear hk); (try clear hi))))
                       go_roundg kj48
                       case measure => have := HJ5.out; have := HJ21.out; have := HK3.out; have := HJ32.out; have := HJ39.out; have := HJ44.out; have := HJ48.out; omega
                       case rel => exact ⟨(wrap64 (x15_3 + 1)), (by first | rfl | (simp; done) | (simp [*]; done)), H', ⟨by have := HJ5.out; have := HJ21.out; have := HK3.out; have := HJ32.out; have := HJ39.out; have := HJ44.out; have := HJ48.out; omega⟩, ⟨by (with_reducible repeat (first | apply Kd.R_alloc | apply Kd.R_drewN | apply Kd.R_drew)); exact HO_9.out⟩, ⟨by (with_reducible repeat (first | apply Kd.R_alloc | apply Kd.R_drewN | apply Kd.R_drew)); exact HO_12.out⟩, ⟨by (with_reducible repeat (first | refine blk_drewN ?_ _ | refine blk_drew ?_ | refine blk_alloc ?_ _)); exact BK208.out⟩, ⟨by (with_reducible repeat (first | refine blk_drewN ?_ _ | refine blk_drew ?_ | refine blk_alloc ?_ _)); exact BK209.out⟩, ⟨by repeat (first | (with_reducible first | exact HB.out | apply below_alloc | apply pw_below_drewN | apply below_drew1 | refine below_set ?_ GE208.out | refine below_set ?_ GE209.out) | exact HB.out)⟩⟩
                     ·
                      rw [if_neg c53] at H
                      have c53b0 : (t231 == 0) = false := beq_eq_false_iff_ne.mpr c53
                      have c53b1 : (t231 != 0) = true := bne_iff_ne.mpr c53
                      obtain rfl := Option.some.inj H
                      obtain ⟨Ao59, co59, eo59⟩ := Kd.R_slice HO_12.out
                      subst eo59
                      go_wp2_with (first | (go_at_call 22; (with_reducible refine (extent_Find.calls kj48 _ _ t220 x15_3 t231 t232 _ ?side1 ?side2 A52.out).mono ?_); (case side1 => repeat (first | exact (Kd.R_reads' HO_12.out).2.2 | (with_reducible refine Kd.C_alloc ?_ _) | (with_reducible refine Kd.C_drewN ?_ _) | (with_reducible refine Kd.C_drew ?_))); (case side2 => exact (Kd.R_reads' HO_12.out).2.1); rintro e w60 ⟨rfl, hb⟩; have n0_ := Aside0.mk (Kd.R_below (by (with_reducible repeat (first | apply Kd.R_alloc | apply Kd.R_drewN | apply Kd.R_drew)); exact HO_9.out) hb); have n1_ := Aside0.mk (Kd.R_below (by (with_reducible repeat (first | apply Kd.R_alloc | apply Kd.R_drewN | apply Kd.R_drew)); exact HO_12.out) hb); have n2_ := Aside0.mk (blk_below (g := gb208) (o := .cells #[.int .i64 a1_0, .int .i64 a1_1, .int .i64 a1_2] 33 (0, 0)) (by (with_reducible repeat (first | refine blk_drewN ?_ _ | refine blk_drew ?_ | refine blk_alloc ?_ _)); exact BK208.out) hb); have n3_ := Aside0.mk (blk_below (g := gb209) (o := .cells #[.int .u8 a2_0, .int .u8 a2_1] 44 (0, 0)) (by (with_reducible repeat (first | refine blk_drewN ?_ _ | refine blk_drew ?_ | refine blk_alloc ?_ _)); exact BK209.out) hb); have n4_ := Aside0.mk (below_step (by repeat (first | (with_reducible first | exact HB.out | apply below_alloc | apply pw_below_drewN | apply below_drew1 | refine below_set ?_ GE208.out | refine below_set ?_ GE209.out) | exact HB.out)) hb); clear HO_9; clear HO_12; clear BK208; clear BK209; clear HB; have HO_9 := n0_; have HO_12 := n1_; have BK208 := n2_; have BK209 := n3_; have HB := n4_; clear n0_ n1_ n2_ n3_ n4_; (try clear hb); (try clear hb2); (try clear hk); (try clear hi)))
                      repeat (go_quiet (first | (go_at_call 22; (with_reducible refine (extent_Find.calls kj48 _ _ t220 x15_3 t231 t232 _ ?side1 ?side2 A52.out).mono ?_); (case side1 => repeat (first | exact (Kd.R_reads' HO_12.out).2.2 | (with_reducible refine Kd.C_alloc ?_ _) | (with_reducible refine Kd.C_drewN ?_ _) | (with_reducible refine Kd.C_drew ?_))); (case side2 => exact (Kd.R_reads' HO_12.out).2.1); rintro e w60 ⟨rfl, hb⟩; have n0_ := Aside0.mk (Kd.R_below (by (with_reducible repeat (first | apply Kd.R_alloc | apply Kd.R_drewN | apply Kd.R_drew)); exact HO_9.out) hb); have n1_ := Aside0.mk (Kd.R_below (by (with_reducible repeat (first | apply Kd.R_alloc | apply Kd.R_drewN | apply Kd.R_drew)); exact HO_12.out) hb); have n2_ := Aside0.mk (blk_below (g := gb208) (o := .cells #[.int .i64 a1_0, .int .i64 a1_1, .int .i64 a1_2] 33 (0, 0)) (by (with_reducible repeat (first | refine blk_drewN ?_ _ | refine blk_drew ?_ | refine blk_alloc ?_ _)); exact BK208.out) hb); have n3_ := Aside0.mk (blk_below (g := gb209) (o := .cells #[.int .u8 a2_0, .int .u8 a2_1] 44 (0, 0)) (by (with_reducible repeat (first | refine blk_drewN ?_ _ | refine blk_drew ?_ | refine blk_alloc ?_ _)); exact BK209.out) hb); have n4_ := Aside0.mk (below_step (by repeat (first | (with_reducible first | exact HB.out | apply below_alloc | apply pw_below_drewN | apply below_drew1 | refine below_set ?_ GE208.out | refine below_set ?_ GE209.out) | exact HB.out)) hb); clear HO_9; clear HO_12; clear BK208; clear BK209; clear HB; have HO_9 := n0_; have HO_12 := n1_; have BK208 := n2_; have BK209 := n3_; have HB := n4_; clear n0_ n1_ n2_ n3_ n4_; (try clear hb); (try clear hb2); (try clear hk); (try clear hi))); try go_wp2_with (first | (go_at_call 22; (with_reducible refine (extent_Find.calls kj48 _ _ t220 x15_3 t231 t232 _ ?side1 ?side2 A52.out).mono ?_); (case side1 => repeat (first | exact (Kd.R_reads' HO_12.out).2.2 | (with_reducible refine Kd.C_alloc ?_ _) | (with_reducible refine Kd.C_drewN ?_ _) | (with_reducible refine Kd.C_drew ?_))); (case side2 => exact (Kd.R_reads' HO_12.out).2.1); rintro e w60 ⟨rfl, hb⟩; have n0_ := Aside0.mk (Kd.R_below (by (with_reducible repeat (first | apply Kd.R_alloc | apply Kd.R_drewN | apply Kd.R_drew)); exact HO_9.out) hb); have n1_ := Aside0.mk (Kd.R_below (by (with_reducible repeat (first | apply Kd.R_alloc | apply Kd.R_drewN | apply Kd.R_drew)); exact HO_12.out) hb); have n2_ := Aside0.mk (blk_below (g := gb208) (o := .cells #[.int .i64 a1_0, .int .i64 a1_1, .int .i64 a1_2] 33 (0, 0)) (by (with_reducible repeat (first | refine blk_drewN ?_ _ | refine blk_drew ?_ | refine blk_alloc ?_ _)); exact BK208.out) hb); have n3_ := Aside0.mk (blk_below (g := gb209) (o := .cells #[.int .u8 a2_0, .int .u8 a2_1] 44 (0, 0)) (by (with_reducible repeat (first | refine blk_drewN ?_ _ | refine blk_drew ?_ | refine blk_alloc ?_ _)); exact BK209.out) hb); have n4_ := Aside0.mk (below_step (by repeat (first | (with_reducible first | exact HB.out | apply below_alloc | apply pw_below_drewN | apply below_drew1 | refine below_set ?_ GE208.out | refine below_set ?_ GE209.out) | exact HB.out)) hb); clear HO_9; clear HO_12; clear BK208; clear BK209; clear HB; have HO_9 := n0_; have HO_12 := n1_; have BK208 := n2_; have BK209 := n3_; have HB := n4_; clear n0_ n1_ n2_ n3_ n4_; (try clear hb); (try clear hb2); (try clear hk); (try clear hi))))
                      go_ret
                      exact ⟨by first | rfl | (simp [errW_none, errW_some] <;> rfl) | (simp [*, errW_none, errW_some] <;> rfl), by repeat (first | (with_reducible first | exact HB.out | apply below_alloc | apply pw_below_drewN | apply below_drew1 | refine below_set ?_ GE208.out | refine below_set ?_ GE209.out) | exact HB.out)⟩
                    ·
                     replace c51 := Bool.eq_false_iff.mpr c51
                     subst c51
                     have H1 : ((extent_Find.f kj48 t220 x15_3).bind fun bt233 => (if bt233.1 = x16_39 then (if (bt233.2 != x17_39) = true then (some false) else (tegulalaw32_ExtentMaps.l0 kj48 l0 (wrap64 (a2_0)) (wrap64 (a2_1)) t213 t220 (wrap64 (x15_3 + 1)) a1_0 a1_1 a1_2)) else (some false))) = some r := by rw [if_neg (show ¬ (false = true) by decide)] at H; exact H
                     clear H
                     have H := H1
                     clear H1
                     replace H := Option.bind_eq_some_iff.mp H
                     obtain ⟨⟨t233, t234⟩, A610, H⟩ := H
                     replace H : (if t233 = x16_39 then (if (t234 != x17_39) = true then (some false) else (tegulalaw32_ExtentMaps.l0 kj48 l0 (wrap64 (a2_0)) (wrap64 (a2_1)) t213 t220 (wrap64 (x15_3 + 1)) a1_0 a1_1 a1_2)) else (some false)) = some r := H
                     have A61 := Aside0.mk A610
                     clear A610
                     by_cases c62 : t233 = x16_39
                     ·
                      rw [if_pos c62] at H
                      have c62b0 : (t233 == x16_39) = true := beq_iff_eq.mpr c62
                      have c62b1 : (t233 != x16_39) = false := bne_eq_false_iff_eq.mpr c62
                      clear c62
                      by_cases c63 : (t234 != x17_39) = true
                      ·
                       rw [if_pos c63] at H
                       have c63b0 : (t234 != x17_39) = true := c63
                       (try (have c63b1 : decide (t234 = x17_39) = false := by simpa using c63))
                       (try (have c63b2 : (t234 == x17_39) = false := by simpa using c63))
                       (try (have c63b3 : ¬ (t234 = x17_39) := by simpa using c63))
                       clear c63
                       obtain rfl := Option.some.inj H
                       obtain ⟨Ao64, co64, eo64⟩ := Kd.R_slice HO_12.out
                       subst eo64
                       go_wp2_with (first | (go_at_call 22; (with_reducible refine (extent_Find.calls kj48 _ _ t220 x15_3 t233 t234 _ ?side1 ?side2 A61.out).mono ?_); (case side1 => repeat (first | exact (Kd.R_reads' HO_12.out).2.2 | (with_reducible refine Kd.C_alloc ?_ _) | (with_reducible refine Kd.C_drewN ?_ _) | (with_reducible refine Kd.C_drew ?_))); (case side2 => exact (Kd.R_reads' HO_12.out).2.1); rintro e w65 ⟨rfl, hb⟩; have n0_ := Aside0.mk (Kd.R_below (by (with_reducible repeat (first | apply Kd.R_alloc | apply Kd.R_drewN | apply Kd.R_drew)); exact HO_9.out) hb); have n1_ := Aside0.mk (Kd.R_below (by (with_reducible repeat (first | apply Kd.R_alloc | apply Kd.R_drewN | apply Kd.R_drew)); exact HO_12.out) hb); have n2_ := Aside0.mk (blk_below (g := gb208) (o := .cells #[.int .i64 a1_0, .int .i64 a1_1, .int .i64 a1_2] 33 (0, 0)) (by (with_reducible repeat (first | refine blk_drewN ?_ _ | refine blk_drew ?_ | refine blk_alloc ?_ _)); exact BK208.out) hb); have n3_ := Aside0.mk (blk_below (g := gb209) (o := .cells #[.int .u8 a2_0, .int .u8 a2_1] 44 (0, 0)) (by (with_reducible repeat (first | refine blk_drewN ?_ _ | refine blk_drew ?_ | refine blk_alloc ?_ _)); exact BK209.out) hb); have n4_ := Aside0.mk (below_step (by repeat (first | (with_reducible first | exact HB.out | apply below_alloc | apply pw_below_drewN | apply below_drew1 | refine below_set ?_ GE208.out | refine below_set ?_ GE209.out) | exact HB.out)) hb); clear HO_9; clear HO_12; clear BK208; clear BK209; clear HB; have HO_9 := n0_; have HO_12 := n1_; have BK208 := n2_; have BK209 := n3_; have HB := n4_; clear n0_ n1_ n2_ n3_ n4_; (try clear hb); (try clear hb2); (try clear hk); (try clear hi)))
                       repeat (go_quiet (first | (go_at_call 22; (with_reducible refine (extent_Find.calls kj48 _ _ t220 x15_3 t233 t234 _ ?side1 ?side2 A61.out).mono ?_); (case side1 => repeat (first | exact (Kd.R_reads' HO_12.out).2.2 | (with_reducible refine Kd.C_alloc ?_ _) | (with_reducible refine Kd.C_drewN ?_ _) | (with_reducible refine Kd.C_drew ?_))); (case side2 => exact (Kd.R_reads' HO_12.out).2.1); rintro e w65 ⟨rfl, hb⟩; have n0_ := Aside0.mk (Kd.R_below (by (with_reducible repeat (first | apply Kd.R_alloc | apply Kd.R_drewN | apply Kd.R_drew)); exact HO_9.out) hb); have n1_ := Aside0.mk (Kd.R_below (by (with_reducible repeat (first | apply Kd.R_alloc | apply Kd.R_drewN | apply Kd.R_drew)); exact HO_12.out) hb); have n2_ := Aside0.mk (blk_below (g := gb208) (o := .cells #[.int .i64 a1_0, .int .i64 a1_1, .int .i64 a1_2] 33 (0, 0)) (by (with_reducible repeat (first | refine blk_drewN ?_ _ | refine blk_drew ?_ | refine blk_alloc ?_ _)); exact BK208.out) hb); have n3_ := Aside0.mk (blk_below (g := gb209) (o := .cells #[.int .u8 a2_0, .int .u8 a2_1] 44 (0, 0)) (by (with_reducible repeat (first | refine blk_drewN ?_ _ | refine blk_drew ?_ | refine blk_alloc ?_ _)); exact BK209.out) hb); have n4_ := Aside0.mk (below_step (by repeat (first | (with_reducible first | exact HB.out | apply below_alloc | apply pw_below_drewN | apply below_drew1 | refine below_set ?_ GE208.out | refine below_set ?_ GE209.out) | exact HB.out)) hb); clear HO_9; clear HO_12; clear BK208; clear BK209; clear HB; have HO_9 := n0_; have HO_12 := n1_; have BK208 := n2_; have BK209 := n3_; have HB := n4_; clear n0_ n1_ n2_ n3_ n4_; (try clear hb); (try clear hb2); (try clear hk); (try clear hi))); try go_wp2_with (first | (go_at_call 22; (with_reducible refine (extent_Find.calls kj48 _ _ t220 x15_3 t233 t234 _ ?side1 ?side2 A61.out).mono ?_); (case side1 => repeat (first | exact (Kd.R_reads' HO_12.out).2.2 | (with_reducible refine Kd.C_alloc ?_ _) | (with_reducible refine Kd.C_drewN ?_ _) | (with_reducible refine Kd.C_drew ?_))); (case side2 => exact (Kd.R_reads' HO_12.out).2.1); rintro e w65 ⟨rfl, hb⟩; have n0_ := Aside0.mk (Kd.R_below (by (with_reducible repeat (first | apply Kd.R_alloc | apply Kd.R_drewN | apply Kd.R_drew)); exact HO_9.out) hb); have n1_ := Aside0.mk (Kd.R_below (by (with_reducible repeat (first | apply Kd.R_alloc | apply Kd.R_drewN | apply Kd.R_drew)); exact HO_12.out) hb); have n2_ := Aside0.mk (blk_below (g := gb208) (o := .cells #[.int .i64 a1_0, .int .i64 a1_1, .int .i64 a1_2] 33 (0, 0)) (by (with_reducible repeat (first | refine blk_drewN ?_ _ | refine blk_drew ?_ | refine blk_alloc ?_ _)); exact BK208.out) hb); have n3_ := Aside0.mk (blk_below (g := gb209) (o := .cells #[.int .u8 a2_0, .int .u8 a2_1] 44 (0, 0)) (by (with_reducible repeat (first | refine blk_drewN ?_ _ | refine blk_drew ?_ | refine blk_alloc ?_ _)); exact BK209.out) hb); have n4_ := Aside0.mk (below_step (by repeat (first | (with_reducible first | exact HB.out | apply below_alloc | apply pw_below_drewN | apply below_drew1 | refine below_set ?_ GE208.out | refine below_set ?_ GE209.out) | exact HB.out)) hb); clear HO_9; clear HO_12; clear BK208; clear BK209; clear HB; have HO_9 := n0_; have HO_12 := n1_; have BK208 := n2_; have BK209 := n3_; have HB := n4_; clear n0_ n1_ n2_ n3_ n4_; (try clear hb); (try clear hb2); (try clear hk); (try clear hi))))
                       go_ret
                       exact ⟨by first | rfl | (simp [errW_none, errW_some] <;> rfl) | (simp [*, errW_none, errW_some] <;> rfl), by repeat (first | (with_reducible first | exact HB.out | apply below_alloc | apply pw_below_drewN | apply below_drew1 | refine below_set ?_ GE208.out | refine below_set ?_ GE209.out) | exact HB.out)⟩
                      ·
                       rw [if_neg c63] at H
                       have c63b0 : (t234 != x17_39) = false := by simpa using c63
                       (try (have c63b1 : decide (t234 = x17_39) = true := by simpa using c63))
                       (try (have c63b2 : (t234 == x17_39) = true := by simpa using c63))
                       clear c63
                       have H' := Aside0.mk H
                       clear H
                       obtain ⟨Ao66, co66, eo66⟩ := Kd.R_slice HO_12.out
                       subst eo66
                       go_wp2_with (first | (go_at_call 22; (with_reducible refine (extent_Find.calls kj48 _ _ t220 x15_3 t233 t234 _ ?side1 ?side2 A61.out).mono ?_); (case side1 => repeat (first | exact (Kd.R_reads' HO_12.out).2.2 | (with_reducible refine Kd.C_alloc ?_ _) | (with_reducible refine Kd.C_drewN ?_ _) | (with_reducible refine Kd.C_drew ?_))); (case side2 => exact (Kd.R_reads' HO_12.out).2.1); rintro e w67 ⟨rfl, hb⟩; have n0_ := Aside0.mk (Kd.R_below (by (with_reducible repeat (first | apply Kd.R_alloc | apply Kd.R_drewN | apply Kd.R_drew)); exact HO_9.out) hb); have n1_ := Aside0.mk (Kd.R_below (by (with_reducible repeat (first | apply Kd.R_alloc | apply Kd.R_drewN | apply Kd.R_drew)); exact HO_12.out) hb); have n2_ := Aside0.mk (blk_below (g := gb208) (o := .cells #[.int .i64 a1_0, .int .i64 a1_1, .int .i64 a1_2] 33 (0, 0)) (by (with_reducible repeat (first | refine blk_drewN ?_ _ | refine blk_drew ?_ | refine blk_alloc ?_ _)); exact BK208.out) hb); have n3_ := Aside0.mk (blk_below (g := gb209) (o := .cells #[.int .u8 a2_0, .int .u8 a2_1] 44 (0, 0)) (by (with_reducible repeat (first | refine blk_drewN ?_ _ | refine blk_drew ?_ | refine blk_alloc ?_ _)); exact BK209.out) hb); have n4_ := Aside0.mk (below_step (by repeat (first | (with_reducible first | exact HB.out | apply below_alloc | apply pw_below_drewN | apply below_drew1 | refine below_set ?_ GE208.out | refine below_set ?_ GE209.out) | exact HB.out)) hb); clear HO_9; clear HO_12; clear BK208; clear BK209; clear HB; have HO_9 := n0_; have HO_12 := n1_; have BK208 := n2_; have BK209 := n3_; have HB := n4_; clear n0_ n1_ n2_ n3_ n4_; (try clear hb); (try clear hb2); (try clear hk); (try clear hi)))
                       repeat (go_quiet (first | (go_at_call 22; (with_reducible refine (extent_Find.calls kj48 _ _ t220 x15_3 t233 t234 _ ?side1 ?side2 A61.out).mono ?_); (case side1 => repeat (first | exact (Kd.R_reads' HO_12.out).2.2 | (with_reducible refine Kd.C_alloc ?_ _) | (with_reducible refine Kd.C_drewN ?_ _) | (with_reducible refine Kd.C_drew ?_))); (case side2 => exact (Kd.R_reads' HO_12.out).2.1); rintro e w67 ⟨rfl, hb⟩; have n0_ := Aside0.mk (Kd.R_below (by (with_reducible repeat (first | apply Kd.R_alloc | apply Kd.R_drewN | apply Kd.R_drew)); exact HO_9.out) hb); have n1_ := Aside0.mk (Kd.R_below (by (with_reducible repeat (first | apply Kd.R_alloc | apply Kd.R_drewN | apply Kd.R_drew)); exact HO_12.out) hb); have n2_ := Aside0.mk (blk_below (g := gb208) (o := .cells #[.int .i64 a1_0, .int .i64 a1_1, .int .i64 a1_2] 33 (0, 0)) (by (with_reducible repeat (first | refine blk_drewN ?_ _ | refine blk_drew ?_ | refine blk_alloc ?_ _)); exact BK208.out) hb); have n3_ := Aside0.mk (blk_below (g := gb209) (o := .cells #[.int .u8 a2_0, .int .u8 a2_1] 44 (0, 0)) (by (with_reducible repeat (first | refine blk_drewN ?_ _ | refine blk_drew ?_ | refine blk_alloc ?_ _)); exact BK209.out) hb); have n4_ := Aside0.mk (below_step (by repeat (first | (with_reducible first | exact HB.out | apply below_alloc | apply pw_below_drewN | apply below_drew1 | refine below_set ?_ GE208.out | refine below_set ?_ GE209.out) | exact HB.out)) hb); clear HO_9; clear HO_12; clear BK208; clear BK209; clear HB; have HO_9 := n0_; have HO_12 := n1_; have BK208 := n2_; have BK209 := n3_; have HB := n4_; clear n0_ n1_ n2_ n3_ n4_; (try clear hb); (try clear hb2); (try clear hk); (try clear hi))); try go_wp2_with (first | (go_at_call 22; (with_reducible refine (extent_Find.calls kj48 _ _ t220 x15_3 t233 t234 _ ?side1 ?side2 A61.out).mono ?_); (case side1 => repeat (first | exact (Kd.R_reads' HO_12.out).2.2 | (with_reducible refine Kd.C_alloc ?_ _) | (with_reducible refine Kd.C_drewN ?_ _) | (with_reducible refine Kd.C_drew ?_))); (case side2 => exact (Kd.R_reads' HO_12.out).2.1); rintro e w67 ⟨rfl, hb⟩; have n0_ := Aside0.mk (Kd.R_below (by (with_reducible repeat (first | apply Kd.R_alloc | apply Kd.R_drewN | apply Kd.R_drew)); exact HO_9.out) hb); have n1_ := Aside0.mk (Kd.R_below (by (with_reducible repeat (first | apply Kd.R_alloc | apply Kd.R_drewN | apply Kd.R_drew)); exact HO_12.out) hb); have n2_ := Aside0.mk (blk_below (g := gb208) (o := .cells #[.int .i64 a1_0, .int .i64 a1_1, .int .i64 a1_2] 33 (0, 0)) (by (with_reducible repeat (first | refine blk_drewN ?_ _ | refine blk_drew ?_ | refine blk_alloc ?_ _)); exact BK208.out) hb); have n3_ := Aside0.mk (blk_below (g := gb209) (o := .cells #[.int .u8 a2_0, .int .u8 a2_1] 44 (0, 0)) (by (with_reducible repeat (first | refine blk_drewN ?_ _ | refine blk_drew ?_ | refine blk_alloc ?_ _)); exact BK209.out) hb); have n4_ := Aside0.mk (below_step (by repeat (first | (with_reducible first | exact HB.out | apply below_alloc | apply pw_below_drewN | apply below_drew1 | refine below_set ?_ GE208.out | refine below_set ?_ GE209.out) | exact HB.out)) hb); clear HO_9; clear HO_12; clear BK208; clear BK209; clear HB; have HO_9 := n0_; have HO_12 := n1_; have BK208 := n2_; have BK209 := n3_; have HB := n4_; clear n0_ n1_ n2_ n3_ n4_; (try clear hb); (try clear hb2); (try clear hk); (try clear hi))))
                       go_roundg kj48
                       case measure => have := HJ5.out; have := HJ21.out; have := HK3.out; have := HJ32.out; have := HJ39.out; have := HJ44.out; have := HJ48.out; omega
                       case rel => exact ⟨(wrap64 (x15_3 + 1)), (by first | rfl | (simp; done) | (simp [*]; done)), H', ⟨by have := HJ5.out; have := HJ21.out; have := HK3.out; have := HJ32.out; have := HJ39.out; have := HJ44.out; have := HJ48.out; omega⟩, ⟨by (with_reducible repeat (first | apply Kd.R_alloc | apply Kd.R_drewN | apply Kd.R_drew)); exact HO_9.out⟩, ⟨by (with_reducible repeat (first | apply Kd.R_alloc | apply Kd.R_drewN | apply Kd.R_drew)); exact HO_12.out⟩, ⟨by (with_reducible repeat (first | refine blk_drewN ?_ _ | refine blk_drew ?_ | refine blk_alloc ?_ _)); exact BK208.out⟩, ⟨by (with_reducible repeat (first | refine blk_drewN ?_ _ | refine blk_drew ?_ | refine blk_alloc ?_ _)); exact BK209.out⟩, ⟨by repeat (first | (with_reducible first | exact HB.out | apply below_alloc | apply pw_below_drewN | apply below_drew1 | refine below_set ?_ GE208.out | refine below_set ?_ GE209.out) | exact HB.out)⟩⟩
                     ·
                      rw [if_neg c62] at H
                      have c62b0 : (t233 == x16_39) = false := beq_eq_false_iff_ne.mpr c62
                      have c62b1 : (t233 != x16_39) = true := bne_iff_ne.mpr c62
                      obtain rfl := Option.some.inj H
                      obtain ⟨Ao68, co68, eo68⟩ := Kd.R_slice HO_12.out
                      subst eo68
                      go_wp2_with (first | (go_at_call 22; (with_reducible refine (extent_Find.calls kj48 _ _ t220 x15_3 t233 t234 _ ?side1 ?side2 A61.out).mono ?_); (case side1 => repeat (first | exact (Kd.R_reads' HO_12.out).2.2 | (with_reducible refine Kd.C_alloc ?_ _) | (with_reducible refine Kd.C_drewN ?_ _) | (with_reducible refine Kd.C_drew ?_))); (case side2 => exact (Kd.R_reads' HO_12.out).2.1); rintro e w69 ⟨rfl, hb⟩; have n0_ := Aside0.mk (Kd.R_below (by (with_reducible repeat (first | apply Kd.R_alloc | apply Kd.R_drewN | apply Kd.R_drew)); exact HO_9.out) hb); have n1_ := Aside0.mk (Kd.R_below (by (with_reducible repeat (first | apply Kd.R_alloc | apply Kd.R_drewN | apply Kd.R_drew)); exact HO_12.out) hb); have n2_ := Aside0.mk (blk_below (g := gb208) (o := .cells #[.int .i64 a1_0, .int .i64 a1_1, .int .i64 a1_2] 33 (0, 0)) (by (with_reducible repeat (first | refine blk_drewN ?_ _ | refine blk_drew ?_ | refine blk_alloc ?_ _)); exact BK208.out) hb); have n3_ := Aside0.mk (blk_below (g := gb209) (o := .cells #[.int .u8 a2_0, .int .u8 a2_1] 44 (0, 0)) (by (with_reducible repeat (first | refine blk_drewN ?_ _ | refine blk_drew ?_ | refine blk_alloc ?_ _)); exact BK209.out) hb); have n4_ := Aside0.mk (below_step (by repeat (first | (with_reducible first | exact HB.out | apply below_alloc | apply pw_below_drewN | apply below_drew1 | refine below_set ?_ GE208.out | refine below_set ?_ GE209.out) | exact HB.out)) hb); clear HO_9; clear HO_12; clear BK208; clear BK209; clear HB; have HO_9 := n0_; have HO_12 := n1_; have BK208 := n2_; have BK209 := n3_; have HB := n4_; clear n0_ n1_ n2_ n3_ n4_; (try clear hb); (try clear hb2); (try clear hk); (try clear hi)))
                      repeat (go_quiet (first | (go_at_call 22; (with_reducible refine (extent_Find.calls kj48 _ _ t220 x15_3 t233 t234 _ ?side1 ?side2 A61.out).mono ?_); (case side1 => repeat (first | exact (Kd.R_reads' HO_12.out).2.2 | (with_reducible refine Kd.C_alloc ?_ _) | (with_reducible refine Kd.C_drewN ?_ _) | (with_reducible refine Kd.C_drew ?_))); (case side2 => exact (Kd.R_reads' HO_12.out).2.1); rintro e w69 ⟨rfl, hb⟩; have n0_ := Aside0.mk (Kd.R_below (by (with_reducible repeat (first | apply Kd.R_alloc | apply Kd.R_drewN | apply Kd.R_drew)); exact HO_9.out) hb); have n1_ := Aside0.mk (Kd.R_below (by (with_reducible repeat (first | apply Kd.R_alloc | apply Kd.R_drewN | apply Kd.R_drew)); exact HO_12.out) hb); have n2_ := Aside0.mk (blk_below (g := gb208) (o := .cells #[.int .i64 a1_0, .int .i64 a1_1, .int .i64 a1_2] 33 (0, 0)) (by (with_reducible repeat (first | refine blk_drewN ?_ _ | refine blk_drew ?_ | refine blk_alloc ?_ _)); exact BK208.out) hb); have n3_ := Aside0.mk (blk_below (g := gb209) (o := .cells #[.int .u8 a2_0, .int .u8 a2_1] 44 (0, 0)) (by (with_reducible repeat (first | refine blk_drewN ?_ _ | refine blk_drew ?_ | refine blk_alloc ?_ _)); exact BK209.out) hb); have n4_ := Aside0.mk (below_step (by repeat (first | (with_reducible first | exact HB.out | apply below_alloc | apply pw_below_drewN | apply below_drew1 | refine below_set ?_ GE208.out | refine below_set ?_ GE209.out) | exact HB.out)) hb); clear HO_9; clear HO_12; clear BK208; clear BK209; clear HB; have HO_9 := n0_; have HO_12 := n1_; have BK208 := n2_; have BK209 := n3_; have HB := n4_; clear n0_ n1_ n2_ n3_ n4_; (try clear hb); (try clear hb2); (try clear hk); (try clear hi))); try go_wp2_with (first | (go_at_call 22; (with_reducible refine (extent_Find.calls kj48 _ _ t220 x15_3 t233 t234 _ ?side1 ?side2 A61.out).mono ?_); (case side1 => repeat (first | exact (Kd.R_reads' HO_12.out).2.2 | (with_reducible refine Kd.C_alloc ?_ _) | (with_reducible refine Kd.C_drewN ?_ _) | (with_reducible refine Kd.C_drew ?_))); (case side2 => exact (Kd.R_reads' HO_12.out).2.1); rintro e w69 ⟨rfl, hb⟩; have n0_ := Aside0.mk (Kd.R_below (by (with_reducible repeat (first | apply Kd.R_alloc | apply Kd.R_drewN | apply Kd.R_drew)); exact HO_9.out) hb); have n1_ := Aside0.mk (Kd.R_below (by (with_reducible repeat (first | apply Kd.R_alloc | apply Kd.R_drewN | apply Kd.R_drew)); exact HO_12.out) hb); have n2_ := Aside0.mk (blk_below (g := gb208) (o := .cells #[.int .i64 a1_0, .int .i64 a1_1, .int .i64 a1_2] 33 (0, 0)) (by (with_reducible repeat (first | refine blk_drewN ?_ _ | refine blk_drew ?_ | refine blk_alloc ?_ _)); exact BK208.out) hb); have n3_ := Aside0.mk (blk_below (g := gb209) (o := .cells #[.int .u8 a2_0, .int .u8 a2_1] 44 (0, 0)) (by (with_reducible repeat (first | refine blk_drewN ?_ _ | refine blk_drew ?_ | refine blk_alloc ?_ _)); exact BK209.out) hb); have n4_ := Aside0.mk (below_step (by repeat (first | (with_reducible first | exact HB.out | apply below_alloc | apply pw_below_drewN | apply below_drew1 | refine below_set ?_ GE208.out | refine below_set ?_ GE209.out) | exact HB.out)) hb); clear HO_9; clear HO_12; clear BK208; clear BK209; clear HB; have HO_9 := n0_; have HO_12 := n1_; have BK208 := n2_; have BK209 := n3_; have HB := n4_; clear n0_ n1_ n2_ n3_ n4_; (try clear hb); (try clear hb2); (try clear hk); (try clear hi))))
                      go_ret
                      exact ⟨by first | rfl | (simp [errW_none, errW_some] <;> rfl) | (simp [*, errW_none, errW_some] <;> rfl), by repeat (first | (with_reducible first | exact HB.out | apply below_alloc | apply pw_below_drewN | apply below_drew1 | refine below_set ?_ GE208.out | refine below_set ?_ GE209.out) | exact HB.out)⟩
          ·
           rw [if_neg c31] at H
           have c31b0 : decide (x15_3 < 60) = false := decide_eq_false c31
           clear c31
           obtain rfl := Option.some.inj H
           go_wp2
           repeat (go_quiet (fail); try go_wp2)
           go_ret
           exact ⟨by first | rfl | (simp [errW_none, errW_some] <;> rfl) | (simp [*, errW_none, errW_some] <;> rfl), by repeat (first | (with_reducible first | exact HB.out | apply below_alloc | apply pw_below_drewN | apply below_drew1 | refine below_set ?_ GE208.out | refine below_set ?_ GE209.out) | exact HB.out)⟩
 ·
  replace c5 := Bool.eq_false_iff.mpr c5
  subst c5
  have H1 : (some false) = some r := by rw [if_neg (show ¬ (false = true) by decide)] at H; exact H
  clear H
  have H := H1
  clear H1
  obtain rfl := Option.some.inj H
  go_enter Try.func9, Try.ntmps9
  go_wp2_with (first | ((with_reducible refine gate_dst (N := 4) rfl ?_); refine box_event ?hg (N := 4) ?hd (cs := #[.int .i64 a1_0, .int .i64 a1_1, .int .i64 a1_2]) (t := 33) ?hr ?_; (case hd => rfl); (case hg => rfl); (case hr => first | (go_simp; done) | (go_simp; rfl)); intro gb208 hg w70 hbox hb; have n0_ := Aside0.mk (below_step (by repeat (first | (with_reducible first | exact HB.out | apply below_alloc | apply pw_below_drewN | apply below_drew1) | exact HB.out)) hb); have n1_ := Aside0.mk (hbox); have n2_ := Aside0.mk ((by rw [hg]; exact (below_size (by repeat (first | (with_reducible first | exact HB.out | apply below_alloc | apply pw_below_drewN | apply below_drew1) | exact HB.out))) : w.heap.size ≤ gb208)); have n3_ := Aside0.mk ((by rw [hg]; exact (below_size (by repeat (first | (with_reducible first | exact HB.out | apply below_alloc | apply pw_below_drewN | apply below_drew1) | exact HB.out))) : w.heap.size ≤ gb208)); clear HB; have HB := n0_; have BK208 := n1_; have GW208 := n2_; have GE208 := n3_; clear n0_ n1_ n2_ n3_; clear hb hbox hg) | ((with_reducible refine gate_dst (N := 5) rfl ?_); refine box_event ?hg (N := 5) ?hd (cs := #[.int .u8 a2_0, .int .u8 a2_1]) (t := 44) ?hr ?_; (case hd => rfl); (case hg => rfl); (case hr => first | (go_simp; done) | (go_simp; rfl)); intro gb209 hg w71 hbox hb; have n0_ := Aside0.mk (blk_below (g := gb208) (o := .cells #[.int .i64 a1_0, .int .i64 a1_1, .int .i64 a1_2] 33 (0, 0)) (by (with_reducible repeat (first | refine blk_drewN ?_ _ | refine blk_drew ?_ | refine blk_alloc ?_ _)); exact BK208.out) hb); have n1_ := Aside0.mk (below_step (by repeat (first | (with_reducible first | exact HB.out | apply below_alloc | apply pw_below_drewN | apply below_drew1 | refine below_set ?_ GE208.out) | exact HB.out)) hb); have n2_ := Aside0.mk (hbox); have n3_ := Aside0.mk ((by rw [hg]; exact (below_size (by repeat (first | (with_reducible first | exact HB.out | apply below_alloc | apply pw_below_drewN | apply below_drew1 | refine below_set ?_ GE208.out) | exact HB.out))) : w.heap.size ≤ gb209)); have n4_ := Aside0.mk ((by rw [hg]; exact (below_size (by repeat (first | (with_reducible first | exact HB.out | apply below_alloc | apply pw_below_drewN | apply below_drew1 | refine below_set ?_ GE208.out) | exact HB.out))) : w.heap.size ≤ gb209)); have n5_ := Aside0.mk ((by rw [hg]; exact Nat.ne_of_lt (blk_lt (g := gb208) (o := .cells #[.int .i64 a1_0, .int .i64 a1_1, .int .i64 a1_2] 33 (0, 0)) (by (with_reducible repeat (first | refine blk_drewN ?_ _ | refine blk_drew ?_ | refine blk_alloc ?_ _)); exact BK208.out)) : gb208 ≠ gb209)); have n6_ := Aside0.mk ((by rw [hg]; exact Nat.ne_of_gt (blk_lt (g := gb208) (o := .cells #[.int .i64 a1_0, .int .i64 a1_1, .int .i64 a1_2] 33 (0, 0)) (by (with_reducible repeat (first | refine blk_drewN ?_ _ | refine blk_drew ?_ | refine blk_alloc ?_ _)); exact BK208.out)) : gb209 ≠ gb208)); clear BK208; clear HB; have BK208 := n0_; have HB := n1_; have BK209 := n2_; have GW209 := n3_; have GE209 := n4_; have NB208_209 := n5_; have NB209_208 := n6_; clear n0_ n1_ n2_ n3_ n4_ n5_ n6_; clear hb hbox hg) | (go_at_call 11; (with_reducible refine (tegulalaw32_awake.calls k  false _ A4.out).mono ?_); rintro e w72 ⟨rfl, hb⟩; have n0_ := Aside0.mk (blk_below (g := gb208) (o := .cells #[.int .i64 a1_0, .int .i64 a1_1, .int .i64 a1_2] 33 (0, 0)) (by (with_reducible repeat (first | refine blk_drewN ?_ _ | refine blk_drew ?_ | refine blk_alloc ?_ _)); exact BK208.out) hb); have n1_ := Aside0.mk (blk_below (g := gb209) (o := .cells #[.int .u8 a2_0, .int .u8 a2_1] 44 (0, 0)) (by (with_reducible repeat (first | refine blk_drewN ?_ _ | refine blk_drew ?_ | refine blk_alloc ?_ _)); exact BK209.out) hb); have n2_ := Aside0.mk (below_step (by repeat (first | (with_reducible first | exact HB.out | apply below_alloc | apply pw_below_drewN | apply below_drew1 | refine below_set ?_ GE208.out | refine below_set ?_ GE209.out) | exact HB.out)) hb); clear BK208; clear BK209; clear HB; have BK208 := n0_; have BK209 := n1_; have HB := n2_; clear n0_ n1_ n2_; (try clear hb); (try clear hb2); (try clear hk); (try clear hi)))
  repeat (go_quiet (first | ((with_reducible refine gate_dst (N := 4) rfl ?_); refine box_event ?hg (N := 4) ?hd (cs := #[.int .i64 a1_0, .int .i64 a1_1, .int .i64 a1_2]) (t := 33) ?hr ?_; (case hd => rfl); (case hg => rfl); (case hr => first | (go_simp; done) | (go_simp; rfl)); intro gb208 hg w70 hbox hb; have n0_ := Aside0.mk (below_step (by repeat (first | (with_reducible first | exact HB.out | apply below_alloc | apply pw_below_drewN | apply below_drew1) | exact HB.out)) hb); have n1_ := Aside0.mk (hbox); have n2_ := Aside0.mk ((by rw [hg]; exact (below_size (by repeat (first | (with_reducible first | exact HB.out | apply below_alloc | apply pw_below_drewN | apply below_drew1) | exact HB.out))) : w.heap.size ≤ gb208)); have n3_ := Aside0.mk ((by rw [hg]; exact (below_size (by repeat (first | (with_reducible first | exact HB.out | apply below_alloc | apply pw_below_drewN | apply below_drew1) | exact HB.out))) : w.heap.size ≤ gb208)); clear HB; have HB := n0_; have BK208 := n1_; have GW208 := n2_; have GE208 := n3_; clear n0_ n1_ n2_ n3_; clear hb hbox hg) | ((with_reducible refine gate_dst (N := 5) rfl ?_); refine box_event ?hg (N := 5) ?hd (cs := #[.int .u8 a2_0, .int .u8 a2_1]) (t := 44) ?hr ?_; (case hd => rfl); (case hg => rfl); (case hr => first | (go_simp; done) | (go_simp; rfl)); intro gb209 hg w71 hbox hb; have n0_ := Aside0.mk (blk_below (g := gb208) (o := .cells #[.int .i64 a1_0, .int .i64 a1_1, .int .i64 a1_2] 33 (0, 0)) (by (with_reducible repeat (first | refine blk_drewN ?_ _ | refine blk_drew ?_ | refine blk_alloc ?_ _)); exact BK208.out) hb); have n1_ := Aside0.mk (below_step (by repeat (first | (with_reducible first | exact HB.out | apply below_alloc | apply pw_below_drewN | apply below_drew1 | refine below_set ?_ GE208.out) | exact HB.out)) hb); have n2_ := Aside0.mk (hbox); have n3_ := Aside0.mk ((by rw [hg]; exact (below_size (by repeat (first | (with_reducible first | exact HB.out | apply below_alloc | apply pw_below_drewN | apply below_drew1 | refine below_set ?_ GE208.out) | exact HB.out))) : w.heap.size ≤ gb209)); have n4_ := Aside0.mk ((by rw [hg]; exact (below_size (by repeat (first | (with_reducible first | exact HB.out | apply below_alloc | apply pw_below_drewN | apply below_drew1 | refine below_set ?_ GE208.out) | exact HB.out))) : w.heap.size ≤ gb209)); have n5_ := Aside0.mk ((by rw [hg]; exact Nat.ne_of_lt (blk_lt (g := gb208) (o := .cells #[.int .i64 a1_0, .int .i64 a1_1, .int .i64 a1_2] 33 (0, 0)) (by (with_reducible repeat (first | refine blk_drewN ?_ _ | refine blk_drew ?_ | refine blk_alloc ?_ _)); exact BK208.out)) : gb208 ≠ gb209)); have n6_ := Aside0.mk ((by rw [hg]; exact Nat.ne_of_gt (blk_lt (g := gb208) (o := .cells #[.int .i64 a1_0, .int .i64 a1_1, .int .i64 a1_2] 33 (0, 0)) (by (with_reducible repeat (first | refine blk_drewN ?_ _ | refine blk_drew ?_ | refine blk_alloc ?_ _)); exact BK208.out)) : gb209 ≠ gb208)); clear BK208; clear HB; have BK208 := n0_; have HB := n1_; have BK209 := n2_; have GW209 := n3_; have GE209 := n4_; have NB208_209 := n5_; have NB209_208 := n6_; clear n0_ n1_ n2_ n3_ n4_ n5_ n6_; clear hb hbox hg) | (go_at_call 11; (with_reducible refine (tegulalaw32_awake.calls k  false _ A4.out).mono ?_); rintro e w72 ⟨rfl, hb⟩; have n0_ := Aside0.mk (blk_below (g := gb208) (o := .cells #[.int .i64 a1_0, .int .i64 a1_1, .int .i64 a1_2] 33 (0, 0)) (by (with_reducible repeat (first | refine blk_drewN ?_ _ | refine blk_drew ?_ | refine blk_alloc ?_ _)); exact BK208.out) hb); have n1_ := Aside0.mk (blk_below (g := gb209) (o := .cells #[.int .u8 a2_0, .int .u8 a2_1] 44 (0, 0)) (by (with_reducible repeat (first | refine blk_drewN ?_ _ | refine blk_drew ?_ | refine blk_alloc ?_ _)); exact BK209.out) hb); have n2_ := Aside0.mk (below_step (by repeat (first | (with_reducible first | exact HB.out | apply below_alloc | apply pw_below_drewN | apply below_drew1 | refine below_set ?_ GE208.out | refine below_set ?_ GE209.out) | exact HB.out)) hb); clear BK208; clear BK209; clear HB; have BK208 := n0_; have BK209 := n1_; have HB := n2_; clear n0_ n1_ n2_; (try clear hb); (try clear hb2); (try clear hk); (try clear hi))); try go_wp2_with (first | ((with_reducible refine gate_dst (N := 4) rfl ?_); refine box_event ?hg (N := 4) ?hd (cs := #[.int .i64 a1_0, .int .i64 a1_1, .int .i64 a1_2]) (t := 33) ?hr ?_; (case hd => rfl); (case hg => rfl); (case hr => first | (go_simp; done) | (go_simp; rfl)); intro gb208 hg w70 hbox hb; have n0_ := Aside0.mk (below_step (by repeat (first | (with_reducible first | exact HB.out | apply below_alloc | apply pw_below_drewN | apply below_drew1) | exact HB.out)) hb); have n1_ := Aside0.mk (hbox); have n2_ := Aside0.mk ((by rw [hg]; exact (below_size (by repeat (first | (with_reducible first | exact HB.out | apply below_alloc | apply pw_below_drewN | apply below_drew1) | exact HB.out))) : w.heap.size ≤ gb208)); have n3_ := Aside0.mk ((by rw [hg]; exact (below_size (by repeat (first | (with_reducible first | exact HB.out | apply below_alloc | apply pw_below_drewN | apply below_drew1) | exact HB.out))) : w.heap.size ≤ gb208)); clear HB; have HB := n0_; have BK208 := n1_; have GW208 := n2_; have GE208 := n3_; clear n0_ n1_ n2_ n3_; clear hb hbox hg) | ((with_reducible refine gate_dst (N := 5) rfl ?_); refine box_event ?hg (N := 5) ?hd (cs := #[.int .u8 a2_0, .int .u8 a2_1]) (t := 44) ?hr ?_; (case hd => rfl); (case hg => rfl); (case hr => first | (go_simp; done) | (go_simp; rfl)); intro gb209 hg w71 hbox hb; have n0_ := Aside0.mk (blk_below (g := gb208) (o := .cells #[.int .i64 a1_0, .int .i64 a1_1, .int .i64 a1_2] 33 (0, 0)) (by (with_reducible repeat (first | refine blk_drewN ?_ _ | refine blk_drew ?_ | refine blk_alloc ?_ _)); exact BK208.out) hb); have n1_ := Aside0.mk (below_step (by repeat (first | (with_reducible first | exact HB.out | apply below_alloc | apply pw_below_drewN | apply below_drew1 | refine below_set ?_ GE208.out) | exact HB.out)) hb); have n2_ := Aside0.mk (hbox); have n3_ := Aside0.mk ((by rw [hg]; exact (below_size (by repeat (first | (with_reducible first | exact HB.out | apply below_alloc | apply pw_below_drewN | apply below_drew1 | refine below_set ?_ GE208.out) | exact HB.out))) : w.heap.size ≤ gb209)); have n4_ := Aside0.mk ((by rw [hg]; exact (below_size (by repeat (first | (with_reducible first | exact HB.out | apply below_alloc | apply pw_below_drewN | apply below_drew1 | refine below_set ?_ GE208.out) | exact HB.out))) : w.heap.size ≤ gb209)); have n5_ := Aside0.mk ((by rw [hg]; exact Nat.ne_of_lt (blk_lt (g := gb208) (o := .cells #[.int .i64 a1_0, .int .i64 a1_1, .int .i64 a1_2] 33 (0, 0)) (by (with_reducible repeat (first | refine blk_drewN ?_ _ | refine blk_drew ?_ | refine blk_alloc ?_ _)); exact BK208.out)) : gb208 ≠ gb209)); have n6_ := Aside0.mk ((by rw [hg]; exact Nat.ne_of_gt (blk_lt (g := gb208) (o := .cells #[.int .i64 a1_0, .int .i64 a1_1, .int .i64 a1_2] 33 (0, 0)) (by (with_reducible repeat (first | refine blk_drewN ?_ _ | refine blk_drew ?_ | refine blk_alloc ?_ _)); exact BK208.out)) : gb209 ≠ gb208)); clear BK208; clear HB; have BK208 := n0_; have HB := n1_; have BK209 := n2_; have GW209 := n3_; have GE209 := n4_; have NB208_209 := n5_; have NB209_208 := n6_; clear n0_ n1_ n2_ n3_ n4_ n5_ n6_; clear hb hbox hg) | (go_at_call 11; (with_reducible refine (tegulalaw32_awake.calls k  false _ A4.out).mono ?_); rintro e w72 ⟨rfl, hb⟩; have n0_ := Aside0.mk (blk_below (g := gb208) (o := .cells #[.int .i64 a1_0, .int .i64 a1_1, .int .i64 a1_2] 33 (0, 0)) (by (with_reducible repeat (first | refine blk_drewN ?_ _ | refine blk_drew ?_ | refine blk_alloc ?_ _)); exact BK208.out) hb); have n1_ := Aside0.mk (blk_below (g := gb209) (o := .cells #[.int .u8 a2_0, .int .u8 a2_1] 44 (0, 0)) (by (with_reducible repeat (first | refine blk_drewN ?_ _ | refine blk_drew ?_ | refine blk_alloc ?_ _)); exact BK209.out) hb); have n2_ := Aside0.mk (below_step (by repeat (first | (with_reducible first | exact HB.out | apply below_alloc | apply pw_below_drewN | apply below_drew1 | refine below_set ?_ GE208.out | refine below_set ?_ GE209.out) | exact HB.out)) hb); clear BK208; clear BK209; clear HB; have BK208 := n0_; have BK209 := n1_; have HB := n2_; clear n0_ n1_ n2_; (try clear hb); (try clear hb2); (try clear hk); (try clear hi))))
  go_ret
  exact ⟨by first | rfl | (simp [errW_none, errW_some] <;> rfl) | (simp [*, errW_none, errW_some] <;> rfl), by repeat (first | (with_reducible first | exact HB.out | apply below_alloc | apply pw_below_drewN | apply below_drew1 | refine below_set ?_ GE208.out | refine below_set ?_ GE209.out) | exact HB.out)⟩

end Go.Proofs.Ytcgihjpnemnkeaa.PExtentMaps
