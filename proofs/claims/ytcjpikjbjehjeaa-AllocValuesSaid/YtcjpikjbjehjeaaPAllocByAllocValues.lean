-- Written for this claim by a program of this session (wip/), out of the translation's own print: Lean checks it
import Derived.Test.YtcjpikjbjehjeaaPAllocBx0
import Derived.Test.YtcjpikjbjehjeaaWGuard
import Derived.Test.YtcjpikjbjehjeaaPAllocBx10
import Derived.Test.YtcjpikjbjehjeaaPAllocBx11
import Derived.Test.YtcjpikjbjehjeaaPAllocBx14
import Derived.Test.YtcjpikjbjehjeaaPAllocBx19
import Derived.Test.YtcjpikjbjehjeaaPAllocBx20
namespace Go.Proofs.Ytcjpikjbjehjeaa.PAllocB
open Go.RowKit Go.Proofs.YtcjpikjbjehjeaaW.PrintWords Go.Proofs.YtcjpikjbjehjeaaW.PrintLast Go.Proofs.YtcjpikjbjehjeaaW.PrintMore
attribute [local go_sem] max2_int min2_int max_two min_two max_three min_three max_four min_four   -- for this text's walks alone
set_option linter.unusedVariables false
set_option linter.unusedSimpArgs false

/-! ### tegulalaw35_AllocValues: function 8 -/
def tegulalaw35_AllocValues.j0 : Nat → Int → List (S57) → Bool → Int → Int → Int → List (S53) → Option (Bool)
 | 0, _, _, _, _, _, _, _ => none
 | k + 1, x0, x1, x23, x663000, x663001, x663002, x663003 => if x23 = true then (some true) else ((tegulalaw35_build.f k x0 x1).bind fun bt665 => ((tegulalaw35_step.f k bt665.1 bt665.2.1 bt665.2.2.1 x663000 x663001 x663002 x663003).bind fun bt674 => ((tegulalaw35_step.f k bt674.1 bt674.2.1 bt674.2.2.1 x663000 x663001 x663002 x663003).bind fun bt683 => (if bt665.2.2.2 = true then (if bt674.2.2.2 = true then ((tegulalaw35_same.f k bt665.1 bt665.2.1 bt665.2.2.1).bind fun t691 => (if t691 = true then ((tegulalaw35_same.f k bt674.1 bt674.2.1 bt674.2.2.1).bind fun t692 => (some t692)) else (some false))) else (some false)) else (some false)))))
def tegulalaw35_AllocValues.f (k : Nat) (a0 : Int) (l1 : List (S57)) (a2_0 : Int) (a2_1 : Int) (a2_2 : Int) (l2_3 : List (S53)) : Option (Bool) := (tegulalaw35_awake.f k).bind fun t663 => (if t663 = true then ((tegulalaw35_few.f k l1).bind fun t664 => (if t664 = true then (tegulalaw35_AllocValues.j0 k a0 l1 (decide ((l2_3.length : Int) > 8)) a2_0 a2_1 a2_2 l2_3) else (tegulalaw35_AllocValues.j0 k a0 l1 true a2_0 a2_1 a2_2 l2_3))) else (some false))
theorem tegulalaw35_AllocValues.mono_l : ∀ k, (∀ y0 y1 y2 y3 y4 y5 y6, LeO (tegulalaw35_AllocValues.j0 k y0 y1 y2 y3 y4 y5 y6) (tegulalaw35_AllocValues.j0 (k + 1) y0 y1 y2 y3 y4 y5 y6))
 | 0 => fun _ _ _ _ _ _ _ r h => by simp [tegulalaw35_AllocValues.j0] at h
 | k + 1 => by
  have ih0 := tegulalaw35_AllocValues.mono_l k
  ·
   intro y0 y1 y2 y3 y4 y5 y6
   unfold tegulalaw35_AllocValues.j0
   repeat' first
   | (with_reducible exact ih0 _ _ _ _ _ _ _)
   | (with_reducible exact tegulalaw35_awake.mono _)
   | (with_reducible exact tegulalaw35_build.mono _ _ _)
   | (with_reducible exact tegulalaw35_few.mono _ _)
   | (with_reducible exact tegulalaw35_same.mono _ _ _ _)
   | (with_reducible exact tegulalaw35_step.mono _ _ _ _ _ _ _ _)
   | (with_reducible exact LeO.refl _)
   | (with_reducible exact LeO.none _)
   | (with_reducible refine LeO.ite ?_ ?_)
   | (with_reducible refine LeO.bind ?_ (fun _ => ?_))
   | exact ih0 _ _ _ _ _ _ _
   | exact tegulalaw35_awake.mono _
   | exact tegulalaw35_build.mono _ _ _
   | exact tegulalaw35_few.mono _ _
   | exact tegulalaw35_same.mono _ _ _ _
   | exact tegulalaw35_step.mono _ _ _ _ _ _ _ _
   | exact LeO.none _
   | refine LeO.ite ?_ ?_
   | refine LeO.bind ?_ (fun _ => ?_)
theorem tegulalaw35_AllocValues.mono : ∀ a0 a1 a2 a3 a4 a5 k, LeO (tegulalaw35_AllocValues.f k a0 a1 a2 a3 a4 a5) (tegulalaw35_AllocValues.f (k + 1) a0 a1 a2 a3 a4 a5) := by
 intro a0 a1 a2 a3 a4 a5 k
 have ih0 := tegulalaw35_AllocValues.mono_l k
 unfold tegulalaw35_AllocValues.f
 repeat' first
   | (with_reducible exact ih0 _ _ _ _ _ _ _)
   | (with_reducible exact tegulalaw35_awake.mono _)
   | (with_reducible exact tegulalaw35_build.mono _ _ _)
   | (with_reducible exact tegulalaw35_few.mono _ _)
   | (with_reducible exact tegulalaw35_same.mono _ _ _ _)
   | (with_reducible exact tegulalaw35_step.mono _ _ _ _ _ _ _ _)
   | (with_reducible exact LeO.refl _)
   | (with_reducible exact LeO.none _)
   | (with_reducible refine LeO.ite ?_ ?_)
   | (with_reducible refine LeO.bind ?_ (fun _ => ?_))
   | exact ih0 _ _ _ _ _ _ _
   | exact tegulalaw35_awake.mono _
   | exact tegulalaw35_build.mono _ _ _
   | exact tegulalaw35_few.mono _ _
   | exact tegulalaw35_same.mono _ _ _ _
   | exact tegulalaw35_step.mono _ _ _ _ _ _ _ _
   | exact LeO.none _
   | refine LeO.ite ?_ ?_
   | refine LeO.bind ?_ (fun _ => ?_)
set_option maxHeartbeats 8000000 in
set_option maxRecDepth 100000 in
theorem tegulalaw35_AllocValues.calls (k : Nat) (a0 : Int) (A1 : Option Addr) (c1 : Nat) (l1 : List (S57)) (a2_0 : Int) (a2_1 : Int) (a2_2 : Int) (A2_3 : Option Addr) (c2_3 : Nat) (l2_3 : List (S53)) (r : Bool) (w : World) (hr1 : Kd.C k57 w A1 l1.length l1) (hc1 : l1.length ≤ c1) (hr2_3 : Kd.C k53 w A2_3 l2_3.length l2_3) (hc2_3 : l2_3.length ≤ c2_3) (h : tegulalaw35_AllocValues.f k a0 l1 a2_0 a2_1 a2_2 l2_3 = some r) (h0 : r = true := by rfl) :
  Calls Try.prog 8 #[.int .u8 a0, .slice A1 l1.length c1, .agg #[.int .u8 a2_0, .int .u8 a2_1, .int .u8 a2_2, .slice A2_3 l2_3.length c2_3]] w fun e w' => e = .returned (.bool r) ∧ Below w.heap.size w w' := by
 have h0_ := Aa (h0)
 clear h0
 have hu57 := Try.underlying57
 have hu26 := Try.underlying26
 have HR1 := Aside0.mk hr1
 have HC1 := Aside0.mk hc1
 clear hr1 hc1
 have HR2_3 := Aside0.mk hr2_3
 have HC2_3 := Aside0.mk hc2_3
 clear hr2_3 hc2_3
 have HB := Aa (Below.refl w.heap.size w)
 have H : ((tegulalaw35_awake.f k).bind fun t663 => (if t663 = true then ((tegulalaw35_few.f k l1).bind fun t664 => (if t664 = true then (tegulalaw35_AllocValues.j0 k a0 l1 (decide ((l2_3.length : Int) > 8)) a2_0 a2_1 a2_2 l2_3) else (tegulalaw35_AllocValues.j0 k a0 l1 true a2_0 a2_1 a2_2 l2_3))) else (some false))) = some r := h
 clear h
 replace H := Option.bind_eq_some_iff.mp H
 obtain ⟨t663, A40, H⟩ := H
 replace H : (if t663 = true then ((tegulalaw35_few.f k l1).bind fun t664 => (if t664 = true then (tegulalaw35_AllocValues.j0 k a0 l1 (decide ((l2_3.length : Int) > 8)) a2_0 a2_1 a2_2 l2_3) else (tegulalaw35_AllocValues.j0 k a0 l1 true a2_0 a2_1 a2_2 l2_3))) else (some false)) = some r := H
 have A4 := Aside0.mk A40
 clear A40
 by_cases c5 : t663 = true
 ·
  subst c5
  have H1 : ((tegulalaw35_few.f k l1).bind fun t664 => (if t664 = true then (tegulalaw35_AllocValues.j0 k a0 l1 (decide ((l2_3.length : Int) > 8)) a2_0 a2_1 a2_2 l2_3) else (tegulalaw35_AllocValues.j0 k a0 l1 true a2_0 a2_1 a2_2 l2_3))) = some r := by rw [if_pos rfl] at H; exact H
  clear H
  have H := H1
  clear H1
  have HC6 := Aside0.mk H
  clear H
  go_enter Try.func8, Try.ntmps8
  go_upto_region 3 with (first | ((with_reducible refine gD 5 ?_); (try (refine gate_guard (by rfl) ?_; dsimp only)); refine bE #[.int .u8 a2_0, .int .u8 a2_1, .int .u8 a2_2, .slice A2_3 l2_3.length c2_3] 57 ?_; intro gb662 hg w7 hbox hb; have BK662 := Aa (hbox); have GW662 := gU HB hg; have GE662 := gU HB hg; have iE662 := Nonempty.intro GE662.1; replace HB := sU HB hb; clear hb hbox hg) | ((with_reducible refine gC 10 ?_); refine gL 13 Try.func10 #[] ?_; (with_reducible refine (tegulalaw35_awake.calls k  true _ A4.1).mono ?_); rintro e w8 ⟨rfl, hb⟩; refine ⟨_, rfl, ?_⟩; replace BK662 := kB BK662 hb; replace HB := sB HB hb; (try clear hb)))
  (try simp only [Act.put, List.setIfInBounds_toArray, List.set_cons_zero, List.set_cons_succ])
  go_cut [23] (fun v23 wc => ∃ (kq : Nat) (x23_5 : Bool), v23 = .bool x23_5 ∧ Aside0 (tegulalaw35_AllocValues.j0 kq a0 l1 x23_5 a2_0 a2_1 a2_2 l2_3 = some r) ∧ Aside0 (kq ≤ k) ∧ Aside0 (wc.heap[gb662]? = some (.cells #[.int .u8 a2_0, .int .u8 a2_1, .int .u8 a2_2, (.slice A2_3 l2_3.length c2_3)] 57 (0, 0))) ∧ Aside0 (Below w.heap.size w wc))
  case first =>
   have H := HC6.1
   clear HC6
   replace H := Option.bind_eq_some_iff.mp H
   obtain ⟨t664, A90, H⟩ := H
   replace H : (if t664 = true then (tegulalaw35_AllocValues.j0 k a0 l1 (decide ((l2_3.length : Int) > 8)) a2_0 a2_1 a2_2 l2_3) else (tegulalaw35_AllocValues.j0 k a0 l1 true a2_0 a2_1 a2_2 l2_3)) = some r := H
   have A9 := Aside0.mk A90
   clear A90
   by_cases c10 : t664 = true
   ·
    subst c10
    have H1 : (tegulalaw35_AllocValues.j0 k a0 l1 (decide ((l2_3.length : Int) > 8)) a2_0 a2_1 a2_2 l2_3) = some r := by rw [if_pos rfl] at H; exact H
    clear H
    have H := H1
    clear H1
    have H' := Aside0.mk H
    clear H
    go_wp2_with (first | ((with_reducible refine gC 20 ?_); refine gL 16 Try.func20 #[.slice A1 l1.length c1] ?_; (with_reducible refine (tegulalaw35_few.calls k _ _ l1 true _ ?side1 ?side2 A9.1).mono ?_); (case side1 => exact cU (Kd.C_below HR1.1 HB.1)); (case side2 => exact HC1.1); rintro e w' ⟨rfl, ⟨nd, rfl⟩⟩; refine ⟨_, rfl, ?_⟩; have hcz11_0 : w8.cell? ⟨gb662, 0, none⟩ = some (.int .u8 a2_0) := cC BK662 0; have hcz11_1 : w8.cell? ⟨gb662, 1, none⟩ = some (.int .u8 a2_1) := cC BK662 1; have hcz11_2 : w8.cell? ⟨gb662, 2, none⟩ = some (.int .u8 a2_2) := cC BK662 2; have hcz11_3 : w8.cell? ⟨gb662, 3, none⟩ = some (.slice A2_3 l2_3.length c2_3) := cC BK662 3; have hfz11_0 := fC BK662 0; have hfz11_1 := fC BK662 1; have hfz11_2 := fC BK662 2; have hfz11_3 := fC BK662 3))
    go_meet
    case rel => exact ⟨_, (decide ((l2_3.length : Int) > 8)), (by first | rfl | (simp; done) | (simp [*]; done)), H', ⟨by first | omega | exact Nat.le_refl _⟩, ⟨by refine kP ?_; exact BK662.1⟩, ⟨bS HB.1⟩⟩
   ·
    replace c10 := Bool.eq_false_iff.mpr c10
    subst c10
    have H1 : (tegulalaw35_AllocValues.j0 k a0 l1 true a2_0 a2_1 a2_2 l2_3) = some r := by rw [if_neg (show ¬ (false = true) by decide)] at H; exact H
    clear H
    have H := H1
    clear H1
    have H' := Aside0.mk H
    clear H
    go_wp2_with (first | ((with_reducible refine gC 20 ?_); refine gL 16 Try.func20 #[.slice A1 l1.length c1] ?_; (with_reducible refine (tegulalaw35_few.calls k _ _ l1 false _ ?side1 ?side2 A9.1).mono ?_); (case side1 => exact cU (Kd.C_below HR1.1 HB.1)); (case side2 => exact HC1.1); rintro e w' ⟨rfl, ⟨nd, rfl⟩⟩; refine ⟨_, rfl, ?_⟩))
    go_meet
    case rel => exact ⟨_, (true), (by first | rfl | (simp; done) | (simp [*]; done)), H', ⟨by first | omega | exact Nat.le_refl _⟩, ⟨by refine kP ?_; exact BK662.1⟩, ⟨bS HB.1⟩⟩
  case rest =>
   clear HC6
   try clear c1
   try clear c2
   try clear p2
   try clear c5
   try clear c8
   try clear c10
   try clear hcz11_0
   try clear hcz11_1
   try clear hcz11_2
   try clear hcz11_3
   try clear hfz11_0
   try clear hfz11_1
   try clear hfz11_2
   try clear hfz11_3
   obtain ⟨kq, x23_5, rfl, HA, HJ5, BK662, HB⟩ := hcut
   cases kq with
   | zero => exact absurd HA.1 (by simp [tegulalaw35_AllocValues.j0])
   | succ kj5 =>
    have H := HA.1
    clear HA
    simp only [tegulalaw35_AllocValues.j0] at H
    by_cases c12 : x23_5 = true
    ·
     subst c12
     have H1 : (some true) = some r := by rw [if_pos rfl] at H; exact H
     clear H
     have H := H1
     clear H1
     obtain rfl := Option.some.inj H
     go_wp2
     go_ret
     exact ⟨fT, bS HB.1⟩
    ·
     replace c12 := Bool.eq_false_iff.mpr c12
     subst c12
     have H1 : ((tegulalaw35_build.f kj5 a0 l1).bind fun bt665 => ((tegulalaw35_step.f kj5 bt665.1 bt665.2.1 bt665.2.2.1 a2_0 a2_1 a2_2 l2_3).bind fun bt674 => ((tegulalaw35_step.f kj5 bt674.1 bt674.2.1 bt674.2.2.1 a2_0 a2_1 a2_2 l2_3).bind fun bt683 => (if bt665.2.2.2 = true then (if bt674.2.2.2 = true then ((tegulalaw35_same.f kj5 bt665.1 bt665.2.1 bt665.2.2.1).bind fun t691 => (if t691 = true then ((tegulalaw35_same.f kj5 bt674.1 bt674.2.1 bt674.2.2.1).bind fun t692 => (some t692)) else (some false))) else (some false)) else (some false))))) = some r := by rw [if_neg (show ¬ (false = true) by decide)] at H; exact H
     clear H
     have H := H1
     clear H1
     replace H := Option.bind_eq_some_iff.mp H
     obtain ⟨⟨t665, t666, t669, t672⟩, A130, H⟩ := H
     replace H : ((tegulalaw35_step.f kj5 t665 t666 t669 a2_0 a2_1 a2_2 l2_3).bind fun bt674 => ((tegulalaw35_step.f kj5 bt674.1 bt674.2.1 bt674.2.2.1 a2_0 a2_1 a2_2 l2_3).bind fun bt683 => (if t672 = true then (if bt674.2.2.2 = true then ((tegulalaw35_same.f kj5 t665 t666 t669).bind fun t691 => (if t691 = true then ((tegulalaw35_same.f kj5 bt674.1 bt674.2.1 bt674.2.2.1).bind fun t692 => (some t692)) else (some false))) else (some false)) else (some false)))) = some r := H
     have A13 := Aside0.mk A130
     clear A130
     replace H := Option.bind_eq_some_iff.mp H
     obtain ⟨⟨t674, t675, t678, t681⟩, A140, H⟩ := H
     replace H : ((tegulalaw35_step.f kj5 t674 t675 t678 a2_0 a2_1 a2_2 l2_3).bind fun bt683 => (if t672 = true then (if t681 = true then ((tegulalaw35_same.f kj5 t665 t666 t669).bind fun t691 => (if t691 = true then ((tegulalaw35_same.f kj5 t674 t675 t678).bind fun t692 => (some t692)) else (some false))) else (some false)) else (some false))) = some r := H
     have A14 := Aside0.mk A140
     clear A140
     replace H := Option.bind_eq_some_iff.mp H
     obtain ⟨⟨t683, t684, t687, t690⟩, A150, H⟩ := H
     replace H : (if t672 = true then (if t681 = true then ((tegulalaw35_same.f kj5 t665 t666 t669).bind fun t691 => (if t691 = true then ((tegulalaw35_same.f kj5 t674 t675 t678).bind fun t692 => (some t692)) else (some false))) else (some false)) else (some false)) = some r := H
     have A15 := Aside0.mk A150
     clear A150
     by_cases c16 : t672 = true
     ·
      subst c16
      have H1 : (if t681 = true then ((tegulalaw35_same.f kj5 t665 t666 t669).bind fun t691 => (if t691 = true then ((tegulalaw35_same.f kj5 t674 t675 t678).bind fun t692 => (some t692)) else (some false))) else (some false)) = some r := by rw [if_pos rfl] at H; exact H
      clear H
      have H := H1
      clear H1
      by_cases c17 : t681 = true
      ·
       subst c17
       have H1 : ((tegulalaw35_same.f kj5 t665 t666 t669).bind fun t691 => (if t691 = true then ((tegulalaw35_same.f kj5 t674 t675 t678).bind fun t692 => (some t692)) else (some false))) = some r := by rw [if_pos rfl] at H; exact H
       clear H
       have H := H1
       clear H1
       replace H := Option.bind_eq_some_iff.mp H
       obtain ⟨t691, A180, H⟩ := H
       replace H : (if t691 = true then ((tegulalaw35_same.f kj5 t674 t675 t678).bind fun t692 => (some t692)) else (some false)) = some r := H
       have A18 := Aside0.mk A180
       clear A180
       by_cases c19 : t691 = true
       ·
        subst c19
        have H1 : ((tegulalaw35_same.f kj5 t674 t675 t678).bind fun t692 => (some t692)) = some r := by rw [if_pos rfl] at H; exact H
        clear H
        have H := H1
        clear H1
        replace H := Option.bind_eq_some_iff.mp H
        obtain ⟨t692, A200, H⟩ := H
        replace H : (some t692) = some r := H
        have A20 := Aside0.mk A200
        clear A200
        obtain rfl := Option.some.inj H
        go_wp2_with (first | ((with_reducible refine gC 21 ?_); refine gL 27 Try.func21 #[.int .u8 a0, .slice A1 l1.length c1] ?_; (with_reducible refine (tegulalaw35_build.calls kj5 a0 _ _ l1 t665 t666 t669 true _ ?side1 ?side2 A13.1).mono ?_); (case side1 => exact cU (Kd.C_below HR1.1 HB.1)); (case side2 => exact HC1.1); rintro e w21 ⟨v667, v670, rfl, ho0, ho1, hb⟩; refine ⟨_, rfl, ?_⟩; have HO668 := Aa (Kd.V_lower (Kd.V_mono (ok' := fun k_ => k_ ≠ gb662) ho0 (fun k_ hk_ => (Kd.freshB (g := gb662) (o := .cells #[.int .u8 a2_0, .int .u8 a2_1, .int .u8 a2_2, .slice A2_3 l2_3.length c2_3] 57 (0, 0)) (kU BK662.1) k_ hk_))) (below_size (bS HB.1))); have HO671 := Aa (Kd.V_lower (Kd.V_mono (ok' := fun k_ => k_ ≠ gb662) ho1 (fun k_ hk_ => (Kd.freshB (g := gb662) (o := .cells #[.int .u8 a2_0, .int .u8 a2_1, .int .u8 a2_2, .slice A2_3 l2_3.length c2_3] 57 (0, 0)) (kU BK662.1) k_ hk_))) (below_size (bS HB.1))); replace BK662 := kB BK662 hb; replace HB := sB HB hb; (try clear hb); (try clear hk); (try clear ho0); (try clear ho1)) | ((with_reducible refine gD 7 ?_); (try (refine gate_guard (by rfl) ?_; dsimp only)); refine bE #[.int .i64 0, .slice none 0 0] 26 ?_; intro gb673 hg w22 hbox hb; replace HO668 := vG HO668 hg hb; replace HO671 := vG HO671 hg hb; have BK673 := Aa (hbox); have GW673 := gS HB hg; have GE673 := gS HB hg; have iE673 := Nonempty.intro GE673.1; replace HB := sB HB hb; have NB662_673 := nL BK662 hg; have NB673_662 := nG BK662 hg; replace BK662 := kB BK662 hb; clear hb hbox hg; have hnb23 := NB673_662.1; have hnc23 := NB662_673.1; have hcz24_0 : w22.cell? ⟨gb673, 0, none⟩ = some (.int .i64 0) := cC BK673 0; have hcz24_1 : w22.cell? ⟨gb673, 1, none⟩ = some (.slice none 0 0) := cC BK673 1; have hfz24_0 := fC BK673 0; have hfz24_1 := fC BK673 1; obtain ⟨Ao25, co25, eo25⟩ := Kd.V_slice HO668.1; subst eo25) | ((with_reducible refine gT 26 7 ?_); refine sE ((w22.setCell ⟨gb673, 0, none⟩ (.int .i64 t665)).setCell ⟨gb673, 1, none⟩ (.slice Ao25 t666.length co25)) ?_; intro w26 hw; have n0_ : Aside0 (Kd.V k53 53 w26 w.heap.size (fun k_ => k_ ≠ gb662 ∧ k_ ≠ gb673) (.slice Ao25 t666.length co25) t666) := ⟨(by rw [hw]; exact (vU (Kd.V_mono (Kd.V_far (p := ⟨gb673, 1, none⟩) (Kd.V_far (p := ⟨gb673, 0, none⟩) (Kd.V_mono HO668.1 (fun k_ hk => (⟨hk, hk.2⟩ : _ ∧ k_ ≠ gb673))) (fun _ hk => hk.2) (.int .i64 t665)) (fun _ hk => hk.2) (.slice Ao25 t666.length co25)) (fun _ hk => ⟨hk.1.1, hk.1.2⟩))))⟩; have n1_ : Aside0 (Kd.V Kd.bool 4 w26 w.heap.size (fun k_ => k_ ≠ gb662 ∧ k_ ≠ gb673) v670 t669) := ⟨(by rw [hw]; exact (vU (Kd.V_mono (Kd.V_far (p := ⟨gb673, 1, none⟩) (Kd.V_far (p := ⟨gb673, 0, none⟩) (Kd.V_mono HO671.1 (fun k_ hk => (⟨hk, hk.2⟩ : _ ∧ k_ ≠ gb673))) (fun _ hk => hk.2) (.int .i64 t665)) (fun _ hk => hk.2) (.slice Ao25 t666.length co25)) (fun _ hk => ⟨hk.1.1, hk.1.2⟩))))⟩; have n2_ : Aside0 (w26.heap[gb662]? = some (.cells #[.int .u8 a2_0, .int .u8 a2_1, .int .u8 a2_2, .slice A2_3 l2_3.length c2_3] 57 (0, 0))) := ⟨(by rw [hw]; exact (by refine kP ?_; refine blk_far ?_ NB662_673.1 _; refine kP ?_; refine blk_far ?_ NB662_673.1 _; refine kP ?_; exact BK662.1))⟩; have n3_ : Aside0 (w26.heap[gb673]? = some (.cells #[.int .i64 t665, .slice Ao25 t666.length co25] 26 (0, 0))) := ⟨(by rw [hw]; exact (by refine kP ?_; refine blk_put (cs := #[.int .i64 t665, .slice none 0 0]) ?_ 1 _ rfl; refine kP ?_; refine blk_put (cs := #[.int .i64 0, .slice none 0 0]) ?_ 0 _ rfl; refine kP ?_; exact BK673.1))⟩; have n4_ : Aside0 (Below w.heap.size w w26) := ⟨(by rw [hw]; exact (bS HB.1))⟩; clear hw; clear HO668; clear HO671; clear BK662; clear BK673; clear HB; have HO668 := n0_; have HO671 := n1_; have BK662 := n2_; have BK673 := n3_; have HB := n4_; clear n0_ n1_ n2_ n3_ n4_; have hcz27_0 : w26.cell? ⟨gb673, 0, none⟩ = some (.int .i64 t665) := cC BK673 0; have hcz27_1 : w26.cell? ⟨gb673, 1, none⟩ = some (.slice Ao25 t666.length co25) := cC BK673 1; have hfz27_0 := fC BK673 0; have hfz27_1 := fC BK673 1; have hcz28_0 : w26.cell? ⟨gb662, 0, none⟩ = some (.int .u8 a2_0) := cC BK662 0; have hcz28_1 : w26.cell? ⟨gb662, 1, none⟩ = some (.int .u8 a2_1) := cC BK662 1; have hcz28_2 : w26.cell? ⟨gb662, 2, none⟩ = some (.int .u8 a2_2) := cC BK662 2; have hcz28_3 : w26.cell? ⟨gb662, 3, none⟩ = some (.slice A2_3 l2_3.length c2_3) := cC BK662 3; have hfz28_0 := fC BK662 0; have hfz28_1 := fC BK662 1; have hfz28_2 := fC BK662 2; have hfz28_3 := fC BK662 3; obtain ⟨Ao29, co29, eo29⟩ := Kd.V_slice HO671.1; subst eo29) | ((with_reducible refine gC 26 ?_); refine gL 35 Try.func26 #[.agg #[.int .i64 t665, .slice Ao25 t666.length co25], .slice Ao29 t669.length co29, .agg #[.int .u8 a2_0, .int .u8 a2_1, .int .u8 a2_2, .slice A2_3 l2_3.length c2_3]] ?_; (with_reducible refine (tegulalaw35_step.calls kj5 t665 (fun k_ => (k_ ≠ gb662 ∧ k_ ≠ gb673)) _ _ t666 (fun k_ => (k_ ≠ gb662 ∧ k_ ≠ gb673)) _ _ t669 a2_0 a2_1 a2_2 _ _ l2_3 t674 t675 t678 true _ ?side1 ?side2 ?side3 ?side4 A14.1).mono ?_); (case side1 => exact HO668.1); (case side2 => exact HO671.1); (case side3 => exact cU (Kd.C_below HR2_3.1 HB.1)); (case side4 => exact HC2_3.1); rintro e w30 ⟨v676, v679, rfl, ho0, ho1, hb⟩; refine ⟨_, rfl, ?_⟩; replace HO668 := vB HO668 hb; replace HO671 := vB HO671 hb; have HO677 := Aa (Kd.V_lower (Kd.V_mono (ok' := fun k_ => k_ ≠ gb662 ∧ k_ ≠ gb673) ho0 (fun k_ hk_ => ⟨Or.elim hk_ (fun hs_ => Or.elim hs_ (fun hs_ => hs_.1) (fun hs_ => hs_.1)) (fun hn_ => (Kd.freshB (g := gb662) (o := .cells #[.int .u8 a2_0, .int .u8 a2_1, .int .u8 a2_2, .slice A2_3 l2_3.length c2_3] 57 (0, 0)) (kU BK662.1) k_ hn_)), Or.elim hk_ (fun hs_ => Or.elim hs_ (fun hs_ => hs_.2) (fun hs_ => hs_.2)) (fun hn_ => (Kd.freshB (g := gb673) (o := .cells #[.int .i64 t665, .slice Ao25 t666.length co25] 26 (0, 0)) (kU BK673.1) k_ hn_))⟩)) (below_size (bS HB.1))); have HO680 := Aa (Kd.V_lower (Kd.V_mono (ok' := fun k_ => k_ ≠ gb662 ∧ k_ ≠ gb673) ho1 (fun k_ hk_ => ⟨Or.elim hk_ (fun hs_ => Or.elim hs_ (fun hs_ => hs_.1) (fun hs_ => hs_.1)) (fun hn_ => (Kd.freshB (g := gb662) (o := .cells #[.int .u8 a2_0, .int .u8 a2_1, .int .u8 a2_2, .slice A2_3 l2_3.length c2_3] 57 (0, 0)) (kU BK662.1) k_ hn_)), Or.elim hk_ (fun hs_ => Or.elim hs_ (fun hs_ => hs_.2) (fun hs_ => hs_.2)) (fun hn_ => (Kd.freshB (g := gb673) (o := .cells #[.int .i64 t665, .slice Ao25 t666.length co25] 26 (0, 0)) (kU BK673.1) k_ hn_))⟩)) (below_size (bS HB.1))); replace BK662 := kB BK662 hb; replace BK673 := kB BK673 hb; replace HB := sB HB hb; (try clear hb); (try clear hk); (try clear ho0); (try clear ho1)) | ((with_reducible refine gD 10 ?_); (try (refine gate_guard (by rfl) ?_; dsimp only)); refine bE #[.int .i64 0, .slice none 0 0] 26 ?_; intro gb682 hg w31 hbox hb; replace HO668 := vG HO668 hg hb; replace HO671 := vG HO671 hg hb; replace HO677 := vG HO677 hg hb; replace HO680 := vG HO680 hg hb; have BK682 := Aa (hbox); have GW682 := gS HB hg; have GE682 := gS HB hg; have iE682 := Nonempty.intro GE682.1; replace HB := sB HB hb; have NB662_682 := nL BK662 hg; have NB682_662 := nG BK662 hg; replace BK662 := kB BK662 hb; have NB673_682 := nL BK673 hg; have NB682_673 := nG BK673 hg; replace BK673 := kB BK673 hb; clear hb hbox hg; have hnb32 := NB682_662.1; have hnc32 := NB662_682.1; have hnb33 := NB682_673.1; have hnc33 := NB673_682.1; have hcz34_0 : w31.cell? ⟨gb682, 0, none⟩ = some (.int .i64 0) := cC BK682 0; have hcz34_1 : w31.cell? ⟨gb682, 1, none⟩ = some (.slice none 0 0) := cC BK682 1; have hfz34_0 := fC BK682 0; have hfz34_1 := fC BK682 1; obtain ⟨Ao35, co35, eo35⟩ := Kd.V_slice HO677.1; subst eo35) | ((with_reducible refine gT 26 10 ?_); refine sE ((w31.setCell ⟨gb682, 0, none⟩ (.int .i64 t674)).setCell ⟨gb682, 1, none⟩ (.slice Ao35 t675.length co35)) ?_; intro w36 hw; have n0_ : Aside0 (Kd.V k53 53 w36 w.heap.size (fun k_ => k_ ≠ gb662 ∧ k_ ≠ gb673 ∧ k_ ≠ gb682) (.slice Ao25 t666.length co25) t666) := ⟨(by rw [hw]; exact (vU (Kd.V_mono (Kd.V_far (p := ⟨gb682, 1, none⟩) (Kd.V_far (p := ⟨gb682, 0, none⟩) (Kd.V_mono HO668.1 (fun k_ hk => (⟨hk, hk.2⟩ : _ ∧ k_ ≠ gb682))) (fun _ hk => hk.2) (.int .i64 t674)) (fun _ hk => hk.2) (.slice Ao35 t675.length co35)) (fun _ hk => ⟨hk.1.1.1, ⟨hk.1.1.2, hk.1.2⟩⟩))))⟩; have n1_ : Aside0 (Kd.V Kd.bool 4 w36 w.heap.size (fun k_ => k_ ≠ gb662 ∧ k_ ≠ gb673 ∧ k_ ≠ gb682) (.slice Ao29 t669.length co29) t669) := ⟨(by rw [hw]; exact (vU (Kd.V_mono (Kd.V_far (p := ⟨gb682, 1, none⟩) (Kd.V_far (p := ⟨gb682, 0, none⟩) (Kd.V_mono HO671.1 (fun k_ hk => (⟨hk, hk.2⟩ : _ ∧ k_ ≠ gb682))) (fun _ hk => hk.2) (.int .i64 t674)) (fun _ hk => hk.2) (.slice Ao35 t675.length co35)) (fun _ hk => ⟨hk.1.1.1, ⟨hk.1.1.2, hk.1.2⟩⟩))))⟩; have n2_ : Aside0 (Kd.V k53 53 w36 w.heap.size (fun k_ => k_ ≠ gb662 ∧ k_ ≠ gb673 ∧ k_ ≠ gb682) (.slice Ao35 t675.length co35) t675) := ⟨(by rw [hw]; exact (vU (Kd.V_mono (Kd.V_far (p := ⟨gb682, 1, none⟩) (Kd.V_far (p := ⟨gb682, 0, none⟩) (Kd.V_mono HO677.1 (fun k_ hk => (⟨hk, hk.2⟩ : _ ∧ k_ ≠ gb682))) (fun _ hk => hk.2) (.int .i64 t674)) (fun _ hk => hk.2) (.slice Ao35 t675.length co35)) (fun _ hk => ⟨hk.1.1.1, ⟨hk.1.1.2, hk.1.2⟩⟩))))⟩; have n3_ : Aside0 (Kd.V Kd.bool 4 w36 w.heap.size (fun k_ => k_ ≠ gb662 ∧ k_ ≠ gb673 ∧ k_ ≠ gb682) v679 t678) := ⟨(by rw [hw]; exact (vU (Kd.V_mono (Kd.V_far (p := ⟨gb682, 1, none⟩) (Kd.V_far (p := ⟨gb682, 0, none⟩) (Kd.V_mono HO680.1 (fun k_ hk => (⟨hk, hk.2⟩ : _ ∧ k_ ≠ gb682))) (fun _ hk => hk.2) (.int .i64 t674)) (fun _ hk => hk.2) (.slice Ao35 t675.length co35)) (fun _ hk => ⟨hk.1.1.1, ⟨hk.1.1.2, hk.1.2⟩⟩))))⟩; have n4_ : Aside0 (w36.heap[gb662]? = some (.cells #[.int .u8 a2_0, .int .u8 a2_1, .int .u8 a2_2, .slice A2_3 l2_3.length c2_3] 57 (0, 0))) := ⟨(by rw [hw]; exact (by refine kP ?_; refine blk_far ?_ NB662_682.1 _; refine kP ?_; refine blk_far ?_ NB662_682.1 _; refine kP ?_; exact BK662.1))⟩; have n5_ : Aside0 (w36.heap[gb673]? = some (.cells #[.int .i64 t665, .slice Ao25 t666.length co25] 26 (0, 0))) := ⟨(by rw [hw]; exact (by refine kP ?_; refine blk_far ?_ NB673_682.1 _; refine kP ?_; refine blk_far ?_ NB673_682.1 _; refine kP ?_; exact BK673.1))⟩; have n6_ : Aside0 (w36.heap[gb682]? = some (.cells #[.int .i64 t674, .slice Ao35 t675.length co35] 26 (0, 0))) := ⟨(by rw [hw]; exact (by refine kP ?_; refine blk_put (cs := #[.int .i64 t674, .slice none 0 0]) ?_ 1 _ rfl; refine kP ?_; refine blk_put (cs := #[.int .i64 0, .slice none 0 0]) ?_ 0 _ rfl; refine kP ?_; exact BK682.1))⟩; have n7_ : Aside0 (Below w.heap.size w w36) := ⟨(by rw [hw]; exact (bS HB.1))⟩; clear hw; clear HO668; clear HO671; clear HO677; clear HO680; clear BK662; clear BK673; clear BK682; clear HB; have HO668 := n0_; have HO671 := n1_; have HO677 := n2_; have HO680 := n3_; have BK662 := n4_; have BK673 := n5_; have BK682 := n6_; have HB := n7_; clear n0_ n1_ n2_ n3_ n4_ n5_ n6_ n7_; have hcz37_0 : w36.cell? ⟨gb682, 0, none⟩ = some (.int .i64 t674) := cC BK682 0; have hcz37_1 : w36.cell? ⟨gb682, 1, none⟩ = some (.slice Ao35 t675.length co35) := cC BK682 1; have hfz37_0 := fC BK682 0; have hfz37_1 := fC BK682 1; have hcz38_0 : w36.cell? ⟨gb662, 0, none⟩ = some (.int .u8 a2_0) := cC BK662 0; have hcz38_1 : w36.cell? ⟨gb662, 1, none⟩ = some (.int .u8 a2_1) := cC BK662 1; have hcz38_2 : w36.cell? ⟨gb662, 2, none⟩ = some (.int .u8 a2_2) := cC BK662 2; have hcz38_3 : w36.cell? ⟨gb662, 3, none⟩ = some (.slice A2_3 l2_3.length c2_3) := cC BK662 3; have hfz38_0 := fC BK662 0; have hfz38_1 := fC BK662 1; have hfz38_2 := fC BK662 2; have hfz38_3 := fC BK662 3; obtain ⟨Ao39, co39, eo39⟩ := Kd.V_slice HO680.1; subst eo39) | ((with_reducible refine gC 26 ?_); refine gL 42 Try.func26 #[.agg #[.int .i64 t674, .slice Ao35 t675.length co35], .slice Ao39 t678.length co39, .agg #[.int .u8 a2_0, .int .u8 a2_1, .int .u8 a2_2, .slice A2_3 l2_3.length c2_3]] ?_; (with_reducible refine (tegulalaw35_step.calls kj5 t674 (fun k_ => (k_ ≠ gb662 ∧ (k_ ≠ gb673 ∧ k_ ≠ gb682))) _ _ t675 (fun k_ => (k_ ≠ gb662 ∧ (k_ ≠ gb673 ∧ k_ ≠ gb682))) _ _ t678 a2_0 a2_1 a2_2 _ _ l2_3 t683 t684 t687 t690 _ ?side1 ?side2 ?side3 ?side4 A15.1).mono ?_); (case side1 => exact HO677.1); (case side2 => exact HO680.1); (case side3 => exact cU (Kd.C_below HR2_3.1 HB.1)); (case side4 => exact HC2_3.1); rintro e w40 ⟨v685, v688, rfl, ho0, ho1, hb⟩; refine ⟨_, rfl, ?_⟩; replace HO668 := vB HO668 hb; replace HO671 := vB HO671 hb; replace HO677 := vB HO677 hb; replace HO680 := vB HO680 hb; have HO686 := Aa (Kd.V_lower (Kd.V_mono (ok' := fun k_ => k_ ≠ gb662 ∧ k_ ≠ gb673 ∧ k_ ≠ gb682) ho0 (fun k_ hk_ => ⟨Or.elim hk_ (fun hs_ => Or.elim hs_ (fun hs_ => hs_.1) (fun hs_ => hs_.1)) (fun hn_ => (Kd.freshB (g := gb662) (o := .cells #[.int .u8 a2_0, .int .u8 a2_1, .int .u8 a2_2, .slice A2_3 l2_3.length c2_3] 57 (0, 0)) (kU BK662.1) k_ hn_)), Or.elim hk_ (fun hs_ => Or.elim hs_ (fun hs_ => hs_.2.1) (fun hs_ => hs_.2.1)) (fun hn_ => (Kd.freshB (g := gb673) (o := .cells #[.int .i64 t665, .slice Ao25 t666.length co25] 26 (0, 0)) (kU BK673.1) k_ hn_)), Or.elim hk_ (fun hs_ => Or.elim hs_ (fun hs_ => hs_.2.2) (fun hs_ => hs_.2.2)) (fun hn_ => (Kd.freshB (g := gb682) (o := .cells #[.int .i64 t674, .slice Ao35 t675.length co35] 26 (0, 0)) (kU BK682.1) k_ hn_))⟩)) (below_size (bS HB.1))); have HO689 := Aa (Kd.V_lower (Kd.V_mono (ok' := fun k_ => k_ ≠ gb662 ∧ k_ ≠ gb673 ∧ k_ ≠ gb682) ho1 (fun k_ hk_ => ⟨Or.elim hk_ (fun hs_ => Or.elim hs_ (fun hs_ => hs_.1) (fun hs_ => hs_.1)) (fun hn_ => (Kd.freshB (g := gb662) (o := .cells #[.int .u8 a2_0, .int .u8 a2_1, .int .u8 a2_2, .slice A2_3 l2_3.length c2_3] 57 (0, 0)) (kU BK662.1) k_ hn_)), Or.elim hk_ (fun hs_ => Or.elim hs_ (fun hs_ => hs_.2.1) (fun hs_ => hs_.2.1)) (fun hn_ => (Kd.freshB (g := gb673) (o := .cells #[.int .i64 t665, .slice Ao25 t666.length co25] 26 (0, 0)) (kU BK673.1) k_ hn_)), Or.elim hk_ (fun hs_ => Or.elim hs_ (fun hs_ => hs_.2.2) (fun hs_ => hs_.2.2)) (fun hn_ => (Kd.freshB (g := gb682) (o := .cells #[.int .i64 t674, .slice Ao35 t675.length co35] 26 (0, 0)) (kU BK682.1) k_ hn_))⟩)) (below_size (bS HB.1))); replace BK662 := kB BK662 hb; replace BK673 := kB BK673 hb; replace BK682 := kB BK682 hb; replace HB := sB HB hb; (try clear hb); (try clear hk); (try clear ho0); (try clear ho1); have hcz41_0 : w40.cell? ⟨gb673, 0, none⟩ = some (.int .i64 t665) := cC BK673 0; have hcz41_1 : w40.cell? ⟨gb673, 1, none⟩ = some (.slice Ao25 t666.length co25) := cC BK673 1; have hfz41_0 := fC BK673 0; have hfz41_1 := fC BK673 1) | (go_at_call 24; (with_reducible refine (tegulalaw35_same.calls kj5 t665 _ _ t666 _ _ t669 true _ ?side1 ?side2 ?side3 ?side4 A18.1).mono ?_); (case side1 => repeat (first | exact (Kd.V_reads' HO668.1).2.2 | (with_reducible refine Kd.C_alloc ?_ _) | (with_reducible refine Kd.C_drewN ?_ _) | (with_reducible refine Kd.C_drew ?_))); (case side2 => exact (Kd.V_reads' HO668.1).2.1); (case side3 => repeat (first | exact (Kd.V_reads' HO671.1).2.2 | (with_reducible refine Kd.C_alloc ?_ _) | (with_reducible refine Kd.C_drewN ?_ _) | (with_reducible refine Kd.C_drew ?_))); (case side4 => exact (Kd.V_reads' HO671.1).2.1); rintro e w42 ⟨rfl, hb⟩; replace HO668 := vB HO668 hb; replace HO671 := vB HO671 hb; replace HO677 := vB HO677 hb; replace HO680 := vB HO680 hb; replace HO686 := vB HO686 hb; replace HO689 := vB HO689 hb; replace BK662 := kB BK662 hb; replace BK673 := kB BK673 hb; replace BK682 := kB BK682 hb; replace HB := sB HB hb; (try clear hb); (try clear hk); have hcz43_0 : w42.cell? ⟨gb682, 0, none⟩ = some (.int .i64 t674) := cC BK682 0; have hcz43_1 : w42.cell? ⟨gb682, 1, none⟩ = some (.slice Ao35 t675.length co35) := cC BK682 1; have hfz43_0 := fC BK682 0; have hfz43_1 := fC BK682 1) | (go_at_call 24; (with_reducible refine (tegulalaw35_same.calls kj5 t674 _ _ t675 _ _ t678 t692 _ ?side1 ?side2 ?side3 ?side4 A20.1).mono ?_); (case side1 => repeat (first | exact (Kd.V_reads' HO677.1).2.2 | (with_reducible refine Kd.C_alloc ?_ _) | (with_reducible refine Kd.C_drewN ?_ _) | (with_reducible refine Kd.C_drew ?_))); (case side2 => exact (Kd.V_reads' HO677.1).2.1); (case side3 => repeat (first | exact (Kd.V_reads' HO680.1).2.2 | (with_reducible refine Kd.C_alloc ?_ _) | (with_reducible refine Kd.C_drewN ?_ _) | (with_reducible refine Kd.C_drew ?_))); (case side4 => exact (Kd.V_reads' HO680.1).2.1); rintro e w44 ⟨rfl, hb⟩; replace HO668 := vB HO668 hb; replace HO671 := vB HO671 hb; replace HO677 := vB HO677 hb; replace HO680 := vB HO680 hb; replace HO686 := vB HO686 hb; replace HO689 := vB HO689 hb; replace BK662 := kB BK662 hb; replace BK673 := kB BK673 hb; replace BK682 := kB BK682 hb; replace HB := sB HB hb; (try clear hb); (try clear hk)))
        go_ret
        exact ⟨fT, bS HB.1⟩
       ·
        replace c19 := Bool.eq_false_iff.mpr c19
        subst c19
        have H1 : (some false) = some r := by rw [if_neg (show ¬ (false = true) by decide)] at H; exact H
        clear H
        have H := H1
        clear H1
        obtain rfl := Option.some.inj H
        exact Bool.noConfusion h0_.1
      ·
       replace c17 := Bool.eq_false_iff.mpr c17
       subst c17
       have H1 : (some false) = some r := by rw [if_neg (show ¬ (false = true) by decide)] at H; exact H
       clear H
       have H := H1
       clear H1
       obtain rfl := Option.some.inj H
       exact Bool.noConfusion h0_.1
     ·
      replace c16 := Bool.eq_false_iff.mpr c16
      subst c16
      have H1 : (some false) = some r := by rw [if_neg (show ¬ (false = true) by decide)] at H; exact H
      clear H
      have H := H1
      clear H1
      obtain rfl := Option.some.inj H
      exact Bool.noConfusion h0_.1
 ·
  replace c5 := Bool.eq_false_iff.mpr c5
  subst c5
  have H1 : (some false) = some r := by rw [if_neg (show ¬ (false = true) by decide)] at H; exact H
  clear H
  have H := H1
  clear H1
  obtain rfl := Option.some.inj H
  exact Bool.noConfusion h0_.1
end Go.Proofs.Ytcjpikjbjehjeaa.PAllocB
