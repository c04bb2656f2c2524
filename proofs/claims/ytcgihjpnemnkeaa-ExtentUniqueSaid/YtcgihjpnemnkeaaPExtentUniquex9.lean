-- Written for this claim by a program of this session (wip/), out of the translation's own print: Lean checks it
import Derived.Test.YtcgihjpnemnkeaaPExtentUniquex0
import Derived.Test.YtcgihjpnemnkeaaWRepsOne
import Derived.Test.YtcgihjpnemnkeaaWGuard
import Derived.Test.YtcgihjpnemnkeaaPExtentUniquex6
import Derived.Test.YtcgihjpnemnkeaaPExtentUniquex7
import Derived.Test.YtcgihjpnemnkeaaPExtentUniquex8
namespace Go.Proofs.Ytcgihjpnemnkeaa.PExtentUnique
open Go.RowKit Go.Proofs.YtcgihjpnemnkeaaW.PrintWords Go.Proofs.YtcgihjpnemnkeaaW.PrintLast Go.Proofs.YtcgihjpnemnkeaaW.PrintMore
attribute [local go_sem] max2_int min2_int max_two min_two max_three min_three max_four min_four   -- for this text's walks alone
set_option linter.unusedVariables false
set_option linter.unusedSimpArgs false

/-! ### tegulalaw32_ExtentUnique: function 4 -/
mutual
def tegulalaw32_ExtentUnique.j0 : Nat → List (S33) → Int → Int → Bool → Option (Bool)
 | 0, _, _, _, _ => none
 | k + 1, x0, x1, x2, x32 => if x32 = true then (some true) else (if (x0.length : Int) = 0 then (none) else (if 0 ≤ (Int.tmod (wrap64 (x1)) (x0.length : Int)) then (if (Int.tmod (wrap64 (x1)) (x0.length : Int)) < (x0.length : Int) then (if ((rd_T33 x0 (Int.tmod (wrap64 (x1)) (x0.length : Int))).f1) = 0 then (none) else ((extent_Join.f k x0).bind fun bt208 => ((tegulalaw32_copied.f x0).bind fun t212 => (if (wrap64 ((wrap64 (65536 - ((rd_T33 x0 (Int.tmod (wrap64 (x1)) (x0.length : Int))).f1))) + 1)) = 0 then (none) else (if (Int.tmod (wrap64 (x1)) (x0.length : Int)) < (t212.length : Int) then ((extent_Join.f k (t212.set ((Int.tmod (wrap64 (x1)) (x0.length : Int)) : Int).toNat (⟨(rd_T33 t212 (Int.tmod (wrap64 (x1)) (x0.length : Int))).f0, (rd_T33 t212 (Int.tmod (wrap64 (x1)) (x0.length : Int))).f1, Int.tmod (wrap64 (((rd_T33 x0 (Int.tmod (wrap64 (x1)) (x0.length : Int))).f2) + 1)) (wrap64 ((wrap64 (65536 - ((rd_T33 x0 (Int.tmod (wrap64 (x1)) (x0.length : Int))).f1))) + 1))⟩ : S33))).bind fun bt216 => (if bt208.2 = 0 then (if bt216.2 = 0 then (if ((rd_T33 x0 (Int.tmod (wrap64 (x1)) (x0.length : Int))).f1) < 65536 then ((tegularef32_Same.f k bt208.1 bt216.1).bind fun t220 => (tegulalaw32_ExtentUnique.j1 k x0 (Int.tmod (wrap64 (x1)) (x0.length : Int)) (Int.tmod (wrap64 (x2)) ((rd_T33 x0 (Int.tmod (wrap64 (x1)) (x0.length : Int))).f1)) bt208.1 t220 ((rd_T33 x0 (Int.tmod (wrap64 (x1)) (x0.length : Int))).f0) ((rd_T33 x0 (Int.tmod (wrap64 (x1)) (x0.length : Int))).f1) ((rd_T33 x0 (Int.tmod (wrap64 (x1)) (x0.length : Int))).f2))) else (tegulalaw32_ExtentUnique.j1 k x0 (Int.tmod (wrap64 (x1)) (x0.length : Int)) (Int.tmod (wrap64 (x2)) ((rd_T33 x0 (Int.tmod (wrap64 (x1)) (x0.length : Int))).f1)) bt208.1 false ((rd_T33 x0 (Int.tmod (wrap64 (x1)) (x0.length : Int))).f0) ((rd_T33 x0 (Int.tmod (wrap64 (x1)) (x0.length : Int))).f1) ((rd_T33 x0 (Int.tmod (wrap64 (x1)) (x0.length : Int))).f2))) else (tegulalaw32_ExtentUnique.j1 k x0 (Int.tmod (wrap64 (x1)) (x0.length : Int)) (Int.tmod (wrap64 (x2)) ((rd_T33 x0 (Int.tmod (wrap64 (x1)) (x0.length : Int))).f1)) bt208.1 true ((rd_T33 x0 (Int.tmod (wrap64 (x1)) (x0.length : Int))).f0) ((rd_T33 x0 (Int.tmod (wrap64 (x1)) (x0.length : Int))).f1) ((rd_T33 x0 (Int.tmod (wrap64 (x1)) (x0.length : Int))).f2))) else (tegulalaw32_ExtentUnique.j1 k x0 (Int.tmod (wrap64 (x1)) (x0.length : Int)) (Int.tmod (wrap64 (x2)) ((rd_T33 x0 (Int.tmod (wrap64 (x1)) (x0.length : Int))).f1)) bt208.1 true ((rd_T33 x0 (Int.tmod (wrap64 (x1)) (x0.length : Int))).f0) ((rd_T33 x0 (Int.tmod (wrap64 (x1)) (x0.length : Int))).f1) ((rd_T33 x0 (Int.tmod (wrap64 (x1)) (x0.length : Int))).f2)))) else (none)))))) else (none)) else (none)))
def tegulalaw32_ExtentUnique.j1 : Nat → List (S33) → Int → Int → List (S33) → Bool → Int → Int → Int → Option (Bool)
 | 0, _, _, _, _, _, _, _, _ => none
 | k + 1, x0, x7, x9, x10, x86, x208000, x208001, x208002 => if x86 = true then (some false) else (if x9 = 0 then (some true) else (if 0 ≤ x7 then (if x7 ≤ (x0.length : Int) then ((tegulalaw32_copied.f (x0.take (x7 : Int).toNat)).bind fun t225 => ((some (([(⟨x208000, x9, x208002⟩ : S33), (⟨wrap64 (x208000 + x9), wrap64 (x208001 - x9), wrap64 (x208002 + x9)⟩ : S33)] : List (S33)) : List (S33))).bind fun y228 => (if t225.length + y228.length < 5864062014805 then ((some (t225 ++ y228 : List (S33))).bind fun y231 => (if 0 ≤ (wrap64 (x7 + 1)) then (if (wrap64 (x7 + 1)) ≤ (x0.length : Int) then ((some (x0.drop ((wrap64 (x7 + 1)) : Int).toNat : List (S33))).bind fun y234 => (if y231.length + y234.length < 5864062014805 then ((extent_Join.f k (y231 ++ y234)).bind fun bt241 => (if bt241.2 = 0 then ((tegularef32_Same.f k bt241.1 x10).bind fun t245 => (some t245)) else (some false))) else (none))) else (none)) else (none))) else (none)))) else (none)) else (none)))
end
def tegulalaw32_ExtentUnique.f (k : Nat) (l0 : List (S33)) (a1 : Int) (a2 : Int) : Option (Bool) := (tegulalaw32_awake.f k).bind fun t204 => (if t204 = true then (if (l0.length : Int) = 0 then (tegulalaw32_ExtentUnique.j0 k l0 a1 a2 true) else (if (l0.length : Int) > 20 then (tegulalaw32_ExtentUnique.j0 k l0 a1 a2 true) else ((tegularef32_Valid.f k l0).bind fun t205 => (tegulalaw32_ExtentUnique.j0 k l0 a1 a2 (!t205))))) else (some false))
theorem tegulalaw32_ExtentUnique.mono_l : ∀ k, (∀ y0 y1 y2 y3, LeO (tegulalaw32_ExtentUnique.j0 k y0 y1 y2 y3) (tegulalaw32_ExtentUnique.j0 (k + 1) y0 y1 y2 y3)) ∧ (∀ y0 y1 y2 y3 y4 y5 y6 y7, LeO (tegulalaw32_ExtentUnique.j1 k y0 y1 y2 y3 y4 y5 y6 y7) (tegulalaw32_ExtentUnique.j1 (k + 1) y0 y1 y2 y3 y4 y5 y6 y7))
 | 0 => ⟨fun _ _ _ _ r h => by simp [tegulalaw32_ExtentUnique.j0] at h, fun _ _ _ _ _ _ _ _ r h => by simp [tegulalaw32_ExtentUnique.j1] at h⟩
 | k + 1 => by
  obtain ⟨ih0, ih1⟩ := tegulalaw32_ExtentUnique.mono_l k
  refine ⟨?_, ?_⟩
  ·
   intro y0 y1 y2 y3
   unfold tegulalaw32_ExtentUnique.j0
   repeat' first
   | (with_reducible exact ih0 _ _ _ _)
   | (with_reducible exact ih1 _ _ _ _ _ _ _ _)
   | (with_reducible exact extent_Join.mono _ _)
   | (with_reducible exact tegulalaw32_awake.mono _)
   | (with_reducible exact tegularef32_Same.mono _ _ _)
   | (with_reducible exact tegularef32_Valid.mono _ _)
   | (with_reducible exact LeO.refl _)
   | (with_reducible exact LeO.none _)
   | (with_reducible refine LeO.ite ?_ ?_)
   | (with_reducible refine LeO.bind ?_ (fun _ => ?_))
   | exact ih0 _ _ _ _
   | exact ih1 _ _ _ _ _ _ _ _
   | exact extent_Join.mono _ _
   | exact tegulalaw32_awake.mono _
   | exact tegularef32_Same.mono _ _ _
   | exact tegularef32_Valid.mono _ _
   | exact LeO.none _
   | refine LeO.ite ?_ ?_
   | refine LeO.bind ?_ (fun _ => ?_)
  ·
   intro y0 y1 y2 y3 y4 y5 y6 y7
   unfold tegulalaw32_ExtentUnique.j1
   repeat' first
   | (with_reducible exact ih0 _ _ _ _)
   | (with_reducible exact ih1 _ _ _ _ _ _ _ _)
   | (with_reducible exact extent_Join.mono _ _)
   | (with_reducible exact tegulalaw32_awake.mono _)
   | (with_reducible exact tegularef32_Same.mono _ _ _)
   | (with_reducible exact tegularef32_Valid.mono _ _)
   | (with_reducible exact LeO.refl _)
   | (with_reducible exact LeO.none _)
   | (with_reducible refine LeO.ite ?_ ?_)
   | (with_reducible refine LeO.bind ?_ (fun _ => ?_))
   | exact ih0 _ _ _ _
   | exact ih1 _ _ _ _ _ _ _ _
   | exact extent_Join.mono _ _
   | exact tegulalaw32_awake.mono _
   | exact tegularef32_Same.mono _ _ _
   | exact tegularef32_Valid.mono _ _
   | exact LeO.none _
   | refine LeO.ite ?_ ?_
   | refine LeO.bind ?_ (fun _ => ?_)
theorem tegulalaw32_ExtentUnique.mono : ∀ a0 a1 a2 k, LeO (tegulalaw32_ExtentUnique.f k a0 a1 a2) (tegulalaw32_ExtentUnique.f (k + 1) a0 a1 a2) := by
 intro a0 a1 a2 k
 obtain ⟨ih0, ih1⟩ := tegulalaw32_ExtentUnique.mono_l k
 unfold tegulalaw32_ExtentUnique.f
 repeat' first
   | (with_reducible exact ih0 _ _ _ _)
   | (with_reducible exact ih1 _ _ _ _ _ _ _ _)
   | (with_reducible exact extent_Join.mono _ _)
   | (with_reducible exact tegulalaw32_awake.mono _)
   | (with_reducible exact tegularef32_Same.mono _ _ _)
   | (with_reducible exact tegularef32_Valid.mono _ _)
   | (with_reducible exact LeO.refl _)
   | (with_reducible exact LeO.none _)
   | (with_reducible refine LeO.ite ?_ ?_)
   | (with_reducible refine LeO.bind ?_ (fun _ => ?_))
   | exact ih0 _ _ _ _
   | exact ih1 _ _ _ _ _ _ _ _
   | exact extent_Join.mono _ _
   | exact tegulalaw32_awake.mono _
   | exact tegularef32_Same.mono _ _ _
   | exact tegularef32_Valid.mono _ _
   | exact LeO.none _
   | refine LeO.ite ?_ ?_
   | refine LeO.bind ?_ (fun _ => ?_)
set_option maxHeartbeats 8000000 in
set_option maxRecDepth 100000 in
theorem tegulalaw32_ExtentUnique.calls (k : Nat) (A0 : Option Addr) (c0 : Nat) (l0 : List (S33)) (a1 : Int) (a2 : Int) (r : Bool) (w : World) (hr0 : Kd.C k33 w A0 l0.length l0) (hc0 : l0.length ≤ c0) (h : tegulalaw32_ExtentUnique.f k l0 a1 a2 = some r) :
  Calls Try.prog 4 #[.slice A0 l0.length c0, .int .u16 a1, .int .u16 a2] w fun e w' => e = .returned (.bool r) ∧ Below w.heap.size w w' := by
 have hu33 := Try.underlying33
 have HR0 := Aside0.mk hr0
 have HC0 := Aside0.mk hc0
 clear hr0 hc0
 have HB := Aside0.mk (Below.refl w.heap.size w)
 have H : ((tegulalaw32_awake.f k).bind fun t204 => (if t204 = true then (if (l0.length : Int) = 0 then (tegulalaw32_ExtentUnique.j0 k l0 a1 a2 true) else (if (l0.length : Int) > 20 then (tegulalaw32_ExtentUnique.j0 k l0 a1 a2 true) else ((tegularef32_Valid.f k l0).bind fun t205 => (tegulalaw32_ExtentUnique.j0 k l0 a1 a2 (!t205))))) else (some false))) = some r := h
 clear h
 replace H := Option.bind_eq_some_iff.mp H
 obtain ⟨t204, A40, H⟩ := H
 replace H : (if t204 = true then (if (l0.length : Int) = 0 then (tegulalaw32_ExtentUnique.j0 k l0 a1 a2 true) else (if (l0.length : Int) > 20 then (tegulalaw32_ExtentUnique.j0 k l0 a1 a2 true) else ((tegularef32_Valid.f k l0).bind fun t205 => (tegulalaw32_ExtentUnique.j0 k l0 a1 a2 (!t205))))) else (some false)) = some r := H
 have A4 := Aside0.mk A40
 clear A40
 by_cases c5 : t204 = true
 ·
  subst c5
  have H1 : (if (l0.length : Int) = 0 then (tegulalaw32_ExtentUnique.j0 k l0 a1 a2 true) else (if (l0.length : Int) > 20 then (tegulalaw32_ExtentUnique.j0 k l0 a1 a2 true) else ((tegularef32_Valid.f k l0).bind fun t205 => (tegulalaw32_ExtentUnique.j0 k l0 a1 a2 (!t205))))) = some r := by rw [if_pos rfl] at H; exact H
  clear H
  have H := H1
  clear H1
  have HC6 := Aside0.mk H
  clear H
  go_enter Try.func4, Try.ntmps4
  go_upto_region 3 with (first | ((with_reducible refine gate_callee (f := 11) rfl ?_); refine goesL_ (some 18) rfl rfl Try.func11 (by kernel_rfl) rfl #[] rfl (by (try simp only [List.map_toArray, List.map_cons, List.map_nil]); first | done | rfl | (simp only [List.length_drop, List.length_take]; rfl)) ?_; (with_reducible refine (tegulalaw32_awake.calls k  true _ A4.out).mono ?_); rintro e w7 ⟨rfl, hb⟩; refine ⟨_, rfl, ?_⟩; have n0_ := Aside0.mk (below_step (by repeat (first | (with_reducible first | exact HB.out | apply below_alloc | apply pw_below_drewN | apply below_drew1) | exact HB.out)) hb); clear HB; have HB := n0_; clear n0_; (try clear hb); (try clear hb2); (try clear hk); (try clear hi)))
  (try simp only [Act.put, List.setIfInBounds_toArray, List.set_cons_zero, List.set_cons_succ])
  go_cut [32] (fun v32 wc => ∃ (kq : Nat) (x32_5 : Bool), v32 = .bool x32_5 ∧ Aside0 (tegulalaw32_ExtentUnique.j0 kq l0 a1 a2 x32_5 = some r) ∧ Aside0 (kq ≤ k) ∧ Aside0 (Below w.heap.size w wc))
  case first =>
   have H := HC6.out
   clear HC6
   by_cases c8 : (l0.length : Int) = 0
   ·
    rw [if_pos c8] at H
    have c8b0 : ((l0.length : Int) == 0) = true := beq_iff_eq.mpr c8
    have c8b1 : ((l0.length : Int) != 0) = false := bne_eq_false_iff_eq.mpr c8
    clear c8
    (first | rw [c8b0] | (simp only [i64_w, i32_w]; rw [c8b0]) | skip)
    have H' := Aside0.mk H
    clear H
    go_wp2
    go_meet
    case rel => exact ⟨_, (true), (by first | rfl | (simp; done) | (simp [*]; done)), H', ⟨by first | omega | exact Nat.le_refl _⟩, ⟨by repeat (first | (with_reducible first | exact HB.out | apply below_alloc | apply pw_below_drewN | apply below_drew1) | exact HB.out)⟩⟩
   ·
    rw [if_neg c8] at H
    have c8b0 : ((l0.length : Int) == 0) = false := beq_eq_false_iff_ne.mpr c8
    have c8b1 : ((l0.length : Int) != 0) = true := bne_iff_ne.mpr c8
    have c8b2 : ¬ (l0 = []) := fun h_ => c8 (by rw [h_]; rfl)
    (first | rw [c8b0] | (simp only [i64_w, i32_w]; rw [c8b0]) | skip)
    by_cases c9 : (l0.length : Int) > 20
    ·
     rw [if_pos c9] at H
     have c9b0 : decide (20 < (l0.length : Int)) = true := decide_eq_true c9
     have c9b1 : decide (20 < l0.length) = true := decide_eq_true (by omega)
     clear c9
     have H' := Aside0.mk H
     clear H
     go_wp2
     go_meet
     case rel => exact ⟨_, (true), (by first | rfl | (simp; done) | (simp [*]; done)), H', ⟨by first | omega | exact Nat.le_refl _⟩, ⟨by repeat (first | (with_reducible first | exact HB.out | apply below_alloc | apply pw_below_drewN | apply below_drew1) | exact HB.out)⟩⟩
    ·
     rw [if_neg c9] at H
     have c9b0 : decide (20 < (l0.length : Int)) = false := decide_eq_false c9
     have c9b1 : decide (20 < l0.length) = false := decide_eq_false (by omega)
     clear c9
     replace H := Option.bind_eq_some_iff.mp H
     obtain ⟨t205, A100, H⟩ := H
     replace H : (tegulalaw32_ExtentUnique.j0 k l0 a1 a2 (!t205)) = some r := H
     have A10 := Aside0.mk A100
     clear A100
     have H' := Aside0.mk H
     clear H
     go_wp2_with (first | (go_at_call 16; (with_reducible refine (tegularef32_Valid.calls k _ _ l0 t205 _ ?side1 ?side2 A10.out).mono ?_); (case side1 => repeat (first | exact (Kd.C_below HR0.out HB.out) | (with_reducible refine Kd.C_alloc ?_ _) | (with_reducible refine Kd.C_drewN ?_ _) | (with_reducible refine Kd.C_drew ?_))); (case side2 => exact HC0.out); rintro e w11 ⟨rfl, hb⟩; have n0_ := Aside0.mk (below_step (by repeat (first | (with_reducible first | exact HB.out | apply below_alloc | apply pw_below_drewN | apply below_drew1) | exact HB.out)) hb); clear HB; have HB := n0_; clear n0_; (try clear hb); (try clear hb2); (try clear hk); (try clear hi)))
     go_meet
     case rel => exact ⟨_, (!t205), (by first | rfl | (simp; done) | (simp [*]; done)), H', ⟨by first | omega | exact Nat.le_refl _⟩, ⟨by repeat (first | (with_reducible first | exact HB.out | apply below_alloc | apply pw_below_drewN | apply below_drew1) | exact HB.out)⟩⟩
  case rest =>
   clear HC6
   try clear c1
   try clear p2
   try clear c4
   try clear c5
   try clear c8
   try clear c8b0
   try clear c8b1
   try clear c8b2
   try clear c9
   try clear c9b0
   try clear c9b1
   try clear c11
   obtain ⟨kq, x32_5, rfl, HA, HJ5, HB⟩ := hcut
   cases kq with
   | zero => exact absurd HA.out (by simp [tegulalaw32_ExtentUnique.j0])
   | succ kj5 =>
    have H := HA.out
    clear HA
    simp only [tegulalaw32_ExtentUnique.j0] at H
    by_cases c12 : x32_5 = true
    ·
     subst c12
     have H1 : (some true) = some r := by rw [if_pos rfl] at H; exact H
     clear H
     have H := H1
     clear H1
     obtain rfl := Option.some.inj H
     go_wp2
     go_ret
     exact ⟨by first | rfl | (simp [errW_none, errW_some] <;> rfl) | (simp [*, errW_none, errW_some] <;> rfl), by repeat (first | (with_reducible first | exact HB.out | apply below_alloc | apply pw_below_drewN | apply below_drew1) | exact HB.out)⟩
    ·
     replace c12 := Bool.eq_false_iff.mpr c12
     subst c12
     have H1 : (if (l0.length : Int) = 0 then (none) else (if 0 ≤ (Int.tmod (wrap64 (a1)) (l0.length : Int)) then (if (Int.tmod (wrap64 (a1)) (l0.length : Int)) < (l0.length : Int) then (if ((rd_T33 l0 (Int.tmod (wrap64 (a1)) (l0.length : Int))).f1) = 0 then (none) else ((extent_Join.f kj5 l0).bind fun bt208 => ((tegulalaw32_copied.f l0).bind fun t212 => (if (wrap64 ((wrap64 (65536 - ((rd_T33 l0 (Int.tmod (wrap64 (a1)) (l0.length : Int))).f1))) + 1)) = 0 then (none) else (if (Int.tmod (wrap64 (a1)) (l0.length : Int)) < (t212.length : Int) then ((extent_Join.f kj5 (t212.set ((Int.tmod (wrap64 (a1)) (l0.length : Int)) : Int).toNat (⟨(rd_T33 t212 (Int.tmod (wrap64 (a1)) (l0.length : Int))).f0, (rd_T33 t212 (Int.tmod (wrap64 (a1)) (l0.length : Int))).f1, Int.tmod (wrap64 (((rd_T33 l0 (Int.tmod (wrap64 (a1)) (l0.length : Int))).f2) + 1)) (wrap64 ((wrap64 (65536 - ((rd_T33 l0 (Int.tmod (wrap64 (a1)) (l0.length : Int))).f1))) + 1))⟩ : S33))).bind fun bt216 => (if bt208.2 = 0 then (if bt216.2 = 0 then (if ((rd_T33 l0 (Int.tmod (wrap64 (a1)) (l0.length : Int))).f1) < 65536 then ((tegularef32_Same.f kj5 bt208.1 bt216.1).bind fun t220 => (tegulalaw32_ExtentUnique.j1 kj5 l0 (Int.tmod (wrap64 (a1)) (l0.length : Int)) (Int.tmod (wrap64 (a2)) ((rd_T33 l0 (Int.tmod (wrap64 (a1)) (l0.length : Int))).f1)) bt208.1 t220 ((rd_T33 l0 (Int.tmod (wrap64 (a1)) (l0.length : Int))).f0) ((rd_T33 l0 (Int.tmod (wrap64 (a1)) (l0.length : Int))).f1) ((rd_T33 l0 (Int.tmod (wrap64 (a1)) (l0.length : Int))).f2))) else (tegulalaw32_ExtentUnique.j1 kj5 l0 (Int.tmod (wrap64 (a1)) (l0.length : Int)) (Int.tmod (wrap64 (a2)) ((rd_T33 l0 (Int.tmod (wrap64 (a1)) (l0.length : Int))).f1)) bt208.1 false ((rd_T33 l0 (Int.tmod (wrap64 (a1)) (l0.length : Int))).f0) ((rd_T33 l0 (Int.tmod (wrap64 (a1)) (l0.length : Int))).f1) ((rd_T33 l0 (Int.tmod (wrap64 (a1)) (l0.length : Int))).f2))) else (tegulalaw32_ExtentUnique.j1 kj5 l0 (Int.tmod (wrap64 (a1)) (l0.length : Int)) (Int.tmod (wrap64 (a2)) ((rd_T33 l0 (Int.tmod (wrap64 (a1)) (l0.length : Int))).f1)) bt208.1 true ((rd_T33 l0 (Int.tmod (wrap64 (a1)) (l0.length : Int))).f0) ((rd_T33 l0 (Int.tmod (wrap64 (a1)) (l0.length : Int))).f1) ((rd_T33 l0 (Int.tmod (wrap64 (a1)) (l0.length : Int))).f2))) else (tegulalaw32_ExtentUnique.j1 kj5 l0 (Int.tmod (wrap64 (a1)) (l0.length : Int)) (Int.tmod (wrap64 (a2)) ((rd_T33 l0 (Int.tmod (wrap64 (a1)) (l0.length : Int))).f1)) bt208.1 true ((rd_T33 l0 (Int.tmod (wrap64 (a1)) (l0.length : Int))).f0) ((rd_T33 l0 (Int.tmod (wrap64 (a1)) (l0.length : Int))).f1) ((rd_T33 l0 (Int.tmod (wrap64 (a1)) (l0.length : Int))).f2)))) else (none)))))) else (none)) else (none))) = some r := by rw [if_neg (show ¬ (false = true) by decide)] at H; exact H
     clear H
     have H := H1
     clear H1
     by_cases c13 : (l0.length : Int) = 0
     ·
      rw [if_pos c13] at H
      exact absurd H (by simp)
     ·
      rw [if_neg c13] at H
      have c13b0 : ((l0.length : Int) == 0) = false := beq_eq_false_iff_ne.mpr c13
      have c13b1 : ((l0.length : Int) != 0) = true := bne_iff_ne.mpr c13
      have c13b2 : ¬ (l0 = []) := fun h_ => c13 (by rw [h_]; rfl)
      obtain ⟨ji14, hji14⟩ : ∃ j_ : Int, (Int.tmod (wrap64 (a1)) (l0.length : Int)) = j_ := ⟨_, rfl⟩
      replace H : (if 0 ≤ (ji14) then (if (ji14) < (l0.length : Int) then (if ((rd_T33 l0 (ji14)).f1) = 0 then (none) else ((extent_Join.f kj5 l0).bind fun bt208 => ((tegulalaw32_copied.f l0).bind fun t212 => (if (wrap64 ((wrap64 (65536 - ((rd_T33 l0 (ji14)).f1))) + 1)) = 0 then (none) else (if (ji14) < (t212.length : Int) then ((extent_Join.f kj5 (t212.set ((ji14) : Int).toNat (⟨(rd_T33 t212 (ji14)).f0, (rd_T33 t212 (ji14)).f1, Int.tmod (wrap64 (((rd_T33 l0 (ji14)).f2) + 1)) (wrap64 ((wrap64 (65536 - ((rd_T33 l0 (ji14)).f1))) + 1))⟩ : S33))).bind fun bt216 => (if bt208.2 = 0 then (if bt216.2 = 0 then (if ((rd_T33 l0 (ji14)).f1) < 65536 then ((tegularef32_Same.f kj5 bt208.1 bt216.1).bind fun t220 => (tegulalaw32_ExtentUnique.j1 kj5 l0 ji14 (Int.tmod (wrap64 (a2)) ((rd_T33 l0 (ji14)).f1)) bt208.1 t220 ((rd_T33 l0 (ji14)).f0) ((rd_T33 l0 (ji14)).f1) ((rd_T33 l0 (ji14)).f2))) else (tegulalaw32_ExtentUnique.j1 kj5 l0 ji14 (Int.tmod (wrap64 (a2)) ((rd_T33 l0 (ji14)).f1)) bt208.1 false ((rd_T33 l0 (ji14)).f0) ((rd_T33 l0 (ji14)).f1) ((rd_T33 l0 (ji14)).f2))) else (tegulalaw32_ExtentUnique.j1 kj5 l0 ji14 (Int.tmod (wrap64 (a2)) ((rd_T33 l0 (ji14)).f1)) bt208.1 true ((rd_T33 l0 (ji14)).f0) ((rd_T33 l0 (ji14)).f1) ((rd_T33 l0 (ji14)).f2))) else (tegulalaw32_ExtentUnique.j1 kj5 l0 ji14 (Int.tmod (wrap64 (a2)) ((rd_T33 l0 (ji14)).f1)) bt208.1 true ((rd_T33 l0 (ji14)).f0) ((rd_T33 l0 (ji14)).f1) ((rd_T33 l0 (ji14)).f2)))) else (none)))))) else (none)) else (none)) = some r := by first | (rw [hji14] at H; exact H) | (simp only [hji14] at H ⊢; exact H)
      by_cases c15 : 0 ≤ (ji14)
      ·
       rw [if_pos c15] at H
       have c15b0 : decide (0 ≤ (ji14)) = true := decide_eq_true c15
       clear c15
       by_cases c16 : (ji14) < (l0.length : Int)
       ·
        rw [if_pos c16] at H
        have c16b0 : decide ((ji14) < (l0.length : Int)) = true := decide_eq_true c16
        clear c16
        by_cases c17 : ((rd_T33 l0 (ji14)).f1) = 0
        ·
         rw [if_pos c17] at H
         exact absurd H (by simp)
        ·
         rw [if_neg c17] at H
         have c17b0 : (((rd_T33 l0 (ji14)).f1) == 0) = false := beq_eq_false_iff_ne.mpr c17
         have c17b1 : (((rd_T33 l0 (ji14)).f1) != 0) = true := bne_iff_ne.mpr c17
         replace H := Option.bind_eq_some_iff.mp H
         obtain ⟨⟨t208, t209⟩, A180, H⟩ := H
         replace H : ((tegulalaw32_copied.f l0).bind fun t212 => (if (wrap64 ((wrap64 (65536 - ((rd_T33 l0 (ji14)).f1))) + 1)) = 0 then (none) else (if (ji14) < (t212.length : Int) then ((extent_Join.f kj5 (t212.set ((ji14) : Int).toNat (⟨(rd_T33 t212 (ji14)).f0, (rd_T33 t212 (ji14)).f1, Int.tmod (wrap64 (((rd_T33 l0 (ji14)).f2) + 1)) (wrap64 ((wrap64 (65536 - ((rd_T33 l0 (ji14)).f1))) + 1))⟩ : S33))).bind fun bt216 => (if t209 = 0 then (if bt216.2 = 0 then (if ((rd_T33 l0 (ji14)).f1) < 65536 then ((tegularef32_Same.f kj5 t208 bt216.1).bind fun t220 => (tegulalaw32_ExtentUnique.j1 kj5 l0 ji14 (Int.tmod (wrap64 (a2)) ((rd_T33 l0 (ji14)).f1)) t208 t220 ((rd_T33 l0 (ji14)).f0) ((rd_T33 l0 (ji14)).f1) ((rd_T33 l0 (ji14)).f2))) else (tegulalaw32_ExtentUnique.j1 kj5 l0 ji14 (Int.tmod (wrap64 (a2)) ((rd_T33 l0 (ji14)).f1)) t208 false ((rd_T33 l0 (ji14)).f0) ((rd_T33 l0 (ji14)).f1) ((rd_T33 l0 (ji14)).f2))) else (tegulalaw32_ExtentUnique.j1 kj5 l0 ji14 (Int.tmod (wrap64 (a2)) ((rd_T33 l0 (ji14)).f1)) t208 true ((rd_T33 l0 (ji14)).f0) ((rd_T33 l0 (ji14)).f1) ((rd_T33 l0 (ji14)).f2))) else (tegulalaw32_ExtentUnique.j1 kj5 l0 ji14 (Int.tmod (wrap64 (a2)) ((rd_T33 l0 (ji14)).f1)) t208 true ((rd_T33 l0 (ji14)).f0) ((rd_T33 l0 (ji14)).f1) ((rd_T33 l0 (ji14)).f2)))) else (none)))) = some r := H
         have A18 := Aside0.mk A180
         clear A180
         replace H := Option.bind_eq_some_iff.mp H
         obtain ⟨t212, A190, H⟩ := H
         replace H : (if (wrap64 ((wrap64 (65536 - ((rd_T33 l0 (ji14)).f1))) + 1)) = 0 then (none) else (if (ji14) < (t212.length : Int) then ((extent_Join.f kj5 (t212.set ((ji14) : Int).toNat (⟨(rd_T33 t212 (ji14)).f0, (rd_T33 t212 (ji14)).f1, Int.tmod (wrap64 (((rd_T33 l0 (ji14)).f2) + 1)) (wrap64 ((wrap64 (65536 - ((rd_T33 l0 (ji14)).f1))) + 1))⟩ : S33))).bind fun bt216 => (if t209 = 0 then (if bt216.2 = 0 then (if ((rd_T33 l0 (ji14)).f1) < 65536 then ((tegularef32_Same.f kj5 t208 bt216.1).bind fun t220 => (tegulalaw32_ExtentUnique.j1 kj5 l0 ji14 (Int.tmod (wrap64 (a2)) ((rd_T33 l0 (ji14)).f1)) t208 t220 ((rd_T33 l0 (ji14)).f0) ((rd_T33 l0 (ji14)).f1) ((rd_T33 l0 (ji14)).f2))) else (tegulalaw32_ExtentUnique.j1 kj5 l0 ji14 (Int.tmod (wrap64 (a2)) ((rd_T33 l0 (ji14)).f1)) t208 false ((rd_T33 l0 (ji14)).f0) ((rd_T33 l0 (ji14)).f1) ((rd_T33 l0 (ji14)).f2))) else (tegulalaw32_ExtentUnique.j1 kj5 l0 ji14 (Int.tmod (wrap64 (a2)) ((rd_T33 l0 (ji14)).f1)) t208 true ((rd_T33 l0 (ji14)).f0) ((rd_T33 l0 (ji14)).f1) ((rd_T33 l0 (ji14)).f2))) else (tegulalaw32_ExtentUnique.j1 kj5 l0 ji14 (Int.tmod (wrap64 (a2)) ((rd_T33 l0 (ji14)).f1)) t208 true ((rd_T33 l0 (ji14)).f0) ((rd_T33 l0 (ji14)).f1) ((rd_T33 l0 (ji14)).f2)))) else (none))) = some r := H
         have A19 := Aside0.mk A190
         clear A190
         by_cases c20 : (wrap64 ((wrap64 (65536 - ((rd_T33 l0 (ji14)).f1))) + 1)) = 0
         ·
          rw [if_pos c20] at H
          exact absurd H (by simp)
         ·
          rw [if_neg c20] at H
          have c20b0 : ((wrap64 ((wrap64 (65536 - ((rd_T33 l0 (ji14)).f1))) + 1)) == 0) = false := beq_eq_false_iff_ne.mpr c20
          have c20b1 : ((wrap64 ((wrap64 (65536 - ((rd_T33 l0 (ji14)).f1))) + 1)) != 0) = true := bne_iff_ne.mpr c20
          by_cases c21 : (ji14) < (t212.length : Int)
          ·
           rw [if_pos c21] at H
           have c21b0 : decide ((ji14) < (t212.length : Int)) = true := decide_eq_true c21
           clear c21
           obtain ⟨y215, hy215⟩ : ∃ y_ : List (S33), y_ = (t212.set ((ji14) : Int).toNat (⟨(rd_T33 t212 (ji14)).f0, (rd_T33 t212 (ji14)).f1, Int.tmod (wrap64 (((rd_T33 l0 (ji14)).f2) + 1)) (wrap64 ((wrap64 (65536 - ((rd_T33 l0 (ji14)).f1))) + 1))⟩ : S33)) := ⟨_, rfl⟩
           replace H : ((extent_Join.f kj5 y215).bind fun bt216 => (if t209 = 0 then (if bt216.2 = 0 then (if ((rd_T33 l0 (ji14)).f1) < 65536 then ((tegularef32_Same.f kj5 t208 bt216.1).bind fun t220 => (tegulalaw32_ExtentUnique.j1 kj5 l0 ji14 (Int.tmod (wrap64 (a2)) ((rd_T33 l0 (ji14)).f1)) t208 t220 ((rd_T33 l0 (ji14)).f0) ((rd_T33 l0 (ji14)).f1) ((rd_T33 l0 (ji14)).f2))) else (tegulalaw32_ExtentUnique.j1 kj5 l0 ji14 (Int.tmod (wrap64 (a2)) ((rd_T33 l0 (ji14)).f1)) t208 false ((rd_T33 l0 (ji14)).f0) ((rd_T33 l0 (ji14)).f1) ((rd_T33 l0 (ji14)).f2))) else (tegulalaw32_ExtentUnique.j1 kj5 l0 ji14 (Int.tmod (wrap64 (a2)) ((rd_T33 l0 (ji14)).f1)) t208 true ((rd_T33 l0 (ji14)).f0) ((rd_T33 l0 (ji14)).f1) ((rd_T33 l0 (ji14)).f2))) else (tegulalaw32_ExtentUnique.j1 kj5 l0 ji14 (Int.tmod (wrap64 (a2)) ((rd_T33 l0 (ji14)).f1)) t208 true ((rd_T33 l0 (ji14)).f0) ((rd_T33 l0 (ji14)).f1) ((rd_T33 l0 (ji14)).f2)))) = some r := by first | (rw [hy215]; with_reducible exact H) | (have H2_ := (Option.bind_some _ _).symm.trans H; rw [hy215]; with_reducible exact H2_) | (have H2_ := (Option.bind_some _ _).symm.trans H; with_reducible exact H2_) | with_reducible exact H | (rw [hy215]; exact H) | exact H
           have Ny215 := Aside0.mk hy215
           clear hy215
           replace H := Option.bind_eq_some_iff.mp H
           obtain ⟨⟨t216, t217⟩, A230, H⟩ := H
           replace H : (if t209 = 0 then (if t217 = 0 then (if ((rd_T33 l0 (ji14)).f1) < 65536 then ((tegularef32_Same.f kj5 t208 t216).bind fun t220 => (tegulalaw32_ExtentUnique.j1 kj5 l0 ji14 (Int.tmod (wrap64 (a2)) ((rd_T33 l0 (ji14)).f1)) t208 t220 ((rd_T33 l0 (ji14)).f0) ((rd_T33 l0 (ji14)).f1) ((rd_T33 l0 (ji14)).f2))) else (tegulalaw32_ExtentUnique.j1 kj5 l0 ji14 (Int.tmod (wrap64 (a2)) ((rd_T33 l0 (ji14)).f1)) t208 false ((rd_T33 l0 (ji14)).f0) ((rd_T33 l0 (ji14)).f1) ((rd_T33 l0 (ji14)).f2))) else (tegulalaw32_ExtentUnique.j1 kj5 l0 ji14 (Int.tmod (wrap64 (a2)) ((rd_T33 l0 (ji14)).f1)) t208 true ((rd_T33 l0 (ji14)).f0) ((rd_T33 l0 (ji14)).f1) ((rd_T33 l0 (ji14)).f2))) else (tegulalaw32_ExtentUnique.j1 kj5 l0 ji14 (Int.tmod (wrap64 (a2)) ((rd_T33 l0 (ji14)).f1)) t208 true ((rd_T33 l0 (ji14)).f0) ((rd_T33 l0 (ji14)).f1) ((rd_T33 l0 (ji14)).f2))) = some r := H
           have A23 := Aside0.mk A230
           clear A230
           have HC24 := Aside0.mk H
           clear H
           have p206 : 0 ≤ ((ji14) : Int) := of_decide_eq_true (by first | (with_reducible assumption) | assumption)
           have q206 : (ji14) < (l0.length : Int) := of_decide_eq_true (by first | (with_reducible assumption) | assumption)
           obtain ⟨ad206, e206, hx206_0, hx206_1, hx206_2⟩ := at_T33 HR0.out (ji14) p206 q206
           cases e206
           replace hx206_0 := (HB.out.cell (World.block_lt_of_cell? w _ hx206_0)).trans hx206_0
           replace hx206_1 := (HB.out.cell (World.block_lt_of_cell? w _ hx206_1)).trans hx206_1
           replace hx206_2 := (HB.out.cell (World.block_lt_of_cell? w _ hx206_2)).trans hx206_2
           replace p206 := eq_true p206
           replace q206 := eq_true q206
           go_upto_region 12 with (first | ((with_reducible refine gate_dst (N := 8) rfl ?_); (try (refine gate_guard (by rfl) ?_; dsimp only)); refine box_event ?hg (N := 8) ?hd (cs := #[.int .i64 0, .int .i64 0, .int .i64 0]) (t := 33) ?hr ?_; (case hd => rfl); (case hg => rfl); (case hr => first | (go_simp; done) | (go_simp; rfl)); intro gb207 hg w25 hbox hb; have n0_ := Aside0.mk (below_step (by repeat (first | (with_reducible first | exact HB.out | apply below_alloc | apply pw_below_drewN | apply below_drew1) | exact HB.out)) hb); have n1_ := Aside0.mk (hbox); have n2_ := Aside0.mk ((by rw [hg]; exact (below_size (by repeat (first | (with_reducible first | exact HB.out | apply below_alloc | apply pw_below_drewN | apply below_drew1) | exact HB.out))) : w.heap.size ≤ gb207)); have n3_ := Aside0.mk ((by rw [hg]; exact (below_size (by repeat (first | (with_reducible first | exact HB.out | apply below_alloc | apply pw_below_drewN | apply below_drew1) | exact HB.out))) : w.heap.size ≤ gb207)); clear HB; have HB := n0_; have BK207 := n1_; have GW207 := n2_; have GE207 := n3_; clear n0_ n1_ n2_ n3_; clear hb hbox hg; have hcz26_0 : w25.cell? ⟨gb207, 0, none⟩ = some (.int .i64 0) := (blk_cell BK207.out 0).trans rfl; have hcz26_1 : w25.cell? ⟨gb207, 1, none⟩ = some (.int .i64 0) := (blk_cell BK207.out 1).trans rfl; have hcz26_2 : w25.cell? ⟨gb207, 2, none⟩ = some (.int .i64 0) := (blk_cell BK207.out 2).trans rfl; have hfz26_0 := blk_frozen BK207.out 0; have hfz26_1 := blk_frozen BK207.out 1; have hfz26_2 := blk_frozen BK207.out 2) | ((with_reducible refine gate_callee (f := 17) rfl ?_); refine goesL_ (some 49) rfl rfl Try.func17 (by kernel_rfl) rfl #[.slice (some ad206) l0.length c0] rfl (by (try simp only [List.map_toArray, List.map_cons, List.map_nil]); first | done | rfl | (simp only [List.length_drop, List.length_take]; rfl)) ?_; (with_reducible refine (extent_Join.calls kj5 _ _ l0 t208 t209 _ ?side1 ?side2 A18.out).mono ?_); (case side1 => exact Kd.C_below HR0.out (by repeat (first | (with_reducible first | exact HB.out | apply below_alloc | apply pw_below_drewN | apply below_drew1 | refine below_set ?_ GE207.out) | exact HB.out))); (case side2 => exact HC0.out); rintro e w27 ⟨v210, rfl, ho0, hb⟩; refine ⟨_, rfl, ?_⟩; have n0_ := Aside0.mk (Kd.R_lower (Kd.R_newB ho0 (g := gb207) (o := .cells #[.int .i64 ((rd_T33 l0 (ji14)).f0), .int .i64 ((rd_T33 l0 (ji14)).f1), .int .i64 ((rd_T33 l0 (ji14)).f2)] 33 (0, 0)) (by (with_reducible repeat (first | refine blk_drewN ?_ _ | refine blk_drew ?_ | refine blk_alloc ?_ _)); refine blk_put (cs := #[.int .i64 ((rd_T33 l0 (ji14)).f0), .int .i64 ((rd_T33 l0 (ji14)).f1), .int .i64 0]) ?_ 2 _ rfl; (with_reducible repeat (first | refine blk_drewN ?_ _ | refine blk_drew ?_ | refine blk_alloc ?_ _)); refine blk_put (cs := #[.int .i64 ((rd_T33 l0 (ji14)).f0), .int .i64 0, .int .i64 0]) ?_ 1 _ rfl; (with_reducible repeat (first | refine blk_drewN ?_ _ | refine blk_drew ?_ | refine blk_alloc ?_ _)); refine blk_put (cs := #[.int .i64 0, .int .i64 0, .int .i64 0]) ?_ 0 _ rfl; (with_reducible repeat (first | refine blk_drewN ?_ _ | refine blk_drew ?_ | refine blk_alloc ?_ _)); exact BK207.out)) (below_size (by repeat (first | (with_reducible first | exact HB.out | apply below_alloc | apply pw_below_drewN | apply below_drew1 | refine below_set ?_ GE207.out) | exact HB.out)))); have n1_ := Aside0.mk (blk_below (g := gb207) (o := .cells #[.int .i64 ((rd_T33 l0 (ji14)).f0), .int .i64 ((rd_T33 l0 (ji14)).f1), .int .i64 ((rd_T33 l0 (ji14)).f2)] 33 (0, 0)) (by (with_reducible repeat (first | refine blk_drewN ?_ _ | refine blk_drew ?_ | refine blk_alloc ?_ _)); refine blk_put (cs := #[.int .i64 ((rd_T33 l0 (ji14)).f0), .int .i64 ((rd_T33 l0 (ji14)).f1), .int .i64 0]) ?_ 2 _ rfl; (with_reducible repeat (first | refine blk_drewN ?_ _ | refine blk_drew ?_ | refine blk_alloc ?_ _)); refine blk_put (cs := #[.int .i64 ((rd_T33 l0 (ji14)).f0), .int .i64 0, .int .i64 0]) ?_ 1 _ rfl; (with_reducible repeat (first | refine blk_drewN ?_ _ | refine blk_drew ?_ | refine blk_alloc ?_ _)); refine blk_put (cs := #[.int .i64 0, .int .i64 0, .int .i64 0]) ?_ 0 _ rfl; (with_reducible repeat (first | refine blk_drewN ?_ _ | refine blk_drew ?_ | refine blk_alloc ?_ _)); exact BK207.out) hb); have n2_ := Aside0.mk (below_step (by repeat (first | (with_reducible first | exact HB.out | apply below_alloc | apply pw_below_drewN | apply below_drew1 | refine below_set ?_ GE207.out) | exact HB.out)) hb); clear BK207; clear HB; have HO211 := n0_; have BK207 := n1_; have HB := n2_; clear n0_ n1_ n2_; (try clear hb); (try clear hb2); (try clear hk); (try clear hi); (try clear ho0)) | ((with_reducible refine gate_callee (f := 12) rfl ?_); refine goesL_ (some 53) rfl rfl Try.func12 (by kernel_rfl) rfl #[.slice (some ad206) l0.length c0] rfl (by (try simp only [List.map_toArray, List.map_cons, List.map_nil]); first | done | rfl | (simp only [List.length_drop, List.length_take]; rfl)) ?_; (with_reducible refine (tegulalaw32_copied.calls _ _ l0 t212 _ ?side1 ?side2 A19.out).mono ?_); (case side1 => repeat (first | exact (Kd.C_below HR0.out HB.out) | (with_reducible refine Kd.C_alloc ?_ _) | (with_reducible refine Kd.C_drewN ?_ _) | (with_reducible refine Kd.C_drew ?_))); (case side2 => exact HC0.out); rintro e w28 ⟨v213, rfl, ho0, hb⟩; refine ⟨_, rfl, ?_⟩; have n0_ := Aside0.mk (Kd.R_elder' (by (with_reducible repeat (first | apply Kd.R_alloc | apply Kd.R_drewN | apply Kd.R_drew)); exact HO211.out) (Kd.R_base ho0) hb); have n1_ := Aside0.mk (Kd.R_lower (Kd.R_newB (Kd.R_new' ho0 (Kd.R_lt (by (with_reducible repeat (first | apply Kd.R_alloc | apply Kd.R_drewN | apply Kd.R_drew)); exact HO211.out))) (g := gb207) (o := .cells #[.int .i64 ((rd_T33 l0 (ji14)).f0), .int .i64 ((rd_T33 l0 (ji14)).f1), .int .i64 ((rd_T33 l0 (ji14)).f2)] 33 (0, 0)) (by (with_reducible repeat (first | refine blk_drewN ?_ _ | refine blk_drew ?_ | refine blk_alloc ?_ _)); exact BK207.out)) (below_size (by repeat (first | (with_reducible first | exact HB.out | apply below_alloc | apply pw_below_drewN | apply below_drew1 | refine below_set ?_ GE207.out) | exact HB.out)))); have n2_ := Aside0.mk (blk_below (g := gb207) (o := .cells #[.int .i64 ((rd_T33 l0 (ji14)).f0), .int .i64 ((rd_T33 l0 (ji14)).f1), .int .i64 ((rd_T33 l0 (ji14)).f2)] 33 (0, 0)) (by (with_reducible repeat (first | refine blk_drewN ?_ _ | refine blk_drew ?_ | refine blk_alloc ?_ _)); exact BK207.out) hb); have n3_ := Aside0.mk (below_step (by repeat (first | (with_reducible first | exact HB.out | apply below_alloc | apply pw_below_drewN | apply below_drew1 | refine below_set ?_ GE207.out) | exact HB.out)) hb); clear HO211; clear BK207; clear HB; have HO211 := n0_; have HO214 := n1_; have BK207 := n2_; have HB := n3_; clear n0_ n1_ n2_ n3_; (try clear hb); (try clear hb2); (try clear hk); (try clear hi); (try clear ho0); have hcz29_0 : w28.cell? ⟨gb207, 0, none⟩ = some (.int .i64 ((rd_T33 l0 (ji14)).f0)) := (blk_cell BK207.out 0).trans rfl; have hcz29_1 : w28.cell? ⟨gb207, 1, none⟩ = some (.int .i64 ((rd_T33 l0 (ji14)).f1)) := (blk_cell BK207.out 1).trans rfl; have hcz29_2 : w28.cell? ⟨gb207, 2, none⟩ = some (.int .i64 ((rd_T33 l0 (ji14)).f2)) := (blk_cell BK207.out 2).trans rfl; have hfz29_0 := blk_frozen BK207.out 0; have hfz29_1 := blk_frozen BK207.out 1; have hfz29_2 := blk_frozen BK207.out 2; have p22 : 0 ≤ ((ji14) : Int) := of_decide_eq_true (by first | (with_reducible assumption) | assumption); have q22 : ((ji14) : Int) < ((t212.length : Int) : Int) := of_decide_eq_true (by first | (with_reducible assumption) | assumption); obtain ⟨go22, co22, eo22, gb22, gl22, cl22, HG22⟩ := Kd.R_form HO214.out (by omega); (first | cases eo22 | (injection eo22 with ea_ en_ ec_; (first | subst ea_ | (injection ea_ with ea_; subst ea_)); subst ec_; clear en_)); have GB22 := Aside0.mk gb22; have GG22 := Aside0.mk HG22; clear gb22 gl22 HG22; obtain ⟨ce22, hcl22, hM22, hcc22, hfr22⟩ := Kd.R_elem HO214.out z33 ((ji14) : Int) p22 q22; obtain rfl := k33_openM hM22; have hx22_0 : w28.cell? ⟨go22, ((ji14) : Int).toNat * 3, none⟩ = some (.int .i64 ((rd_T33 t212 (ji14)).f0)) := hcc22 0 _ rfl; have hx22_1 : w28.cell? ⟨go22, ((ji14) : Int).toNat * 3 + 1, none⟩ = some (.int .i64 ((rd_T33 t212 (ji14)).f1)) := hcc22 1 _ rfl; have hx22_2 : w28.cell? ⟨go22, ((ji14) : Int).toNat * 3 + 2, none⟩ = some (.int .i64 ((rd_T33 t212 (ji14)).f2)) := hcc22 2 _ rfl; have hf22_0 : w28.frozen? ⟨go22, ((ji14) : Int).toNat * 3, none⟩ = false := hfr22 0; have hf22_1 : w28.frozen? ⟨go22, ((ji14) : Int).toNat * 3 + 1, none⟩ = false := hfr22 1; have hf22_2 : w28.frozen? ⟨go22, ((ji14) : Int).toNat * 3 + 2, none⟩ = false := hfr22 2; clear hcl22 hcc22 hfr22 hM22; replace p22 := eq_true p22; replace q22 := eq_true q22; have n_ := Aside0.mk (Kd.R_mono (ok' := (fun k_ => some k_ ≠ (v210 : Value).ownBlock ∧ k_ ≠ gb207)) HO214.out (fun k_ hk => ⟨hk.1.2, hk.2⟩)); clear HO214; have HO214 := n_; clear n_; have HX30 := Aside0.mk (show Kd.R k33 33 w28 w.heap.size (fun k_ => some k_ ≠ (v210 : Value).ownBlock ∧ k_ ≠ gb207) (.slice (some ⟨go22, 0, none⟩) t212.length co22) t212 from (by (with_reducible repeat (first | apply Kd.R_alloc | apply Kd.R_drewN | apply Kd.R_drew)); exact HO214.out)); obtain ⟨ce30, hcl30, hM30, hcc30, hfr30⟩ := Kd.R_elem HX30.out z33 ((ji14) : Int) (of_decide_eq_true (by first | (with_reducible assumption) | assumption)) (by have h_ : ((ji14) : Int) < ((t212.length : Int) : Int) := of_decide_eq_true (by first | (with_reducible assumption) | assumption); first | exact h_ | (have e_ := (Kd.R_reads' HO214.out).1; omega) | simpa using h_); obtain rfl := k33_openM hM30; have HP30 := Kd.R_seg HX30.out ((ji14) : Int) (of_decide_eq_true (by first | (with_reducible assumption) | assumption)) (by have h_ : ((ji14) : Int) < ((t212.length : Int) : Int) := of_decide_eq_true (by first | (with_reducible assumption) | assumption); first | exact h_ | (have e_ := (Kd.R_reads' HO214.out).1; omega) | simpa using h_) (seg := [.int .i64 (Int.tmod (wrap64 (((rd_T33 l0 (ji14)).f2) + 1)) (wrap64 ((wrap64 (65536 - ((rd_T33 l0 (ji14)).f1))) + 1)))]) (j := 2) hcl30 hcc30 (show 3 ≤ 3 from by decide) (x' := (⟨(rd_T33 t212 (ji14)).f0, (rd_T33 t212 (ji14)).f1, Int.tmod (wrap64 (((rd_T33 l0 (ji14)).f2) + 1)) (wrap64 ((wrap64 (65536 - ((rd_T33 l0 (ji14)).f1))) + 1))⟩ : S33)) (k33_mkM _ _ _ (⟨(rd_T33 t212 (ji14)).f0, (rd_T33 t212 (ji14)).f1, Int.tmod (wrap64 (((rd_T33 l0 (ji14)).f2) + 1)) (wrap64 ((wrap64 (65536 - ((rd_T33 l0 (ji14)).f1))) + 1))⟩ : S33) ) (fun _ hk => hk); have hx30_2 := hcc30 2 _ rfl; (try simp only [show (k33).sz = 3 from rfl, Nat.mul_one, Nat.add_zero] at hx30_2); have hf30_2 := hfr30 2; (try simp only [show (k33).sz = 3 from rfl, Nat.mul_one, Nat.add_zero] at hf30_2); clear hcl30 hcc30 hfr30 hM30) | ((with_reducible refine gate_store (t := 3) (p := 65) rfl ?_); refine store_event (t := 3) (p := 65) (v := ?vo_w31) (w1 := (w28.setCell ⟨go22, ((ji14) : Int).toNat * 3 + 2, none⟩ (.int .i64 (Int.tmod (wrap64 (((rd_T33 l0 (ji14)).f2) + 1)) (wrap64 ((wrap64 (65536 - ((rd_T33 l0 (ji14)).f1))) + 1)))))) ?hg ?ho ?hn ?hr ?_; (case ho => rfl); (case hg => rfl); (case hn => rfl); (case hr => first | (go_simp; done) | (go_simp; rfl)); intro w31 hw; have hg : w28.grownBy w31 (some go22) := (by rw [hw]; exact HP30.2); have hp_ : Kd.R k33 33 w31 w.heap.size (fun k_ => some k_ ≠ (v210 : Value).ownBlock ∧ k_ ≠ gb207) (.slice (some ⟨go22, 0, none⟩) t212.length co22) y215 := (by rw [hw, Ny215.out]; exact HP30.1); clear HP30; have n0_ := Aside0.mk (blk_grown (g := gb207) (o := .cells #[.int .i64 ((rd_T33 l0 (ji14)).f0), .int .i64 ((rd_T33 l0 (ji14)).f1), .int .i64 ((rd_T33 l0 (ji14)).f2)] 33 (0, 0)) (by (with_reducible repeat (first | refine blk_drewN ?_ _ | refine blk_drew ?_ | refine blk_alloc ?_ _)); exact BK207.out) hg (Kd.R_away HO214.out (fun _ hk => hk.2))); have n1_ := Aside0.mk (Kd.R_after (v := (.slice (some ⟨go22, 0, none⟩) t212.length co22)) (v1 := (.slice (some ⟨go22, 0, none⟩) t212.length co22)) (ok := (fun k_ => k_ ≠ gb207)) (by (with_reducible repeat (first | apply Kd.R_alloc | apply Kd.R_drewN | apply Kd.R_drew)); exact Kd.R_mono HO211.out (fun _ hk => ⟨hk.1.2, hk.2⟩)) hg (.inl rfl)); have n2_ := Aside0.mk (hp_); have n3_ := Aside0.mk ((by rw [hw]; exact below_set (HB.out) GB22.out : Below w.heap.size w w31)); clear BK207; clear HO211; clear HO214; clear HB; have BK207 := n0_; have HO211 := n1_; have HO214 := n2_; have HB := n3_; clear n0_ n1_ n2_ n3_; clear hg hw hp_) | ((with_reducible refine gate_callee (f := 17) rfl ?_); refine goesL_ (some 68) rfl rfl Try.func17 (by kernel_rfl) rfl #[.slice (some ⟨go22, 0, none⟩) y215.length co22] rfl (by (try simp only [List.map_toArray, List.map_cons, List.map_nil]); first | done | (rw [show y215.length = t212.length from (Kd.R_reads' HO214.out).1.symm] <;> rfl) | rfl | (simp only [List.length_drop, List.length_take]; rfl)) ?_; (with_reducible refine (extent_Join.calls kj5 _ _ y215 t216 t217 _ ?side1 ?side2 A23.out).mono ?_); (case side1 => repeat (first | exact (Kd.R_reads' HO214.out).2.2 | (with_reducible refine Kd.C_alloc ?_ _) | (with_reducible refine Kd.C_drewN ?_ _) | (with_reducible refine Kd.C_drew ?_))); (case side2 => rw [show y215.length = t212.length from (Kd.R_reads' HO214.out).1.symm]; exact (Kd.R_reads' HO214.out).2.1); rintro e w32 ⟨v218, rfl, ho0, hb⟩; refine ⟨_, rfl, ?_⟩; have n0_ := Aside0.mk (Kd.R_elder' (by (with_reducible repeat (first | apply Kd.R_alloc | apply Kd.R_drewN | apply Kd.R_drew)); exact HO211.out) (Kd.R_base ho0) hb); have n1_ := Aside0.mk (Kd.R_elder' (by (with_reducible repeat (first | apply Kd.R_alloc | apply Kd.R_drewN | apply Kd.R_drew)); exact HO214.out) (Kd.R_base ho0) hb); have n2_ := Aside0.mk (Kd.R_lower (Kd.R_newB (Kd.R_new' (Kd.R_new' ho0 (Kd.R_lt (by (with_reducible repeat (first | apply Kd.R_alloc | apply Kd.R_drewN | apply Kd.R_drew)); exact HO211.out))) (Kd.R_lt (by (with_reducible repeat (first | apply Kd.R_alloc | apply Kd.R_drewN | apply Kd.R_drew)); exact HO214.out))) (g := gb207) (o := .cells #[.int .i64 ((rd_T33 l0 (ji14)).f0), .int .i64 ((rd_T33 l0 (ji14)).f1), .int .i64 ((rd_T33 l0 (ji14)).f2)] 33 (0, 0)) (by (with_reducible repeat (first | refine blk_drewN ?_ _ | refine blk_drew ?_ | refine blk_alloc ?_ _)); exact BK207.out)) (below_size (by repeat (first | (with_reducible first | exact HB.out | apply below_alloc | apply pw_below_drewN | apply below_drew1 | refine below_set ?_ GE207.out) | exact HB.out)))); have n3_ := Aside0.mk (blk_below (g := gb207) (o := .cells #[.int .i64 ((rd_T33 l0 (ji14)).f0), .int .i64 ((rd_T33 l0 (ji14)).f1), .int .i64 ((rd_T33 l0 (ji14)).f2)] 33 (0, 0)) (by (with_reducible repeat (first | refine blk_drewN ?_ _ | refine blk_drew ?_ | refine blk_alloc ?_ _)); exact BK207.out) hb); have n4_ := Aside0.mk (below_step (by repeat (first | (with_reducible first | exact HB.out | apply below_alloc | apply pw_below_drewN | apply below_drew1 | refine below_set ?_ GE207.out) | exact HB.out)) hb); clear HO211; clear HO214; clear BK207; clear HB; have HO211 := n0_; have HO214 := n1_; have HO219 := n2_; have BK207 := n3_; have HB := n4_; clear n0_ n1_ n2_ n3_ n4_; (try clear hb); (try clear hb2); (try clear hk); (try clear hi); (try clear ho0)))
           (try simp only [Act.put, List.setIfInBounds_toArray, List.set_cons_zero, List.set_cons_succ])
           go_cut [86] (fun v86 wc => ∃ (kq : Nat) (x86_23 : Bool), v86 = .bool x86_23 ∧ Aside0 (tegulalaw32_ExtentUnique.j1 kq l0 ji14 (Int.tmod (wrap64 (a2)) ((rd_T33 l0 (ji14)).f1)) t208 x86_23 ((rd_T33 l0 (ji14)).f0) ((rd_T33 l0 (ji14)).f1) ((rd_T33 l0 (ji14)).f2) = some r) ∧ Aside0 (kq ≤ kj5) ∧ Aside0 (Kd.R k33 33 wc w.heap.size (fun k_ => k_ ≠ gb207) v210 t208) ∧ Aside0 (wc.heap[gb207]? = some (.cells #[.int .i64 ((rd_T33 l0 (ji14)).f0), .int .i64 ((rd_T33 l0 (ji14)).f1), .int .i64 ((rd_T33 l0 (ji14)).f2)] 33 (0, 0))) ∧ Aside0 (Below w.heap.size w wc))
           case first =>
            have H := HC24.out
            clear HC24
            by_cases c33 : t209 = 0
            ·
             rw [if_pos c33] at H
             have c33b0 : (t209 == 0) = true := beq_iff_eq.mpr c33
             have c33b1 : (t209 != 0) = false := bne_eq_false_iff_eq.mpr c33
             clear c33
             (first | rw [c33b0] | (simp only [i64_w, i32_w]; rw [c33b0]) | skip)
             by_cases c34 : t217 = 0
             ·
              rw [if_pos c34] at H
              have c34b0 : (t217 == 0) = true := beq_iff_eq.mpr c34
              have c34b1 : (t217 != 0) = false := bne_eq_false_iff_eq.mpr c34
              clear c34
              by_cases c35 : ((rd_T33 l0 (ji14)).f1) < 65536
              ·
               rw [if_pos c35] at H
               have c35b0 : decide (((rd_T33 l0 (ji14)).f1) < 65536) = true := decide_eq_true c35
               clear c35
               replace H := Option.bind_eq_some_iff.mp H
               obtain ⟨t220, A360, H⟩ := H
               replace H : (tegulalaw32_ExtentUnique.j1 kj5 l0 ji14 (Int.tmod (wrap64 (a2)) ((rd_T33 l0 (ji14)).f1)) t208 t220 ((rd_T33 l0 (ji14)).f0) ((rd_T33 l0 (ji14)).f1) ((rd_T33 l0 (ji14)).f2)) = some r := H
               have A36 := Aside0.mk A360
               clear A360
               have H' := Aside0.mk H
               clear H
               have hcz37_0 : w32.cell? ⟨gb207, 0, none⟩ = some (.int .i64 ((rd_T33 l0 (ji14)).f0)) := (blk_cell BK207.out 0).trans rfl
               have hcz37_1 : w32.cell? ⟨gb207, 1, none⟩ = some (.int .i64 ((rd_T33 l0 (ji14)).f1)) := (blk_cell BK207.out 1).trans rfl
               have hcz37_2 : w32.cell? ⟨gb207, 2, none⟩ = some (.int .i64 ((rd_T33 l0 (ji14)).f2)) := (blk_cell BK207.out 2).trans rfl
               have hfz37_0 := blk_frozen BK207.out 0
               have hfz37_1 := blk_frozen BK207.out 1
               have hfz37_2 := blk_frozen BK207.out 2
               obtain ⟨Ao38, co38, eo38⟩ := Kd.R_slice HO211.out
               subst eo38
               obtain ⟨Ao39, co39, eo39⟩ := Kd.R_slice HO219.out
               subst eo39
               go_wp2_with (first | (go_at_call 15; (with_reducible refine (tegularef32_Same.calls kj5 _ _ t208 _ _ t216 t220 _ ?side1 ?side2 ?side3 ?side4 A36.out).mono ?_); (case side1 => repeat (first | exact (Kd.R_reads' HO211.out).2.2 | (with_reducible refine Kd.C_alloc ?_ _) | (with_reducible refine Kd.C_drewN ?_ _) | (with_reducible refine Kd.C_drew ?_))); (case side2 => exact (Kd.R_reads' HO211.out).2.1); (case side3 => repeat (first | exact (Kd.R_reads' HO219.out).2.2 | (with_reducible refine Kd.C_alloc ?_ _) | (with_reducible refine Kd.C_drewN ?_ _) | (with_reducible refine Kd.C_drew ?_))); (case side4 => exact (Kd.R_reads' HO219.out).2.1); rintro e w' ⟨rfl, ⟨nd, rfl⟩⟩))
               go_meet
               case rel => exact ⟨_, (t220), (by first | rfl | (simp; done) | (simp [*]; done)), H', ⟨by have := HJ5.out; first | omega | exact Nat.le_refl _⟩, ⟨by (with_reducible repeat (first | apply Kd.R_alloc | apply Kd.R_drewN | apply Kd.R_drew)); exact Kd.R_mono HO211.out (fun _ hk => hk.1.1)⟩, ⟨by (with_reducible repeat (first | refine blk_drewN ?_ _ | refine blk_drew ?_ | refine blk_alloc ?_ _)); exact BK207.out⟩, ⟨by repeat (first | (with_reducible first | exact HB.out | apply below_alloc | apply pw_below_drewN | apply below_drew1 | refine below_set ?_ GE207.out) | exact HB.out)⟩⟩
              ·
               rw [if_neg c35] at H
               have c35b0 : decide (((rd_T33 l0 (ji14)).f1) < 65536) = false := decide_eq_false c35
               clear c35
               have H' := Aside0.mk H
               clear H
               have hcz40_0 : w32.cell? ⟨gb207, 0, none⟩ = some (.int .i64 ((rd_T33 l0 (ji14)).f0)) := (blk_cell BK207.out 0).trans rfl
               have hcz40_1 : w32.cell? ⟨gb207, 1, none⟩ = some (.int .i64 ((rd_T33 l0 (ji14)).f1)) := (blk_cell BK207.out 1).trans rfl
               have hcz40_2 : w32.cell? ⟨gb207, 2, none⟩ = some (.int .i64 ((rd_T33 l0 (ji14)).f2)) := (blk_cell BK207.out 2).trans rfl
               have hfz40_0 := blk_frozen BK207.out 0
               have hfz40_1 := blk_frozen BK207.out 1
               have hfz40_2 := blk_frozen BK207.out 2
               go_wp2
               go_meet
               case rel => exact ⟨_, (false), (by first | rfl | (simp; done) | (simp [*]; done)), H', ⟨by have := HJ5.out; first | omega | exact Nat.le_refl _⟩, ⟨by (with_reducible repeat (first | apply Kd.R_alloc | apply Kd.R_drewN | apply Kd.R_drew)); exact Kd.R_mono HO211.out (fun _ hk => hk.1.1)⟩, ⟨by (with_reducible repeat (first | refine blk_drewN ?_ _ | refine blk_drew ?_ | refine blk_alloc ?_ _)); exact BK207.out⟩, ⟨by repeat (first | (with_reducible first | exact HB.out | apply below_alloc | apply pw_below_drewN | apply below_drew1 | refine below_set ?_ GE207.out) | exact HB.out)⟩⟩
             ·
              rw [if_neg c34] at H
              have c34b0 : (t217 == 0) = false := beq_eq_false_iff_ne.mpr c34
              have c34b1 : (t217 != 0) = true := bne_iff_ne.mpr c34
              have H' := Aside0.mk H
              clear H
              go_wp2
              go_meet
              case rel => exact ⟨_, (true), (by first | rfl | (simp; done) | (simp [*]; done)), H', ⟨by have := HJ5.out; first | omega | exact Nat.le_refl _⟩, ⟨by (with_reducible repeat (first | apply Kd.R_alloc | apply Kd.R_drewN | apply Kd.R_drew)); exact Kd.R_mono HO211.out (fun _ hk => hk.1.1)⟩, ⟨by (with_reducible repeat (first | refine blk_drewN ?_ _ | refine blk_drew ?_ | refine blk_alloc ?_ _)); exact BK207.out⟩, ⟨by repeat (first | (with_reducible first | exact HB.out | apply below_alloc | apply pw_below_drewN | apply below_drew1 | refine below_set ?_ GE207.out) | exact HB.out)⟩⟩
            ·
             rw [if_neg c33] at H
             have c33b0 : (t209 == 0) = false := beq_eq_false_iff_ne.mpr c33
             have c33b1 : (t209 != 0) = true := bne_iff_ne.mpr c33
             (first | rw [c33b0] | (simp only [i64_w, i32_w]; rw [c33b0]) | skip)
             have H' := Aside0.mk H
             clear H
             go_wp2
             go_meet
             case rel => exact ⟨_, (true), (by first | rfl | (simp; done) | (simp [*]; done)), H', ⟨by have := HJ5.out; first | omega | exact Nat.le_refl _⟩, ⟨by (with_reducible repeat (first | apply Kd.R_alloc | apply Kd.R_drewN | apply Kd.R_drew)); exact Kd.R_mono HO211.out (fun _ hk => hk.1.1)⟩, ⟨by (with_reducible repeat (first | refine blk_drewN ?_ _ | refine blk_drew ?_ | refine blk_alloc ?_ _)); exact BK207.out⟩, ⟨by repeat (first | (with_reducible first | exact HB.out | apply below_alloc | apply pw_below_drewN | apply below_drew1 | refine below_set ?_ GE207.out) | exact HB.out)⟩⟩
           case rest =>
            clear HC24
            try clear c1
            try clear c2
            try clear p2
            try clear q2
            try clear hx2
            try clear c3
            try clear hx3
            try clear hf3
            try clear c4
            try clear c5
            try clear p6
            try clear c8
            try clear c8b0
            try clear c8b1
            try clear c8b2
            try clear c9
            try clear c9b0
            try clear c9b1
            try clear c11
            try clear c12
            try clear c13
            try clear c13b0
            try clear c13b1
            try clear c13b2
            try clear c15
            try clear c15b0
            try clear c16
            try clear c16b0
            try clear c17
            try clear c17b0
            try clear c17b1
            try clear c20
            try clear c20b0
            try clear c20b1
            try clear p20
            try clear q20
            try clear hx20
            try clear c21
            try clear c21b0
            try clear c22
            try clear p22
            try clear q22
            try clear hx22
            try clear hf22
            try clear c30
            try clear hx30
            try clear hf30
            try clear c33
            try clear c33b0
            try clear c33b1
            try clear c34
            try clear c34b0
            try clear c34b1
            try clear c35
            try clear c35b0
            try clear hcz26_0
            try clear hcz26_1
            try clear hcz26_2
            try clear hcz29_0
            try clear hcz29_1
            try clear hcz29_2
            try clear hcz37_0
            try clear hcz37_1
            try clear hcz37_2
            try clear hcz40_0
            try clear hcz40_1
            try clear hcz40_2
            try clear hfz26_0
            try clear hfz26_1
            try clear hfz26_2
            try clear hfz29_0
            try clear hfz29_1
            try clear hfz29_2
            try clear hfz37_0
            try clear hfz37_1
            try clear hfz37_2
            try clear hfz40_0
            try clear hfz40_1
            try clear hfz40_2
            try clear hx206_0
            try clear hx206_1
            try clear hx206_2
            try clear hx22_0
            try clear hx22_1
            try clear hx22_2
            try clear hx30_2
            try clear p2
            try clear p206
            try clear p22
            try clear q206
            try clear q22
            obtain ⟨kq, x86_23, rfl, HA, HJ23, HO_10, BK207, HB⟩ := hcut
            cases kq with
            | zero => exact absurd HA.out (by simp [tegulalaw32_ExtentUnique.j1])
            | succ kj23 =>
             have H := HA.out
             clear HA
             simp only [tegulalaw32_ExtentUnique.j1] at H
             by_cases c41 : x86_23 = true
             ·
              subst c41
              have H1 : (some false) = some r := by rw [if_pos rfl] at H; exact H
              clear H
              have H := H1
              clear H1
              obtain rfl := Option.some.inj H
              go_wp2
              go_ret
              exact ⟨by first | rfl | (simp [errW_none, errW_some] <;> rfl) | (simp only [← hji14]; first | rfl | (simp [errW_none, errW_some] <;> rfl)) | (simp [*, errW_none, errW_some] <;> rfl), by repeat (first | (with_reducible first | exact HB.out | apply below_alloc | apply pw_below_drewN | apply below_drew1 | refine below_set ?_ GE207.out) | exact HB.out)⟩
             ·
              replace c41 := Bool.eq_false_iff.mpr c41
              subst c41
              have H1 : (if (Int.tmod (wrap64 (a2)) ((rd_T33 l0 (ji14)).f1)) = 0 then (some true) else (if 0 ≤ ji14 then (if ji14 ≤ (l0.length : Int) then ((tegulalaw32_copied.f (l0.take (ji14 : Int).toNat)).bind fun t225 => ((some (([(⟨((rd_T33 l0 (ji14)).f0), (Int.tmod (wrap64 (a2)) ((rd_T33 l0 (ji14)).f1)), ((rd_T33 l0 (ji14)).f2)⟩ : S33), (⟨wrap64 (((rd_T33 l0 (ji14)).f0) + (Int.tmod (wrap64 (a2)) ((rd_T33 l0 (ji14)).f1))), wrap64 (((rd_T33 l0 (ji14)).f1) - (Int.tmod (wrap64 (a2)) ((rd_T33 l0 (ji14)).f1))), wrap64 (((rd_T33 l0 (ji14)).f2) + (Int.tmod (wrap64 (a2)) ((rd_T33 l0 (ji14)).f1)))⟩ : S33)] : List (S33)) : List (S33))).bind fun y228 => (if t225.length + y228.length < 5864062014805 then ((some (t225 ++ y228 : List (S33))).bind fun y231 => (if 0 ≤ (wrap64 (ji14 + 1)) then (if (wrap64 (ji14 + 1)) ≤ (l0.length : Int) then ((some (l0.drop ((wrap64 (ji14 + 1)) : Int).toNat : List (S33))).bind fun y234 => (if y231.length + y234.length < 5864062014805 then ((extent_Join.f kj23 (y231 ++ y234)).bind fun bt241 => (if bt241.2 = 0 then ((tegularef32_Same.f kj23 bt241.1 t208).bind fun t245 => (some t245)) else (some false))) else (none))) else (none)) else (none))) else (none)))) else (none)) else (none))) = some r := by rw [if_neg (show ¬ (false = true) by decide)] at H; exact H
              clear H
              have H := H1
              clear H1
              by_cases c42 : (Int.tmod (wrap64 (a2)) ((rd_T33 l0 (ji14)).f1)) = 0
              ·
               rw [if_pos c42] at H
               have c42b0 : ((Int.tmod (wrap64 (a2)) ((rd_T33 l0 (ji14)).f1)) == 0) = true := beq_iff_eq.mpr c42
               have c42b1 : ((Int.tmod (wrap64 (a2)) ((rd_T33 l0 (ji14)).f1)) != 0) = false := bne_eq_false_iff_eq.mpr c42
               clear c42
               obtain rfl := Option.some.inj H
               go_wp2
               go_ret
               exact ⟨by first | rfl | (simp [errW_none, errW_some] <;> rfl) | (simp only [← hji14]; first | rfl | (simp [errW_none, errW_some] <;> rfl)) | (simp [*, errW_none, errW_some] <;> rfl), by repeat (first | (with_reducible first | exact HB.out | apply below_alloc | apply pw_below_drewN | apply below_drew1 | refine below_set ?_ GE207.out) | exact HB.out)⟩
              ·
               rw [if_neg c42] at H
               have c42b0 : ((Int.tmod (wrap64 (a2)) ((rd_T33 l0 (ji14)).f1)) == 0) = false := beq_eq_false_iff_ne.mpr c42
               have c42b1 : ((Int.tmod (wrap64 (a2)) ((rd_T33 l0 (ji14)).f1)) != 0) = true := bne_iff_ne.mpr c42
               by_cases c43 : 0 ≤ ji14
               ·
                rw [if_pos c43] at H
                have c43b0 := eq_true c43
                have c43b1 : decide (0 ≤ ji14) = true := decide_eq_true c43
                clear c43
                by_cases c44 : ji14 ≤ (l0.length : Int)
                ·
                 rw [if_pos c44] at H
                 have c44b0 := eq_true c44
                 have c44b1 : decide (ji14 ≤ (l0.length : Int)) = true := decide_eq_true c44
                 clear c44
                 obtain ⟨y221, hy221⟩ : ∃ y_ : List (S33), y_ = (l0.take (ji14 : Int).toNat) := ⟨_, rfl⟩
                 replace H : ((tegulalaw32_copied.f y221).bind fun t225 => ((some (([(⟨((rd_T33 l0 (ji14)).f0), (Int.tmod (wrap64 (a2)) ((rd_T33 l0 (ji14)).f1)), ((rd_T33 l0 (ji14)).f2)⟩ : S33), (⟨wrap64 (((rd_T33 l0 (ji14)).f0) + (Int.tmod (wrap64 (a2)) ((rd_T33 l0 (ji14)).f1))), wrap64 (((rd_T33 l0 (ji14)).f1) - (Int.tmod (wrap64 (a2)) ((rd_T33 l0 (ji14)).f1))), wrap64 (((rd_T33 l0 (ji14)).f2) + (Int.tmod (wrap64 (a2)) ((rd_T33 l0 (ji14)).f1)))⟩ : S33)] : List (S33)) : List (S33))).bind fun y228 => (if t225.length + y228.length < 5864062014805 then ((some (t225 ++ y228 : List (S33))).bind fun y231 => (if 0 ≤ (wrap64 (ji14 + 1)) then (if (wrap64 (ji14 + 1)) ≤ (l0.length : Int) then ((some (l0.drop ((wrap64 (ji14 + 1)) : Int).toNat : List (S33))).bind fun y234 => (if y231.length + y234.length < 5864062014805 then ((extent_Join.f kj23 (y231 ++ y234)).bind fun bt241 => (if bt241.2 = 0 then ((tegularef32_Same.f kj23 bt241.1 t208).bind fun t245 => (some t245)) else (some false))) else (none))) else (none)) else (none))) else (none)))) = some r := by first | (rw [hy221]; with_reducible exact H) | (have H2_ := (Option.bind_some _ _).symm.trans H; rw [hy221]; with_reducible exact H2_) | (have H2_ := (Option.bind_some _ _).symm.trans H; with_reducible exact H2_) | with_reducible exact H | (rw [hy221]; exact H) | exact H
                 have Ny221 := Aside0.mk hy221
                 clear hy221
                 replace H := Option.bind_eq_some_iff.mp H
                 obtain ⟨t225, A450, H⟩ := H
                 replace H : ((some (([(⟨((rd_T33 l0 (ji14)).f0), (Int.tmod (wrap64 (a2)) ((rd_T33 l0 (ji14)).f1)), ((rd_T33 l0 (ji14)).f2)⟩ : S33), (⟨wrap64 (((rd_T33 l0 (ji14)).f0) + (Int.tmod (wrap64 (a2)) ((rd_T33 l0 (ji14)).f1))), wrap64 (((rd_T33 l0 (ji14)).f1) - (Int.tmod (wrap64 (a2)) ((rd_T33 l0 (ji14)).f1))), wrap64 (((rd_T33 l0 (ji14)).f2) + (Int.tmod (wrap64 (a2)) ((rd_T33 l0 (ji14)).f1)))⟩ : S33)] : List (S33)) : List (S33))).bind fun y228 => (if t225.length + y228.length < 5864062014805 then ((some (t225 ++ y228 : List (S33))).bind fun y231 => (if 0 ≤ (wrap64 (ji14 + 1)) then (if (wrap64 (ji14 + 1)) ≤ (l0.length : Int) then ((some (l0.drop ((wrap64 (ji14 + 1)) : Int).toNat : List (S33))).bind fun y234 => (if y231.length + y234.length < 5864062014805 then ((extent_Join.f kj23 (y231 ++ y234)).bind fun bt241 => (if bt241.2 = 0 then ((tegularef32_Same.f kj23 bt241.1 t208).bind fun t245 => (some t245)) else (some false))) else (none))) else (none)) else (none))) else (none))) = some r := H
                 have A45 := Aside0.mk A450
                 clear A450
                 obtain ⟨y228, hy228⟩ : ∃ y_ : List (S33), y_ = (([(⟨((rd_T33 l0 (ji14)).f0), (Int.tmod (wrap64 (a2)) ((rd_T33 l0 (ji14)).f1)), ((rd_T33 l0 (ji14)).f2)⟩ : S33), (⟨wrap64 (((rd_T33 l0 (ji14)).f0) + (Int.tmod (wrap64 (a2)) ((rd_T33 l0 (ji14)).f1))), wrap64 (((rd_T33 l0 (ji14)).f1) - (Int.tmod (wrap64 (a2)) ((rd_T33 l0 (ji14)).f1))), wrap64 (((rd_T33 l0 (ji14)).f2) + (Int.tmod (wrap64 (a2)) ((rd_T33 l0 (ji14)).f1)))⟩ : S33)] : List (S33))) := ⟨_, rfl⟩
                 replace H : (if t225.length + y228.length < 5864062014805 then ((some (t225 ++ y228 : List (S33))).bind fun y231 => (if 0 ≤ (wrap64 (ji14 + 1)) then (if (wrap64 (ji14 + 1)) ≤ (l0.length : Int) then ((some (l0.drop ((wrap64 (ji14 + 1)) : Int).toNat : List (S33))).bind fun y234 => (if y231.length + y234.length < 5864062014805 then ((extent_Join.f kj23 (y231 ++ y234)).bind fun bt241 => (if bt241.2 = 0 then ((tegularef32_Same.f kj23 bt241.1 t208).bind fun t245 => (some t245)) else (some false))) else (none))) else (none)) else (none))) else (none)) = some r := by first | (rw [hy228]; with_reducible exact H) | (have H2_ := (Option.bind_some _ _).symm.trans H; rw [hy228]; with_reducible exact H2_) | (have H2_ := (Option.bind_some _ _).symm.trans H; with_reducible exact H2_) | with_reducible exact H | (rw [hy228]; exact H) | exact H
                 have Ny228 := Aside0.mk hy228
                 clear hy228
                 by_cases c46 : t225.length + y228.length < 5864062014805
                 ·
                  rw [if_pos c46] at H
                  have LMc46 := Aside0.mk c46
                  clear c46
                  obtain ⟨y231, hy231⟩ : ∃ y_ : List (S33), y_ = (t225 ++ y228) := ⟨_, rfl⟩
                  replace H : (if 0 ≤ (wrap64 (ji14 + 1)) then (if (wrap64 (ji14 + 1)) ≤ (l0.length : Int) then ((some (l0.drop ((wrap64 (ji14 + 1)) : Int).toNat : List (S33))).bind fun y234 => (if y231.length + y234.length < 5864062014805 then ((extent_Join.f kj23 (y231 ++ y234)).bind fun bt241 => (if bt241.2 = 0 then ((tegularef32_Same.f kj23 bt241.1 t208).bind fun t245 => (some t245)) else (some false))) else (none))) else (none)) else (none)) = some r := by first | (rw [hy231]; with_reducible exact H) | (have H2_ := (Option.bind_some _ _).symm.trans H; rw [hy231]; with_reducible exact H2_) | (have H2_ := (Option.bind_some _ _).symm.trans H; with_reducible exact H2_) | with_reducible exact H | (rw [hy231]; exact H) | exact H
                  have Ny231 := Aside0.mk hy231
                  clear hy231
                  obtain ⟨ji47, hji47⟩ : ∃ j_ : Int, (wrap64 (ji14 + 1)) = j_ := ⟨_, rfl⟩
                  replace H : (if 0 ≤ (ji47) then (if (ji47) ≤ (l0.length : Int) then ((some (l0.drop ((ji47) : Int).toNat : List (S33))).bind fun y234 => (if y231.length + y234.length < 5864062014805 then ((extent_Join.f kj23 (y231 ++ y234)).bind fun bt241 => (if bt241.2 = 0 then ((tegularef32_Same.f kj23 bt241.1 t208).bind fun t245 => (some t245)) else (some false))) else (none))) else (none)) else (none)) = some r := by first | (rw [hji47] at H; exact H) | (simp only [hji47] at H ⊢; exact H)
                  (try rw [hji47] at A45)
                  have hji47w : (IntKind.i64.wrap (ji14 + 1)) = ji47 := (i64_w _).trans hji47
                  by_cases c48 : 0 ≤ (ji47)
                  ·
                   rw [if_pos c48] at H
                   have c48b0 := eq_true c48
                   have c48b1 : decide (0 ≤ (ji47)) = true := decide_eq_true c48
                   clear c48
                   by_cases c49 : (ji47) ≤ (l0.length : Int)
                   ·
                    rw [if_pos c49] at H
                    have c49b0 := eq_true c49
                    have c49b1 : decide ((ji47) ≤ (l0.length : Int)) = true := decide_eq_true c49
                    clear c49
                    obtain ⟨y234, hy234⟩ : ∃ y_ : List (S33), y_ = (l0.drop ((ji47) : Int).toNat) := ⟨_, rfl⟩
                    replace H : (if y231.length + y234.length < 5864062014805 then ((extent_Join.f kj23 (y231 ++ y234)).bind fun bt241 => (if bt241.2 = 0 then ((tegularef32_Same.f kj23 bt241.1 t208).bind fun t245 => (some t245)) else (some false))) else (none)) = some r := by first | (rw [hy234]; with_reducible exact H) | (have H2_ := (Option.bind_some _ _).symm.trans H; rw [hy234]; with_reducible exact H2_) | (have H2_ := (Option.bind_some _ _).symm.trans H; with_reducible exact H2_) | with_reducible exact H | (rw [hy234]; exact H) | exact H
                    have Ny234 := Aside0.mk hy234
                    clear hy234
                    by_cases c50 : y231.length + y234.length < 5864062014805
                    ·
                     rw [if_pos c50] at H
                     have LMc50 := Aside0.mk c50
                     clear c50
                     obtain ⟨y238, hy238⟩ : ∃ y_ : List (S33), y_ = (y231 ++ y234) := ⟨_, rfl⟩
                     replace H : ((extent_Join.f kj23 y238).bind fun bt241 => (if bt241.2 = 0 then ((tegularef32_Same.f kj23 bt241.1 t208).bind fun t245 => (some t245)) else (some false))) = some r := by first | (rw [hy238]; with_reducible exact H) | (have H2_ := (Option.bind_some _ _).symm.trans H; rw [hy238]; with_reducible exact H2_) | (have H2_ := (Option.bind_some _ _).symm.trans H; with_reducible exact H2_) | with_reducible exact H | (rw [hy238]; exact H) | exact H
                     have Ny238 := Aside0.mk hy238
                     clear hy238
                     replace H := Option.bind_eq_some_iff.mp H
                     obtain ⟨⟨t241, t242⟩, A510, H⟩ := H
                     replace H : (if t242 = 0 then ((tegularef32_Same.f kj23 t241 t208).bind fun t245 => (some t245)) else (some false)) = some r := H
                     have A51 := Aside0.mk A510
                     clear A510
                     by_cases c52 : t242 = 0
                     ·
                      rw [if_pos c52] at H
                      have c52b0 : (t242 == 0) = true := beq_iff_eq.mpr c52
                      have c52b1 : (t242 != 0) = false := bne_eq_false_iff_eq.mpr c52
                      clear c52
                      replace H := Option.bind_eq_some_iff.mp H
                      obtain ⟨t245, A530, H⟩ := H
                      replace H : (some t245) = some r := H
                      have A53 := Aside0.mk A530
                      clear A530
                      obtain rfl := Option.some.inj H
                      have q54 : (ji14 : Int) ≤ ((l0.length : Int) : Int) := of_decide_eq_true (by first | (with_reducible assumption) | assumption)
                      obtain ⟨i054, hi054, _, hsz54, _⟩ := info_parts info33
                      have hroom54 : l0.length ≤ c0 := HC0.out
                      have hC54 : Kd.C k33 _ (some ad206) l0.length l0 := HR0.out
                      have hcut54 := cut_to (P := Try.prog) 22 33 .i64 Try.underlying22 hi054 (some ad206) l0.length c0 ji14 (of_decide_eq_true (by first | (with_reducible assumption) | assumption)) q54 hroom54
                      have hr54 := Kd.C_take (m := (ji14 : Int).toNat) hC54 (by omega)
                      have hy54 : y221.length = (ji14 : Int).toNat := (by rw [Ny221.out, List.length_take]; omega)
                      rw [← Ny221.out] at hr54
                      rw [← hy54] at hcut54
                      have HR224 := Aside0.mk hr54
                      have HC224 := Aside0.mk (show y221.length ≤ c0 from by omega)
                      clear hr54 hC54 hroom54 hi054 hsz54
                      have KY54 := Aside0.mk hy54
                      clear hy54
                      replace q54 := eq_true q54
                      go_wp2_with (first | ((with_reducible refine gate_callee (f := 12) rfl ?_); refine goesL_ (some 92) rfl rfl Try.func12 (by kernel_rfl) rfl #[.slice (some ad206) y221.length c0] rfl (by (try simp only [List.map_toArray, List.map_cons, List.map_nil]); first | done | rfl | (simp only [List.length_drop, List.length_take]; rfl)) ?_; (with_reducible refine (tegulalaw32_copied.calls _ _ y221 t225 _ ?side1 ?side2 A45.out).mono ?_); (case side1 => repeat (first | exact (Kd.C_below HR224.out HB.out) | (with_reducible refine Kd.C_alloc ?_ _) | (with_reducible refine Kd.C_drewN ?_ _) | (with_reducible refine Kd.C_drew ?_))); (case side2 => exact HC224.out); rintro e w55 ⟨v226, rfl, ho0, hb⟩; refine ⟨_, rfl, ?_⟩; have n0_ := Aside0.mk (Kd.R_elder' (by (with_reducible repeat (first | apply Kd.R_alloc | apply Kd.R_drewN | apply Kd.R_drew)); exact HO_10.out) (Kd.R_base ho0) hb); have n1_ := Aside0.mk (Kd.R_lower (Kd.R_newB (Kd.R_new' ho0 (Kd.R_lt (by (with_reducible repeat (first | apply Kd.R_alloc | apply Kd.R_drewN | apply Kd.R_drew)); exact HO_10.out))) (g := gb207) (o := .cells #[.int .i64 ((rd_T33 l0 (ji14)).f0), .int .i64 ((rd_T33 l0 (ji14)).f1), .int .i64 ((rd_T33 l0 (ji14)).f2)] 33 (0, 0)) (by (with_reducible repeat (first | refine blk_drewN ?_ _ | refine blk_drew ?_ | refine blk_alloc ?_ _)); exact BK207.out)) (below_size (by repeat (first | (with_reducible first | exact HB.out | apply below_alloc | apply pw_below_drewN | apply below_drew1 | refine below_set ?_ GE207.out) | exact HB.out)))); have n2_ := Aside0.mk (blk_below (g := gb207) (o := .cells #[.int .i64 ((rd_T33 l0 (ji14)).f0), .int .i64 ((rd_T33 l0 (ji14)).f1), .int .i64 ((rd_T33 l0 (ji14)).f2)] 33 (0, 0)) (by (with_reducible repeat (first | refine blk_drewN ?_ _ | refine blk_drew ?_ | refine blk_alloc ?_ _)); exact BK207.out) hb); have n3_ := Aside0.mk (below_step (by repeat (first | (with_reducible first | exact HB.out | apply below_alloc | apply pw_below_drewN | apply below_drew1 | refine below_set ?_ GE207.out) | exact HB.out)) hb); clear HO_10; clear BK207; clear HB; have HO_10 := n0_; have HO227 := n1_; have BK207 := n2_; have HB := n3_; clear n0_ n1_ n2_ n3_; (try clear hb); (try clear hb2); (try clear hk); (try clear hi); (try clear ho0); have hcz56_0 : w55.cell? ⟨gb207, 0, none⟩ = some (.int .i64 ((rd_T33 l0 (ji14)).f0)) := (blk_cell BK207.out 0).trans rfl; have hcz56_1 : w55.cell? ⟨gb207, 1, none⟩ = some (.int .i64 ((rd_T33 l0 (ji14)).f1)) := (blk_cell BK207.out 1).trans rfl; have hcz56_2 : w55.cell? ⟨gb207, 2, none⟩ = some (.int .i64 ((rd_T33 l0 (ji14)).f2)) := (blk_cell BK207.out 2).trans rfl; have hfz56_0 := blk_frozen BK207.out 0; have hfz56_1 := blk_frozen BK207.out 1; have hfz56_2 := blk_frozen BK207.out 2) | ((with_reducible refine gate_dst (N := 113) rfl ?_); (try (refine gate_guard (by rfl) ?_; dsimp only)); refine Kd.R_lit k33 _ 33 ?hg (N := 113) ?hd (xs := ([(⟨((rd_T33 l0 (ji14)).f0), (Int.tmod (wrap64 (a2)) ((rd_T33 l0 (ji14)).f1)), ((rd_T33 l0 (ji14)).f2)⟩ : S33), (⟨wrap64 (((rd_T33 l0 (ji14)).f0) + (Int.tmod (wrap64 (a2)) ((rd_T33 l0 (ji14)).f1))), wrap64 (((rd_T33 l0 (ji14)).f1) - (Int.tmod (wrap64 (a2)) ((rd_T33 l0 (ji14)).f1))), wrap64 (((rd_T33 l0 (ji14)).f2) + (Int.tmod (wrap64 (a2)) ((rd_T33 l0 (ji14)).f1)))⟩ : S33)] : List (S33))) (inner := [.int .i64 ((rd_T33 l0 (ji14)).f0), .int .i64 (Int.tmod (wrap64 (a2)) ((rd_T33 l0 (ji14)).f1)), .int .i64 ((rd_T33 l0 (ji14)).f2), .int .i64 (wrap64 (((rd_T33 l0 (ji14)).f0) + (Int.tmod (wrap64 (a2)) ((rd_T33 l0 (ji14)).f1)))), .int .i64 (wrap64 (((rd_T33 l0 (ji14)).f1) - (Int.tmod (wrap64 (a2)) ((rd_T33 l0 (ji14)).f1)))), .int .i64 (wrap64 (((rd_T33 l0 (ji14)).f2) + (Int.tmod (wrap64 (a2)) ((rd_T33 l0 (ji14)).f1))))]) (ok := fun _ => True) (okp := fun _ => True) ?hr ?hp (fun _ hk => hk) trivial (Below.refl _ _) (Nat.le_refl _) (by simp) ?_; (case hd => rfl); (case hg => rfl); (case hr => first | (go_simp; done) | (go_simp; rfl)); (case hp => exact (Reps.c3 (show Kd.M k33 _ _ _ (⟨((rd_T33 l0 (ji14)).f0), (Int.tmod (wrap64 (a2)) ((rd_T33 l0 (ji14)).f1)), ((rd_T33 l0 (ji14)).f2)⟩ : S33) [.int .i64 ((rd_T33 l0 (ji14)).f0), .int .i64 (Int.tmod (wrap64 (a2)) ((rd_T33 l0 (ji14)).f1)), .int .i64 ((rd_T33 l0 (ji14)).f2)] from (k33_mkM _ _ _ (⟨((rd_T33 l0 (ji14)).f0), (Int.tmod (wrap64 (a2)) ((rd_T33 l0 (ji14)).f1)), ((rd_T33 l0 (ji14)).f2)⟩ : S33) )) (Reps.c3 (show Kd.M k33 _ _ _ (⟨wrap64 (((rd_T33 l0 (ji14)).f0) + (Int.tmod (wrap64 (a2)) ((rd_T33 l0 (ji14)).f1))), wrap64 (((rd_T33 l0 (ji14)).f1) - (Int.tmod (wrap64 (a2)) ((rd_T33 l0 (ji14)).f1))), wrap64 (((rd_T33 l0 (ji14)).f2) + (Int.tmod (wrap64 (a2)) ((rd_T33 l0 (ji14)).f1)))⟩ : S33) [.int .i64 (wrap64 (((rd_T33 l0 (ji14)).f0) + (Int.tmod (wrap64 (a2)) ((rd_T33 l0 (ji14)).f1)))), .int .i64 (wrap64 (((rd_T33 l0 (ji14)).f1) - (Int.tmod (wrap64 (a2)) ((rd_T33 l0 (ji14)).f1)))), .int .i64 (wrap64 (((rd_T33 l0 (ji14)).f2) + (Int.tmod (wrap64 (a2)) ((rd_T33 l0 (ji14)).f1))))] from (k33_mkM _ _ _ (⟨wrap64 (((rd_T33 l0 (ji14)).f0) + (Int.tmod (wrap64 (a2)) ((rd_T33 l0 (ji14)).f1))), wrap64 (((rd_T33 l0 (ji14)).f1) - (Int.tmod (wrap64 (a2)) ((rd_T33 l0 (ji14)).f1))), wrap64 (((rd_T33 l0 (ji14)).f2) + (Int.tmod (wrap64 (a2)) ((rd_T33 l0 (ji14)).f1)))⟩ : S33) )) (Reps.none _ _)))); intro v229 w57 ho58 hb hg_ hnew_; clear hg_ hnew_; (first | rw [← Ny228.out] at ho58 | (simp only [Int.reduceToNat] at ho58; rw [← Ny228.out] at ho58)); have n0_ := Aside0.mk (Kd.R_elder' (by (with_reducible repeat (first | apply Kd.R_alloc | apply Kd.R_drewN | apply Kd.R_drew)); exact HO_10.out) (Kd.R_base ho58) hb); have n1_ := Aside0.mk (Kd.R_elder' (by (with_reducible repeat (first | apply Kd.R_alloc | apply Kd.R_drewN | apply Kd.R_drew)); exact HO227.out) (Kd.R_base ho58) hb); have n2_ := Aside0.mk (Kd.R_lower (Kd.R_newB (Kd.R_new' (Kd.R_new' ho58 (Kd.R_lt (by (with_reducible repeat (first | apply Kd.R_alloc | apply Kd.R_drewN | apply Kd.R_drew)); exact HO_10.out))) (Kd.R_lt (by (with_reducible repeat (first | apply Kd.R_alloc | apply Kd.R_drewN | apply Kd.R_drew)); exact HO227.out))) (g := gb207) (o := .cells #[.int .i64 ((rd_T33 l0 (ji14)).f0), .int .i64 ((rd_T33 l0 (ji14)).f1), .int .i64 ((rd_T33 l0 (ji14)).f2)] 33 (0, 0)) (by (with_reducible repeat (first | refine blk_drewN ?_ _ | refine blk_drew ?_ | refine blk_alloc ?_ _)); exact BK207.out)) (below_size (by repeat (first | (with_reducible first | exact HB.out | apply below_alloc | apply pw_below_drewN | apply below_drew1 | refine below_set ?_ GE207.out) | exact HB.out)))); have n3_ := Aside0.mk (blk_below (g := gb207) (o := .cells #[.int .i64 ((rd_T33 l0 (ji14)).f0), .int .i64 ((rd_T33 l0 (ji14)).f1), .int .i64 ((rd_T33 l0 (ji14)).f2)] 33 (0, 0)) (by (with_reducible repeat (first | refine blk_drewN ?_ _ | refine blk_drew ?_ | refine blk_alloc ?_ _)); exact BK207.out) hb); have n4_ := Aside0.mk (below_step (by repeat (first | (with_reducible first | exact HB.out | apply below_alloc | apply pw_below_drewN | apply below_drew1 | refine below_set ?_ GE207.out) | exact HB.out)) hb); clear HO_10; clear HO227; clear BK207; clear HB; have HO_10 := n0_; have HO227 := n1_; have HO230 := n2_; have BK207 := n3_; have HB := n4_; clear n0_ n1_ n2_ n3_ n4_; clear hb ho58; obtain ⟨Ao60, co60, eo60⟩ := Kd.R_slice HO230.out; subst eo60) | ((with_reducible refine gate_builtin (b := .append) (xs := #[.tmp 93, .tmp 113]) rfl ?_); (try (refine gate_guard (by rfl) ?_; dsimp only)); at_builtin; refine Kd.R_append_rows k33 (w0 := w) w.heap.size rfl (.tmp 93) (.tmp 113) 22 33 (.agg #[(.int .i64 0), (.int .i64 0), (.int .i64 0)]) 24 rfl Try.underlying22 info33 rfl (by decide) (by omega) v226 t225 y228 _ _ _ (fun k_ => some k_ ≠ (v210 : Value).ownBlock ∧ some k_ ≠ (.slice Ao60 y228.length co60 : Value).ownBlock ∧ k_ ≠ gb207) (fun _ => False) rfl rfl ?aO ?aR (fun _ _ h => h) (fun _ h => h.elim) ?aF ?aB ?aS ?aL ?_; (case aR => repeat (first | exact (Kd.R_reads' HO230.out).2.2 | (with_reducible refine Kd.C_alloc ?_ _) | (with_reducible refine Kd.C_drewN ?_ _) | (with_reducible refine Kd.C_drew ?_))); (case aB => exact (by repeat (first | (with_reducible first | exact HB.out | apply below_alloc | apply pw_below_drewN | apply below_drew1 | refine below_set ?_ GE207.out) | exact HB.out))); (case aF => exact (fun k_ hk => ⟨Kd.fresh' (Kd.R_lt (by (with_reducible repeat (first | apply Kd.R_alloc | apply Kd.R_drewN | apply Kd.R_drew)); exact HO_10.out)) k_ hk, Kd.fresh' (Kd.R_lt (by (with_reducible repeat (first | apply Kd.R_alloc | apply Kd.R_drewN | apply Kd.R_drew)); exact HO230.out)) k_ hk, Kd.freshB (g := gb207) (o := .cells #[.int .i64 ((rd_T33 l0 (ji14)).f0), .int .i64 ((rd_T33 l0 (ji14)).f1), .int .i64 ((rd_T33 l0 (ji14)).f2)] 33 (0, 0)) (by (with_reducible repeat (first | refine blk_drewN ?_ _ | refine blk_drew ?_ | refine blk_alloc ?_ _)); exact BK207.out) k_ hk⟩)); (case aO => exact (by (with_reducible repeat (first | apply Kd.R_alloc | apply Kd.R_drewN | apply Kd.R_drew)); exact Kd.R_mono HO227.out (fun _ hk => ⟨hk.1.1.2, ⟨hk.2, hk.1.2⟩⟩))); (case aS => exact (below_size (by repeat (first | (with_reducible first | exact HB.out | apply below_alloc | apply pw_below_drewN | apply below_drew1 | refine below_set ?_ GE207.out) | exact HB.out)))); (case aL => have := LMc46.out; omega); intro v232 w59 ho hb hg hat; rw [← Ny231.out] at ho; have n0_ := Aside0.mk (Kd.R_after (ok := (fun k_ => some k_ ≠ (.slice Ao60 y228.length co60 : Value).ownBlock ∧ k_ ≠ gb207)) (by (with_reducible repeat (first | apply Kd.R_alloc | apply Kd.R_drewN | apply Kd.R_drew)); exact Kd.R_mono HO_10.out (fun _ hk => ⟨⟨hk.2, hk.1.1⟩, hk.1.2⟩)) hg hat); have n1_ := Aside0.mk (blk_grown (g := gb207) (o := .cells #[.int .i64 ((rd_T33 l0 (ji14)).f0), .int .i64 ((rd_T33 l0 (ji14)).f1), .int .i64 ((rd_T33 l0 (ji14)).f2)] 33 (0, 0)) (by (with_reducible repeat (first | refine blk_drewN ?_ _ | refine blk_drew ?_ | refine blk_alloc ?_ _)); exact BK207.out) hg (Kd.R_away HO227.out (fun _ hk => hk.1.2))); have n2_ := Aside0.mk (Kd.R_after (ok := (fun k_ => some k_ ≠ (v210 : Value).ownBlock ∧ k_ ≠ gb207)) (by (with_reducible repeat (first | apply Kd.R_alloc | apply Kd.R_drewN | apply Kd.R_drew)); exact Kd.R_mono HO230.out (fun _ hk => ⟨⟨hk.1.1.2, hk.2⟩, hk.1.2⟩)) hg hat); have n3_ := Aside0.mk (hb); have n4_ := Aside0.mk (ho); clear HO_10; clear BK207; clear HO230; clear HB; clear HO227; have HO_10 := n0_; have BK207 := n1_; have HO230 := n2_; have HB := n3_; have HO233 := n4_; clear n0_ n1_ n2_ n3_ n4_; clear ho hb hg hat; have q61 : ((ji47) : Int) ≤ ((l0.length : Int) : Int) := of_decide_eq_true (by first | (with_reducible assumption) | assumption); obtain ⟨i061, hi061, _, hsz61, _⟩ := info_parts info33; have hroom61 : l0.length ≤ c0 := HC0.out; have hC61 : Kd.C k33 _ (some ad206) l0.length l0 := HR0.out; have q061 : (0 : Int) ≤ ((ji47) : Int) := of_decide_eq_true (by first | (with_reducible assumption) | assumption); have hcut61 := cut_from (P := Try.prog) 22 33 .i64 Try.underlying22 hi061 3 hsz61 (some ad206) l0.length c0 (ji47) q061 q61; have hr61 := Kd.C_drop (m := ((ji47) : Int).toNat) (c := c0) hC61 (by omega) hroom61; obtain ⟨A61, hA61⟩ : ∃ A1, A1 = (if c0 = ((ji47) : Int).toNat then (some ad206) else ((some ad206) : Option Addr).map (·.add (((ji47) : Int).toNat * 3))) := ⟨_, rfl⟩; obtain ⟨c61, hc61⟩ : ∃ c1, c1 = c0 - ((ji47) : Int).toNat := ⟨_, rfl⟩; have hy61 : y234.length = l0.length - ((ji47) : Int).toNat := (by rw [Ny234.out, List.length_drop] <;> omega); rw [show (l0).drop ((ji47) : Int).toNat = y234 from Ny234.out.symm] at hr61; replace hr61 : Kd.C k33 _ A61 y234.length y234 := (by rw [hA61]; exact hr61); rw [← hy61, ← hA61, ← hc61] at hcut61; have HR237 := Aside0.mk hr61; have HC237 := Aside0.mk (show y234.length ≤ c61 from by rw [hy61, hc61]; exact Nat.sub_le_sub_right hroom61 _); clear hr61 hC61 hroom61 hi061 hsz61 hc61; have KY61 := Aside0.mk hy61; have KA61 := Aside0.mk hA61; clear hy61 hA61; replace q61 := eq_true q61) | ((with_reducible refine gate_builtin (b := .append) (xs := #[.tmp 116, .tmp 120]) rfl ?_); (try (refine gate_guard (by rfl) ?_; dsimp only)); at_builtin; refine Kd.R_append_rows k33 (w0 := w) w.heap.size rfl (.tmp 116) (.tmp 120) 22 33 (.agg #[(.int .i64 0), (.int .i64 0), (.int .i64 0)]) 24 rfl Try.underlying22 info33 rfl (by decide) (by omega) v232 y231 y234 _ _ _ (fun k_ => some k_ ≠ (v210 : Value).ownBlock ∧ some k_ ≠ (.slice Ao60 y228.length co60 : Value).ownBlock ∧ k_ ≠ gb207) (fun _ => False) rfl rfl ?aO ?aR (fun _ _ h => h) (fun _ h => h.elim) ?aF ?aB ?aS ?aL ?_; (case aR => repeat (first | exact (Kd.C_below HR237.out HB.out) | (with_reducible refine Kd.C_alloc ?_ _) | (with_reducible refine Kd.C_drewN ?_ _) | (with_reducible refine Kd.C_drew ?_))); (case aB => exact (by repeat (first | (with_reducible first | exact HB.out | apply below_alloc | apply pw_below_drewN | apply below_drew1 | refine below_set ?_ GE207.out) | exact HB.out))); (case aF => exact (fun k_ hk => ⟨Kd.fresh' (Kd.R_lt (by (with_reducible repeat (first | apply Kd.R_alloc | apply Kd.R_drewN | apply Kd.R_drew)); exact HO_10.out)) k_ hk, Kd.fresh' (Kd.R_lt (by (with_reducible repeat (first | apply Kd.R_alloc | apply Kd.R_drewN | apply Kd.R_drew)); exact HO230.out)) k_ hk, Kd.freshB (g := gb207) (o := .cells #[.int .i64 ((rd_T33 l0 (ji14)).f0), .int .i64 ((rd_T33 l0 (ji14)).f1), .int .i64 ((rd_T33 l0 (ji14)).f2)] 33 (0, 0)) (by (with_reducible repeat (first | refine blk_drewN ?_ _ | refine blk_drew ?_ | refine blk_alloc ?_ _)); exact BK207.out) k_ hk⟩)); (case aO => exact (by (with_reducible repeat (first | apply Kd.R_alloc | apply Kd.R_drewN | apply Kd.R_drew)); exact HO233.out)); (case aS => exact (below_size (by repeat (first | (with_reducible first | exact HB.out | apply below_alloc | apply pw_below_drewN | apply below_drew1 | refine below_set ?_ GE207.out) | exact HB.out)))); (case aL => have := LMc50.out; omega); intro v239 w62 ho hb hg hat; rw [← Ny238.out] at ho; have n0_ := Aside0.mk (Kd.R_after (ok := (fun k_ => some k_ ≠ (.slice Ao60 y228.length co60 : Value).ownBlock ∧ k_ ≠ gb207)) (by (with_reducible repeat (first | apply Kd.R_alloc | apply Kd.R_drewN | apply Kd.R_drew)); exact HO_10.out) hg hat); have n1_ := Aside0.mk (blk_grown (g := gb207) (o := .cells #[.int .i64 ((rd_T33 l0 (ji14)).f0), .int .i64 ((rd_T33 l0 (ji14)).f1), .int .i64 ((rd_T33 l0 (ji14)).f2)] 33 (0, 0)) (by (with_reducible repeat (first | refine blk_drewN ?_ _ | refine blk_drew ?_ | refine blk_alloc ?_ _)); exact BK207.out) hg (Kd.R_away HO233.out (fun _ hk => hk.2.2))); have n2_ := Aside0.mk (Kd.R_after (ok := (fun k_ => some k_ ≠ (v210 : Value).ownBlock ∧ k_ ≠ gb207)) (by (with_reducible repeat (first | apply Kd.R_alloc | apply Kd.R_drewN | apply Kd.R_drew)); exact HO230.out) hg hat); have n3_ := Aside0.mk (hb); have n4_ := Aside0.mk (ho); clear HO_10; clear BK207; clear HO230; clear HB; clear HO233; have HO_10 := n0_; have BK207 := n1_; have HO230 := n2_; have HB := n3_; have HO240 := n4_; clear n0_ n1_ n2_ n3_ n4_; clear ho hb hg hat; obtain ⟨Ao63, co63, eo63⟩ := Kd.R_slice HO240.out; subst eo63) | ((with_reducible refine gate_callee (f := 17) rfl ?_); refine goesL_ (some 122) rfl rfl Try.func17 (by kernel_rfl) rfl #[.slice Ao63 y238.length co63] rfl (by (try simp only [List.map_toArray, List.map_cons, List.map_nil]); first | done | rfl | (simp only [List.length_drop, List.length_take]; rfl)) ?_; (with_reducible refine (extent_Join.calls kj23 _ _ y238 t241 t242 _ ?side1 ?side2 A51.out).mono ?_); (case side1 => repeat (first | exact (Kd.R_reads' HO240.out).2.2 | (with_reducible refine Kd.C_alloc ?_ _) | (with_reducible refine Kd.C_drewN ?_ _) | (with_reducible refine Kd.C_drew ?_))); (case side2 => exact (Kd.R_reads' HO240.out).2.1); rintro e w64 ⟨v243, rfl, ho0, hb⟩; refine ⟨_, rfl, ?_⟩; have n0_ := Aside0.mk (Kd.R_elder' (by (with_reducible repeat (first | apply Kd.R_alloc | apply Kd.R_drewN | apply Kd.R_drew)); exact HO_10.out) (Kd.R_base ho0) hb); have n1_ := Aside0.mk (Kd.R_elder' (by (with_reducible repeat (first | apply Kd.R_alloc | apply Kd.R_drewN | apply Kd.R_drew)); exact HO230.out) (Kd.R_base ho0) hb); have n2_ := Aside0.mk (Kd.R_elder' (by (with_reducible repeat (first | apply Kd.R_alloc | apply Kd.R_drewN | apply Kd.R_drew)); exact HO240.out) (Kd.R_base ho0) hb); have n3_ := Aside0.mk (Kd.R_lower (Kd.R_newB (Kd.R_new' (Kd.R_new' (Kd.R_new' ho0 (Kd.R_lt (by (with_reducible repeat (first | apply Kd.R_alloc | apply Kd.R_drewN | apply Kd.R_drew)); exact HO_10.out))) (Kd.R_lt (by (with_reducible repeat (first | apply Kd.R_alloc | apply Kd.R_drewN | apply Kd.R_drew)); exact HO230.out))) (Kd.R_lt (by (with_reducible repeat (first | apply Kd.R_alloc | apply Kd.R_drewN | apply Kd.R_drew)); exact HO240.out))) (g := gb207) (o := .cells #[.int .i64 ((rd_T33 l0 (ji14)).f0), .int .i64 ((rd_T33 l0 (ji14)).f1), .int .i64 ((rd_T33 l0 (ji14)).f2)] 33 (0, 0)) (by (with_reducible repeat (first | refine blk_drewN ?_ _ | refine blk_drew ?_ | refine blk_alloc ?_ _)); exact BK207.out)) (below_size (by repeat (first | (with_reducible first | exact HB.out | apply below_alloc | apply pw_below_drewN | apply below_drew1 | refine below_set ?_ GE207.out) | exact HB.out)))); have n4_ := Aside0.mk (blk_below (g := gb207) (o := .cells #[.int .i64 ((rd_T33 l0 (ji14)).f0), .int .i64 ((rd_T33 l0 (ji14)).f1), .int .i64 ((rd_T33 l0 (ji14)).f2)] 33 (0, 0)) (by (with_reducible repeat (first | refine blk_drewN ?_ _ | refine blk_drew ?_ | refine blk_alloc ?_ _)); exact BK207.out) hb); have n5_ := Aside0.mk (below_step (by repeat (first | (with_reducible first | exact HB.out | apply below_alloc | apply pw_below_drewN | apply below_drew1 | refine below_set ?_ GE207.out) | exact HB.out)) hb); clear HO_10; clear HO230; clear HO240; clear BK207; clear HB; have HO_10 := n0_; have HO230 := n1_; have HO240 := n2_; have HO244 := n3_; have BK207 := n4_; have HB := n5_; clear n0_ n1_ n2_ n3_ n4_ n5_; (try clear hb); (try clear hb2); (try clear hk); (try clear hi); (try clear ho0); obtain ⟨Ao65, co65, eo65⟩ := Kd.R_slice HO244.out; subst eo65; obtain ⟨Ao66, co66, eo66⟩ := Kd.R_slice HO_10.out; subst eo66) | (go_at_call 15; (with_reducible refine (tegularef32_Same.calls kj23 _ _ t241 _ _ t208 t245 _ ?side1 ?side2 ?side3 ?side4 A53.out).mono ?_); (case side1 => repeat (first | exact (Kd.R_reads' HO244.out).2.2 | (with_reducible refine Kd.C_alloc ?_ _) | (with_reducible refine Kd.C_drewN ?_ _) | (with_reducible refine Kd.C_drew ?_))); (case side2 => exact (Kd.R_reads' HO244.out).2.1); (case side3 => repeat (first | exact (Kd.R_reads' HO_10.out).2.2 | (with_reducible refine Kd.C_alloc ?_ _) | (with_reducible refine Kd.C_drewN ?_ _) | (with_reducible refine Kd.C_drew ?_))); (case side4 => exact (Kd.R_reads' HO_10.out).2.1); rintro e w' ⟨rfl, ⟨nd, rfl⟩⟩))
                      go_ret
                      exact ⟨by first | rfl | (simp [errW_none, errW_some] <;> rfl) | (simp only [← hji14, ← hji47]; first | rfl | (simp [errW_none, errW_some] <;> rfl)) | (simp [*, errW_none, errW_some] <;> rfl), by repeat (first | (with_reducible first | exact HB.out | apply below_alloc | apply pw_below_drewN | apply below_drew1 | refine below_set ?_ GE207.out) | exact HB.out)⟩
                     ·
                      rw [if_neg c52] at H
                      have c52b0 : (t242 == 0) = false := beq_eq_false_iff_ne.mpr c52
                      have c52b1 : (t242 != 0) = true := bne_iff_ne.mpr c52
                      obtain rfl := Option.some.inj H
                      have q67 : (ji14 : Int) ≤ ((l0.length : Int) : Int) := of_decide_eq_true (by first | (with_reducible assumption) | assumption)
                      obtain ⟨i067, hi067, _, hsz67, _⟩ := info_parts info33
                      have hroom67 : l0.length ≤ c0 := HC0.out
                      have hC67 : Kd.C k33 _ (some ad206) l0.length l0 := HR0.out
                      have hcut67 := cut_to (P := Try.prog) 22 33 .i64 Try.underlying22 hi067 (some ad206) l0.length c0 ji14 (of_decide_eq_true (by first | (with_reducible assumption) | assumption)) q67 hroom67
                      have hr67 := Kd.C_take (m := (ji14 : Int).toNat) hC67 (by omega)
                      have hy67 : y221.length = (ji14 : Int).toNat := (by rw [Ny221.out, List.length_take]; omega)
                      rw [← Ny221.out] at hr67
                      rw [← hy67] at hcut67
                      have HR224 := Aside0.mk hr67
                      have HC224 := Aside0.mk (show y221.length ≤ c0 from by omega)
                      clear hr67 hC67 hroom67 hi067 hsz67
                      have KY67 := Aside0.mk hy67
                      clear hy67
                      replace q67 := eq_true q67
                      go_wp2_with (first | ((with_reducible refine gate_callee (f := 12) rfl ?_); refine goesL_ (some 92) rfl rfl Try.func12 (by kernel_rfl) rfl #[.slice (some ad206) y221.length c0] rfl (by (try simp only [List.map_toArray, List.map_cons, List.map_nil]); first | done | rfl | (simp only [List.length_drop, List.length_take]; rfl)) ?_; (with_reducible refine (tegulalaw32_copied.calls _ _ y221 t225 _ ?side1 ?side2 A45.out).mono ?_); (case side1 => repeat (first | exact (Kd.C_below HR224.out HB.out) | (with_reducible refine Kd.C_alloc ?_ _) | (with_reducible refine Kd.C_drewN ?_ _) | (with_reducible refine Kd.C_drew ?_))); (case side2 => exact HC224.out); rintro e w68 ⟨v226, rfl, ho0, hb⟩; refine ⟨_, rfl, ?_⟩; have n0_ := Aside0.mk (Kd.R_elder' (by (with_reducible repeat (first | apply Kd.R_alloc | apply Kd.R_drewN | apply Kd.R_drew)); exact HO_10.out) (Kd.R_base ho0) hb); have n1_ := Aside0.mk (Kd.R_lower (Kd.R_newB (Kd.R_new' ho0 (Kd.R_lt (by (with_reducible repeat (first | apply Kd.R_alloc | apply Kd.R_drewN | apply Kd.R_drew)); exact HO_10.out))) (g := gb207) (o := .cells #[.int .i64 ((rd_T33 l0 (ji14)).f0), .int .i64 ((rd_T33 l0 (ji14)).f1), .int .i64 ((rd_T33 l0 (ji14)).f2)] 33 (0, 0)) (by (with_reducible repeat (first | refine blk_drewN ?_ _ | refine blk_drew ?_ | refine blk_alloc ?_ _)); exact BK207.out)) (below_size (by repeat (first | (with_reducible first | exact HB.out | apply below_alloc | apply pw_below_drewN | apply below_drew1 | refine below_set ?_ GE207.out) | exact HB.out)))); have n2_ := Aside0.mk (blk_below (g := gb207) (o := .cells #[.int .i64 ((rd_T33 l0 (ji14)).f0), .int .i64 ((rd_T33 l0 (ji14)).f1), .int .i64 ((rd_T33 l0 (ji14)).f2)] 33 (0, 0)) (by (with_reducible repeat (first | refine blk_drewN ?_ _ | refine blk_drew ?_ | refine blk_alloc ?_ _)); exact BK207.out) hb); have n3_ := Aside0.mk (below_step (by repeat (first | (with_reducible first | exact HB.out | apply below_alloc | apply pw_below_drewN | apply below_drew1 | refine below_set ?_ GE207.out) | exact HB.out)) hb); clear HO_10; clear BK207; clear HB; have HO_10 := n0_; have HO227 := n1_; have BK207 := n2_; have HB := n3_; clear n0_ n1_ n2_ n3_; (try clear hb); (try clear hb2); (try clear hk); (try clear hi); (try clear ho0); have hcz69_0 : w68.cell? ⟨gb207, 0, none⟩ = some (.int .i64 ((rd_T33 l0 (ji14)).f0)) := (blk_cell BK207.out 0).trans rfl; have hcz69_1 : w68.cell? ⟨gb207, 1, none⟩ = some (.int .i64 ((rd_T33 l0 (ji14)).f1)) := (blk_cell BK207.out 1).trans rfl; have hcz69_2 : w68.cell? ⟨gb207, 2, none⟩ = some (.int .i64 ((rd_T33 l0 (ji14)).f2)) := (blk_cell BK207.out 2).trans rfl; have hfz69_0 := blk_frozen BK207.out 0; have hfz69_1 := blk_frozen BK207.out 1; have hfz69_2 := blk_frozen BK207.out 2) | ((with_reducible refine gate_dst (N := 113) rfl ?_); (try (refine gate_guard (by rfl) ?_; dsimp only)); refine Kd.R_lit k33 _ 33 ?hg (N := 113) ?hd (xs := ([(⟨((rd_T33 l0 (ji14)).f0), (Int.tmod (wrap64 (a2)) ((rd_T33 l0 (ji14)).f1)), ((rd_T33 l0 (ji14)).f2)⟩ : S33), (⟨wrap64 (((rd_T33 l0 (ji14)).f0) + (Int.tmod (wrap64 (a2)) ((rd_T33 l0 (ji14)).f1))), wrap64 (((rd_T33 l0 (ji14)).f1) - (Int.tmod (wrap64 (a2)) ((rd_T33 l0 (ji14)).f1))), wrap64 (((rd_T33 l0 (ji14)).f2) + (Int.tmod (wrap64 (a2)) ((rd_T33 l0 (ji14)).f1)))⟩ : S33)] : List (S33))) (inner := [.int .i64 ((rd_T33 l0 (ji14)).f0), .int .i64 (Int.tmod (wrap64 (a2)) ((rd_T33 l0 (ji14)).f1)), .int .i64 ((rd_T33 l0 (ji14)).f2), .int .i64 (wrap64 (((rd_T33 l0 (ji14)).f0) + (Int.tmod (wrap64 (a2)) ((rd_T33 l0 (ji14)).f1)))), .int .i64 (wrap64 (((rd_T33 l0 (ji14)).f1) - (Int.tmod (wrap64 (a2)) ((rd_T33 l0 (ji14)).f1)))), .int .i64 (wrap64 (((rd_T33 l0 (ji14)).f2) + (Int.tmod (wrap64 (a2)) ((rd_T33 l0 (ji14)).f1))))]) (ok := fun _ => True) (okp := fun _ => True) ?hr ?hp (fun _ hk => hk) trivial (Below.refl _ _) (Nat.le_refl _) (by simp) ?_; (case hd => rfl); (case hg => rfl); (case hr => first | (go_simp; done) | (go_simp; rfl)); (case hp => exact (Reps.c3 (show Kd.M k33 _ _ _ (⟨((rd_T33 l0 (ji14)).f0), (Int.tmod (wrap64 (a2)) ((rd_T33 l0 (ji14)).f1)), ((rd_T33 l0 (ji14)).f2)⟩ : S33) [.int .i64 ((rd_T33 l0 (ji14)).f0), .int .i64 (Int.tmod (wrap64 (a2)) ((rd_T33 l0 (ji14)).f1)), .int .i64 ((rd_T33 l0 (ji14)).f2)] from (k33_mkM _ _ _ (⟨((rd_T33 l0 (ji14)).f0), (Int.tmod (wrap64 (a2)) ((rd_T33 l0 (ji14)).f1)), ((rd_T33 l0 (ji14)).f2)⟩ : S33) )) (Reps.c3 (show Kd.M k33 _ _ _ (⟨wrap64 (((rd_T33 l0 (ji14)).f0) + (Int.tmod (wrap64 (a2)) ((rd_T33 l0 (ji14)).f1))), wrap64 (((rd_T33 l0 (ji14)).f1) - (Int.tmod (wrap64 (a2)) ((rd_T33 l0 (ji14)).f1))), wrap64 (((rd_T33 l0 (ji14)).f2) + (Int.tmod (wrap64 (a2)) ((rd_T33 l0 (ji14)).f1)))⟩ : S33) [.int .i64 (wrap64 (((rd_T33 l0 (ji14)).f0) + (Int.tmod (wrap64 (a2)) ((rd_T33 l0 (ji14)).f1)))), .int .i64 (wrap64 (((rd_T33 l0 (ji14)).f1) - (Int.tmod (wrap64 (a2)) ((rd_T33 l0 (ji14)).f1)))), .int .i64 (wrap64 (((rd_T33 l0 (ji14)).f2) + (Int.tmod (wrap64 (a2)) ((rd_T33 l0 (ji14)).f1))))] from (k33_mkM _ _ _ (⟨wrap64 (((rd_T33 l0 (ji14)).f0) + (Int.tmod (wrap64 (a2)) ((rd_T33 l0 (ji14)).f1))), wrap64 (((rd_T33 l0 (ji14)).f1) - (Int.tmod (wrap64 (a2)) ((rd_T33 l0 (ji14)).f1))), wrap64 (((rd_T33 l0 (ji14)).f2) + (Int.tmod (wrap64 (a2)) ((rd_T33 l0 (ji14)).f1)))⟩ : S33) )) (Reps.none _ _)))); intro v229 w70 ho71 hb hg_ hnew_; clear hg_ hnew_; (first | rw [← Ny228.out] at ho71 | (simp only [Int.reduceToNat] at ho71; rw [← Ny228.out] at ho71)); have n0_ := Aside0.mk (Kd.R_elder' (by (with_reducible repeat (first | apply Kd.R_alloc | apply Kd.R_drewN | apply Kd.R_drew)); exact HO_10.out) (Kd.R_base ho71) hb); have n1_ := Aside0.mk (Kd.R_elder' (by (with_reducible repeat (first | apply Kd.R_alloc | apply Kd.R_drewN | apply Kd.R_drew)); exact HO227.out) (Kd.R_base ho71) hb); have n2_ := Aside0.mk (Kd.R_lower (Kd.R_newB (Kd.R_new' (Kd.R_new' ho71 (Kd.R_lt (by (with_reducible repeat (first | apply Kd.R_alloc | apply Kd.R_drewN | apply Kd.R_drew)); exact HO_10.out))) (Kd.R_lt (by (with_reducible repeat (first | apply Kd.R_alloc | apply Kd.R_drewN | apply Kd.R_drew)); exact HO227.out))) (g := gb207) (o := .cells #[.int .i64 ((rd_T33 l0 (ji14)).f0), .int .i64 ((rd_T33 l0 (ji14)).f1), .int .i64 ((rd_T33 l0 (ji14)).f2)] 33 (0, 0)) (by (with_reducible repeat (first | refine blk_drewN ?_ _ | refine blk_drew ?_ | refine blk_alloc ?_ _)); exact BK207.out)) (below_size (by repeat (first | (with_reducible first | exact HB.out | apply below_alloc | apply pw_below_drewN | apply below_drew1 | refine below_set ?_ GE207.out) | exact HB.out)))); have n3_ := Aside0.mk (blk_below (g := gb207) (o := .cells #[.int .i64 ((rd_T33 l0 (ji14)).f0), .int .i64 ((rd_T33 l0 (ji14)).f1), .int .i64 ((rd_T33 l0 (ji14)).f2)] 33 (0, 0)) (by (with_reducible repeat (first | refine blk_drewN ?_ _ | refine blk_drew ?_ | refine blk_alloc ?_ _)); exact BK207.out) hb); have n4_ := Aside0.mk (below_step (by repeat (first | (with_reducible first | exact HB.out | apply below_alloc | apply pw_below_drewN | apply below_drew1 | refine below_set ?_ GE207.out) | exact HB.out)) hb); clear HO_10; clear HO227; clear BK207; clear HB; have HO_10 := n0_; have HO227 := n1_; have HO230 := n2_; have BK207 := n3_; have HB := n4_; clear n0_ n1_ n2_ n3_ n4_; clear hb ho71; obtain ⟨Ao73, co73, eo73⟩ := Kd.R_slice HO230.out; subst eo73) | ((with_reducible refine gate_builtin (b := .append) (xs := #[.tmp 93, .tmp 113]) rfl ?_); (try (refine gate_guard (by rfl) ?_; dsimp only)); at_builtin; refine Kd.R_append_rows k33 (w0 := w) w.heap.size rfl (.tmp 93) (.tmp 113) 22 33 (.agg #[(.int .i64 0), (.int .i64 0), (.int .i64 0)]) 24 rfl Try.underlying22 info33 rfl (by decide) (by omega) v226 t225 y228 _ _ _ (fun k_ => some k_ ≠ (v210 : Value).ownBlock ∧ some k_ ≠ (.slice Ao73 y228.length co73 : Value).ownBlock ∧ k_ ≠ gb207) (fun _ => False) rfl rfl ?aO ?aR (fun _ _ h => h) (fun _ h => h.elim) ?aF ?aB ?aS ?aL ?_; (case aR => repeat (first | exact (Kd.R_reads' HO230.out).2.2 | (with_reducible refine Kd.C_alloc ?_ _) | (with_reducible refine Kd.C_drewN ?_ _) | (with_reducible refine Kd.C_drew ?_))); (case aB => exact (by repeat (first | (with_reducible first | exact HB.out | apply below_alloc | apply pw_below_drewN | apply below_drew1 | refine below_set ?_ GE207.out) | exact HB.out))); (case aF => exact (fun k_ hk => ⟨Kd.fresh' (Kd.R_lt (by (with_reducible repeat (first | apply Kd.R_alloc | apply Kd.R_drewN | apply Kd.R_drew)); exact HO_10.out)) k_ hk, Kd.fresh' (Kd.R_lt (by (with_reducible repeat (first | apply Kd.R_alloc | apply Kd.R_drewN | apply Kd.R_drew)); exact HO230.out)) k_ hk, Kd.freshB (g := gb207) (o := .cells #[.int .i64 ((rd_T33 l0 (ji14)).f0), .int .i64 ((rd_T33 l0 (ji14)).f1), .int .i64 ((rd_T33 l0 (ji14)).f2)] 33 (0, 0)) (by (with_reducible repeat (first | refine blk_drewN ?_ _ | refine blk_drew ?_ | refine blk_alloc ?_ _)); exact BK207.out) k_ hk⟩)); (case aO => exact (by (with_reducible repeat (first | apply Kd.R_alloc | apply Kd.R_drewN | apply Kd.R_drew)); exact Kd.R_mono HO227.out (fun _ hk => ⟨hk.1.1.2, ⟨hk.2, hk.1.2⟩⟩))); (case aS => exact (below_size (by repeat (first | (with_reducible first | exact HB.out | apply below_alloc | apply pw_below_drewN | apply below_drew1 | refine below_set ?_ GE207.out) | exact HB.out)))); (case aL => have := LMc46.out; omega); intro v232 w72 ho hb hg hat; rw [← Ny231.out] at ho; have n0_ := Aside0.mk (Kd.R_after (ok := (fun k_ => some k_ ≠ (.slice Ao73 y228.length co73 : Value).ownBlock ∧ k_ ≠ gb207)) (by (with_reducible repeat (first | apply Kd.R_alloc | apply Kd.R_drewN | apply Kd.R_drew)); exact Kd.R_mono HO_10.out (fun _ hk => ⟨⟨hk.2, hk.1.1⟩, hk.1.2⟩)) hg hat); have n1_ := Aside0.mk (blk_grown (g := gb207) (o := .cells #[.int .i64 ((rd_T33 l0 (ji14)).f0), .int .i64 ((rd_T33 l0 (ji14)).f1), .int .i64 ((rd_T33 l0 (ji14)).f2)] 33 (0, 0)) (by (with_reducible repeat (first | refine blk_drewN ?_ _ | refine blk_drew ?_ | refine blk_alloc ?_ _)); exact BK207.out) hg (Kd.R_away HO227.out (fun _ hk => hk.1.2))); have n2_ := Aside0.mk (Kd.R_after (ok := (fun k_ => some k_ ≠ (v210 : Value).ownBlock ∧ k_ ≠ gb207)) (by (with_reducible repeat (first | apply Kd.R_alloc | apply Kd.R_drewN | apply Kd.R_drew)); exact Kd.R_mono HO230.out (fun _ hk => ⟨⟨hk.1.1.2, hk.2⟩, hk.1.2⟩)) hg hat); have n3_ := Aside0.mk (hb); have n4_ := Aside0.mk (ho); clear HO_10; clear BK207; clear HO230; clear HB; clear HO227; have HO_10 := n0_; have BK207 := n1_; have HO230 := n2_; have HB := n3_; have HO233 := n4_; clear n0_ n1_ n2_ n3_ n4_; clear ho hb hg hat; have q74 : ((ji47) : Int) ≤ ((l0.length : Int) : Int) := of_decide_eq_true (by first | (with_reducible assumption) | assumption); obtain ⟨i074, hi074, _, hsz74, _⟩ := info_parts info33; have hroom74 : l0.length ≤ c0 := HC0.out; have hC74 : Kd.C k33 _ (some ad206) l0.length l0 := HR0.out; have q074 : (0 : Int) ≤ ((ji47) : Int) := of_decide_eq_true (by first | (with_reducible assumption) | assumption); have hcut74 := cut_from (P := Try.prog) 22 33 .i64 Try.underlying22 hi074 3 hsz74 (some ad206) l0.length c0 (ji47) q074 q74; have hr74 := Kd.C_drop (m := ((ji47) : Int).toNat) (c := c0) hC74 (by omega) hroom74; obtain ⟨A74, hA74⟩ : ∃ A1, A1 = (if c0 = ((ji47) : Int).toNat then (some ad206) else ((some ad206) : Option Addr).map (·.add (((ji47) : Int).toNat * 3))) := ⟨_, rfl⟩; obtain ⟨c74, hc74⟩ : ∃ c1, c1 = c0 - ((ji47) : Int).toNat := ⟨_, rfl⟩; have hy74 : y234.length = l0.length - ((ji47) : Int).toNat := (by rw [Ny234.out, List.length_drop] <;> omega); rw [show (l0).drop ((ji47) : Int).toNat = y234 from Ny234.out.symm] at hr74; replace hr74 : Kd.C k33 _ A74 y234.length y234 := (by rw [hA74]; exact hr74); rw [← hy74, ← hA74, ← hc74] at hcut74; have HR237 := Aside0.mk hr74; have HC237 := Aside0.mk (show y234.length ≤ c74 from by rw [hy74, hc74]; exact Nat.sub_le_sub_right hroom74 _); clear hr74 hC74 hroom74 hi074 hsz74 hc74; have KY74 := Aside0.mk hy74; have KA74 := Aside0.mk hA74; clear hy74 hA74; replace q74 := eq_true q74) | ((with_reducible refine gate_builtin (b := .append) (xs := #[.tmp 116, .tmp 120]) rfl ?_); (try (refine gate_guard (by rfl) ?_; dsimp only)); at_builtin; refine Kd.R_append_rows k33 (w0 := w) w.heap.size rfl (.tmp 116) (.tmp 120) 22 33 (.agg #[(.int .i64 0), (.int .i64 0), (.int .i64 0)]) 24 rfl Try.underlying22 info33 rfl (by decide) (by omega) v232 y231 y234 _ _ _ (fun k_ => some k_ ≠ (v210 : Value).ownBlock ∧ some k_ ≠ (.slice Ao73 y228.length co73 : Value).ownBlock ∧ k_ ≠ gb207) (fun _ => False) rfl rfl ?aO ?aR (fun _ _ h => h) (fun _ h => h.elim) ?aF ?aB ?aS ?aL ?_; (case aR => repeat (first | exact (Kd.C_below HR237.out HB.out) | (with_reducible refine Kd.C_alloc ?_ _) | (with_reducible refine Kd.C_drewN ?_ _) | (with_reducible refine Kd.C_drew ?_))); (case aB => exact (by repeat (first | (with_reducible first | exact HB.out | apply below_alloc | apply pw_below_drewN | apply below_drew1 | refine below_set ?_ GE207.out) | exact HB.out))); (case aF => exact (fun k_ hk => ⟨Kd.fresh' (Kd.R_lt (by (with_reducible repeat (first | apply Kd.R_alloc | apply Kd.R_drewN | apply Kd.R_drew)); exact HO_10.out)) k_ hk, Kd.fresh' (Kd.R_lt (by (with_reducible repeat (first | apply Kd.R_alloc | apply Kd.R_drewN | apply Kd.R_drew)); exact HO230.out)) k_ hk, Kd.freshB (g := gb207) (o := .cells #[.int .i64 ((rd_T33 l0 (ji14)).f0), .int .i64 ((rd_T33 l0 (ji14)).f1), .int .i64 ((rd_T33 l0 (ji14)).f2)] 33 (0, 0)) (by (with_reducible repeat (first | refine blk_drewN ?_ _ | refine blk_drew ?_ | refine blk_alloc ?_ _)); exact BK207.out) k_ hk⟩)); (case aO => exact (by (with_reducible repeat (first | apply Kd.R_alloc | apply Kd.R_drewN | apply Kd.R_drew)); exact HO233.out)); (case aS => exact (below_size (by repeat (first | (with_reducible first | exact HB.out | apply below_alloc | apply pw_below_drewN | apply below_drew1 | refine below_set ?_ GE207.out) | exact HB.out)))); (case aL => have := LMc50.out; omega); intro v239 w75 ho hb hg hat; rw [← Ny238.out] at ho; have n0_ := Aside0.mk (Kd.R_after (ok := (fun k_ => some k_ ≠ (.slice Ao73 y228.length co73 : Value).ownBlock ∧ k_ ≠ gb207)) (by (with_reducible repeat (first | apply Kd.R_alloc | apply Kd.R_drewN | apply Kd.R_drew)); exact HO_10.out) hg hat); have n1_ := Aside0.mk (blk_grown (g := gb207) (o := .cells #[.int .i64 ((rd_T33 l0 (ji14)).f0), .int .i64 ((rd_T33 l0 (ji14)).f1), .int .i64 ((rd_T33 l0 (ji14)).f2)] 33 (0, 0)) (by (with_reducible repeat (first | refine blk_drewN ?_ _ | refine blk_drew ?_ | refine blk_alloc ?_ _)); exact BK207.out) hg (Kd.R_away HO233.out (fun _ hk => hk.2.2))); have n2_ := Aside0.mk (Kd.R_after (ok := (fun k_ => some k_ ≠ (v210 : Value).ownBlock ∧ k_ ≠ gb207)) (by (with_reducible repeat (first | apply Kd.R_alloc | apply Kd.R_drewN | apply Kd.R_drew)); exact HO230.out) hg hat); have n3_ := Aside0.mk (hb); have n4_ := Aside0.mk (ho); clear HO_10; clear BK207; clear HO230; clear HB; clear HO233; have HO_10 := n0_; have BK207 := n1_; have HO230 := n2_; have HB := n3_; have HO240 := n4_; clear n0_ n1_ n2_ n3_ n4_; clear ho hb hg hat; obtain ⟨Ao76, co76, eo76⟩ := Kd.R_slice HO240.out; subst eo76) | ((with_reducible refine gate_callee (f := 17) rfl ?_); refine goesL_ (some 122) rfl rfl Try.func17 (by kernel_rfl) rfl #[.slice Ao76 y238.length co76] rfl (by (try simp only [List.map_toArray, List.map_cons, List.map_nil]); first | done | rfl | (simp only [List.length_drop, List.length_take]; rfl)) ?_; (with_reducible refine (extent_Join.calls kj23 _ _ y238 t241 t242 _ ?side1 ?side2 A51.out).mono ?_); (case side1 => repeat (first | exact (Kd.R_reads' HO240.out).2.2 | (with_reducible refine Kd.C_alloc ?_ _) | (with_reducible refine Kd.C_drewN ?_ _) | (with_reducible refine Kd.C_drew ?_))); (case side2 => exact (Kd.R_reads' HO240.out).2.1); rintro e w77 ⟨v243, rfl, ho0, hb⟩; refine ⟨_, rfl, ?_⟩; have n0_ := Aside0.mk (Kd.R_elder' (by (with_reducible repeat (first | apply Kd.R_alloc | apply Kd.R_drewN | apply Kd.R_drew)); exact HO_10.out) (Kd.R_base ho0) hb); have n1_ := Aside0.mk (Kd.R_elder' (by (with_reducible repeat (first | apply Kd.R_alloc | apply Kd.R_drewN | apply Kd.R_drew)); exact HO230.out) (Kd.R_base ho0) hb); have n2_ := Aside0.mk (Kd.R_elder' (by (with_reducible repeat (first | apply Kd.R_alloc | apply Kd.R_drewN | apply Kd.R_drew)); exact HO240.out) (Kd.R_base ho0) hb); have n3_ := Aside0.mk (Kd.R_lower (Kd.R_newB (Kd.R_new' (Kd.R_new' (Kd.R_new' ho0 (Kd.R_lt (by (with_reducible repeat (first | apply Kd.R_alloc | apply Kd.R_drewN | apply Kd.R_drew)); exact HO_10.out))) (Kd.R_lt (by (with_reducible repeat (first | apply Kd.R_alloc | apply Kd.R_drewN | apply Kd.R_drew)); exact HO230.out))) (Kd.R_lt (by (with_reducible repeat (first | apply Kd.R_alloc | apply Kd.R_drewN | apply Kd.R_drew)); exact HO240.out))) (g := gb207) (o := .cells #[.int .i64 ((rd_T33 l0 (ji14)).f0), .int .i64 ((rd_T33 l0 (ji14)).f1), .int .i64 ((rd_T33 l0 (ji14)).f2)] 33 (0, 0)) (by (with_reducible repeat (first | refine blk_drewN ?_ _ | refine blk_drew ?_ | refine blk_alloc ?_ _)); exact BK207.out)) (below_size (by repeat (first | (with_reducible first | exact HB.out | apply below_alloc | apply pw_below_drewN | apply below_drew1 | refine below_set ?_ GE207.out) | exact HB.out)))); have n4_ := Aside0.mk (blk_below (g := gb207) (o := .cells #[.int .i64 ((rd_T33 l0 (ji14)).f0), .int .i64 ((rd_T33 l0 (ji14)).f1), .int .i64 ((rd_T33 l0 (ji14)).f2)] 33 (0, 0)) (by (with_reducible repeat (first | refine blk_drewN ?_ _ | refine blk_drew ?_ | refine blk_alloc ?_ _)); exact BK207.out) hb); have n5_ := Aside0.mk (below_step (by repeat (first | (with_reducible first | exact HB.out | apply below_alloc | apply pw_below_drewN | apply below_drew1 | refine below_set ?_ GE207.out) | exact HB.out)) hb); clear HO_10; clear HO230; clear HO240; clear BK207; clear HB; have HO_10 := n0_; have HO230 := n1_; have HO240 := n2_; have HO244 := n3_; have BK207 := n4_; have HB := n5_; clear n0_ n1_ n2_ n3_ n4_ n5_; (try clear hb); (try clear hb2); (try clear hk); (try clear hi); (try clear ho0)))
                      go_ret
                      exact ⟨by first | rfl | (simp [errW_none, errW_some] <;> rfl) | (simp only [← hji14, ← hji47]; first | rfl | (simp [errW_none, errW_some] <;> rfl)) | (simp [*, errW_none, errW_some] <;> rfl), by repeat (first | (with_reducible first | exact HB.out | apply below_alloc | apply pw_below_drewN | apply below_drew1 | refine below_set ?_ GE207.out) | exact HB.out)⟩
                    ·
                     rw [if_neg c50] at H
                     exact absurd H (by simp)
                   ·
                    rw [if_neg c49] at H
                    exact absurd H (by simp)
                  ·
                   rw [if_neg c48] at H
                   exact absurd H (by simp)
                 ·
                  rw [if_neg c46] at H
                  exact absurd H (by simp)
                ·
                 rw [if_neg c44] at H
                 exact absurd H (by simp)
               ·
                rw [if_neg c43] at H
                exact absurd H (by simp)
          ·
           rw [if_neg c21] at H
           exact absurd H (by simp)
       ·
        rw [if_neg c16] at H
        exact absurd H (by simp)
      ·
       rw [if_neg c15] at H
       exact absurd H (by simp)
 ·
  replace c5 := Bool.eq_false_iff.mpr c5
  subst c5
  have H1 : (some false) = some r := by rw [if_neg (show ¬ (false = true) by decide)] at H; exact H
  clear H
  have H := H1
  clear H1
  obtain rfl := Option.some.inj H
  go_enter Try.func4, Try.ntmps4
  go_wp2_with (first | ((with_reducible refine gate_callee (f := 11) rfl ?_); refine goesL_ (some 18) rfl rfl Try.func11 (by kernel_rfl) rfl #[] rfl (by (try simp only [List.map_toArray, List.map_cons, List.map_nil]); first | done | rfl | (simp only [List.length_drop, List.length_take]; rfl)) ?_; (with_reducible refine (tegulalaw32_awake.calls k  false _ A4.out).mono ?_); rintro e w78 ⟨rfl, hb⟩; refine ⟨_, rfl, ?_⟩; have n0_ := Aside0.mk (below_step (by repeat (first | (with_reducible first | exact HB.out | apply below_alloc | apply pw_below_drewN | apply below_drew1) | exact HB.out)) hb); clear HB; have HB := n0_; clear n0_; (try clear hb); (try clear hb2); (try clear hk); (try clear hi)))
  go_ret
  exact ⟨by first | rfl | (simp [errW_none, errW_some] <;> rfl) | (simp [*, errW_none, errW_some] <;> rfl), by repeat (first | (with_reducible first | exact HB.out | apply below_alloc | apply pw_below_drewN | apply below_drew1) | exact HB.out)⟩

end Go.Proofs.Ytcgihjpnemnkeaa.PExtentUnique
