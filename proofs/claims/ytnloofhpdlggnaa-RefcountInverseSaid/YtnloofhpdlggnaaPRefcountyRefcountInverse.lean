-- Written for this claim by a program of this session (wip/), out of the translation's own print: Lean checks it
import Derived.Test.YtnloofhpdlggnaaPRefcountx0
import Derived.Test.YtnloofhpdlggnaaWGuard
import Derived.Test.YtnloofhpdlggnaaPRefcountx2
import Derived.Test.YtnloofhpdlggnaaPRefcountx5
import Derived.Test.YtnloofhpdlggnaaPRefcountx7
import Derived.Test.YtnloofhpdlggnaaPRefcountx8
import Derived.Test.YtnloofhpdlggnaaPRefcountx10
import Derived.Test.YtnloofhpdlggnaaPRefcountx11
import Derived.Test.YtnloofhpdlggnaaPRefcountx12
namespace Go.Proofs.Ytnloofhpdlggnaa.PRefcount
open Go.RowKit Go.Proofs.YtnloofhpdlggnaaW.PrintWords Go.Proofs.YtnloofhpdlggnaaW.PrintLast Go.Proofs.YtnloofhpdlggnaaW.PrintMore
attribute [local go_sem] max2_int min2_int max_two min_two max_three min_three max_four min_four   -- for this text's walks alone
set_option linter.unusedVariables false
set_option linter.unusedSimpArgs false

/-! ### tegulalaw34_RefcountInverse: function 4 -/
mutual
def tegulalaw34_RefcountInverse.j0 : Nat → Int → List (S57) → List (S41) → Bool → Option (Bool)
 | 0, _, _, _, _ => none
 | k + 1, x0, x1, x2, x28 => if x28 = true then (some true) else ((tegulalaw34_build.f k x0 x1).bind fun bt371 => ((refcount_Counts_Add.f k bt371.1 x2).bind fun bt379 => ((tegularef34_Counts_Add.f k bt371.2.1 x2).bind fun bt384 => (if bt371.2.2 = true then (tegulalaw34_RefcountInverse.j1 k x2 bt371.2.1 bt379.2 bt384.1 (bt379.2 != bt384.2) bt379.1) else (tegulalaw34_RefcountInverse.j1 k x2 bt371.2.1 bt379.2 bt384.1 true bt379.1)))))
def tegulalaw34_RefcountInverse.j1 : Nat → List (S41) → List Int → Int → List Int → Bool → List Int → Option (Bool)
 | 0, _, _, _, _, _, _ => none
 | k + 1, x2, x8, x11, x12, x54, x384000 => if x54 = true then (some false) else (if x11 = 0 then ((refcount_Counts_Drop.f k x384000 x2).bind fun bt388 => (tegulalaw34_RefcountInverse.l0 k x8 x12 bt388.2.1 bt388.2.2 ([] : List (S41)) 0 x384000 bt388.1)) else (some (x11 == 2)))
def tegulalaw34_RefcountInverse.l0 : Nat → List Int → List Int → List (S41) → Int → List (S41) → Int → List Int → List Int → Option (Bool)
 | 0, _, _, _, _, _, _, _, _ => none
 | k + 1, x8, x12, x15, x16, x17, x18, x384000, x396000 => if x18 < (x8.length : Int) then (if 0 ≤ x18 then (if (rd x8 x18) = 0 then (if x18 < (x12.length : Int) then (if (rd x12 x18) > 0 then (if x17.length < 5864062014805 then (tegulalaw34_RefcountInverse.l0 k x8 x12 x15 x16 (x17 ++ [(⟨0, 1, x18⟩ : S41)]) (wrap64 (x18 + 1)) x384000 x396000) else (none)) else (tegulalaw34_RefcountInverse.l0 k x8 x12 x15 x16 x17 (wrap64 (x18 + 1)) x384000 x396000)) else (none)) else (tegulalaw34_RefcountInverse.l0 k x8 x12 x15 x16 x17 (wrap64 (x18 + 1)) x384000 x396000)) else (none)) else (if x16 = 0 then ((tegulalaw34_same.f k x396000 x8).bind fun t401 => (if t401 = true then ((tegularef32_Runs.f k x17).bind fun t402 => ((tegularef32_Same.f k x15 t402).bind fun t405 => (if t405 = true then ((tegulalaw34_same.f k x384000 x12).bind fun t406 => (some t406)) else (some false)))) else (some false))) else (some false))
end
def tegulalaw34_RefcountInverse.f (k : Nat) (a0 : Int) (l1 : List (S57)) (l2 : List (S41)) : Option (Bool) := (tegulalaw34_awake.f k).bind fun t369 => (if t369 = true then ((tegulalaw34_few.f k l1).bind fun t370 => (if t370 = true then (tegulalaw34_RefcountInverse.j0 k a0 l1 l2 (decide ((l2.length : Int) > 8))) else (tegulalaw34_RefcountInverse.j0 k a0 l1 l2 true))) else (some false))
theorem tegulalaw34_RefcountInverse.mono_l : ∀ k, (∀ y0 y1 y2 y3, LeO (tegulalaw34_RefcountInverse.j0 k y0 y1 y2 y3) (tegulalaw34_RefcountInverse.j0 (k + 1) y0 y1 y2 y3)) ∧ (∀ y0 y1 y2 y3 y4 y5, LeO (tegulalaw34_RefcountInverse.j1 k y0 y1 y2 y3 y4 y5) (tegulalaw34_RefcountInverse.j1 (k + 1) y0 y1 y2 y3 y4 y5)) ∧ (∀ y0 y1 y2 y3 y4 y5 y6 y7, LeO (tegulalaw34_RefcountInverse.l0 k y0 y1 y2 y3 y4 y5 y6 y7) (tegulalaw34_RefcountInverse.l0 (k + 1) y0 y1 y2 y3 y4 y5 y6 y7))
 | 0 => ⟨fun _ _ _ _ r h => by simp [tegulalaw34_RefcountInverse.j0] at h, fun _ _ _ _ _ _ r h => by simp [tegulalaw34_RefcountInverse.j1] at h, fun _ _ _ _ _ _ _ _ r h => by simp [tegulalaw34_RefcountInverse.l0] at h⟩
 | k + 1 => by
  obtain ⟨ih0, ih1, ih2⟩ := tegulalaw34_RefcountInverse.mono_l k
  refine ⟨?_, ?_, ?_⟩
  ·
   intro y0 y1 y2 y3
   unfold tegulalaw34_RefcountInverse.j0
   repeat' first
   | (with_reducible exact ih0 _ _ _ _)
   | (with_reducible exact ih1 _ _ _ _ _ _)
   | (with_reducible exact ih2 _ _ _ _ _ _ _ _)
   | (with_reducible exact refcount_Counts_Add.mono _ _ _)
   | (with_reducible exact refcount_Counts_Drop.mono _ _ _)
   | (with_reducible exact tegulalaw34_awake.mono _)
   | (with_reducible exact tegulalaw34_build.mono _ _ _)
   | (with_reducible exact tegulalaw34_few.mono _ _)
   | (with_reducible exact tegulalaw34_same.mono _ _ _)
   | (with_reducible exact tegularef32_Runs.mono _ _)
   | (with_reducible exact tegularef32_Same.mono _ _ _)
   | (with_reducible exact tegularef34_Counts_Add.mono _ _ _)
   | (with_reducible exact LeO.refl _)
   | (with_reducible exact LeO.none _)
   | (with_reducible refine LeO.ite ?_ ?_)
   | (with_reducible refine LeO.bind ?_ (fun _ => ?_))
   | exact ih0 _ _ _ _
   | exact ih1 _ _ _ _ _ _
   | exact ih2 _ _ _ _ _ _ _ _
   | exact refcount_Counts_Add.mono _ _ _
   | exact refcount_Counts_Drop.mono _ _ _
   | exact tegulalaw34_awake.mono _
   | exact tegulalaw34_build.mono _ _ _
   | exact tegulalaw34_few.mono _ _
   | exact tegulalaw34_same.mono _ _ _
   | exact tegularef32_Runs.mono _ _
   | exact tegularef32_Same.mono _ _ _
   | exact tegularef34_Counts_Add.mono _ _ _
   | exact LeO.none _
   | refine LeO.ite ?_ ?_
   | refine LeO.bind ?_ (fun _ => ?_)
  ·
   intro y0 y1 y2 y3 y4 y5
   unfold tegulalaw34_RefcountInverse.j1
   repeat' first
   | (with_reducible exact ih0 _ _ _ _)
   | (with_reducible exact ih1 _ _ _ _ _ _)
   | (with_reducible exact ih2 _ _ _ _ _ _ _ _)
   | (with_reducible exact refcount_Counts_Add.mono _ _ _)
   | (with_reducible exact refcount_Counts_Drop.mono _ _ _)
   | (with_reducible exact tegulalaw34_awake.mono _)
   | (with_reducible exact tegulalaw34_build.mono _ _ _)
   | (with_reducible exact tegulalaw34_few.mono _ _)
   | (with_reducible exact tegulalaw34_same.mono _ _ _)
   | (with_reducible exact tegularef32_Runs.mono _ _)
   | (with_reducible exact tegularef32_Same.mono _ _ _)
   | (with_reducible exact tegularef34_Counts_Add.mono _ _ _)
   | (with_reducible exact LeO.refl _)
   | (with_reducible exact LeO.none _)
   | (with_reducible refine LeO.ite ?_ ?_)
   | (with_reducible refine LeO.bind ?_ (fun _ => ?_))
   | exact ih0 _ _ _ _
   | exact ih1 _ _ _ _ _ _
   | exact ih2 _ _ _ _ _ _ _ _
   | exact refcount_Counts_Add.mono _ _ _
   | exact refcount_Counts_Drop.mono _ _ _
   | exact tegulalaw34_awake.mono _
   | exact tegulalaw34_build.mono _ _ _
   | exact tegulalaw34_few.mono _ _
   | exact tegulalaw34_same.mono _ _ _
   | exact tegularef32_Runs.mono _ _
   | exact tegularef32_Same.mono _ _ _
   | exact tegularef34_Counts_Add.mono _ _ _
   | exact LeO.none _
   | refine LeO.ite ?_ ?_
   | refine LeO.bind ?_ (fun _ => ?_)
  ·
   intro y0 y1 y2 y3 y4 y5 y6 y7
   unfold tegulalaw34_RefcountInverse.l0
   repeat' first
   | (with_reducible exact ih0 _ _ _ _)
   | (with_reducible exact ih1 _ _ _ _ _ _)
   | (with_reducible exact ih2 _ _ _ _ _ _ _ _)
   | (with_reducible exact refcount_Counts_Add.mono _ _ _)
   | (with_reducible exact refcount_Counts_Drop.mono _ _ _)
   | (with_reducible exact tegulalaw34_awake.mono _)
   | (with_reducible exact tegulalaw34_build.mono _ _ _)
   | (with_reducible exact tegulalaw34_few.mono _ _)
   | (with_reducible exact tegulalaw34_same.mono _ _ _)
   | (with_reducible exact tegularef32_Runs.mono _ _)
   | (with_reducible exact tegularef32_Same.mono _ _ _)
   | (with_reducible exact tegularef34_Counts_Add.mono _ _ _)
   | (with_reducible exact LeO.refl _)
   | (with_reducible exact LeO.none _)
   | (with_reducible refine LeO.ite ?_ ?_)
   | (with_reducible refine LeO.bind ?_ (fun _ => ?_))
   | exact ih0 _ _ _ _
   | exact ih1 _ _ _ _ _ _
   | exact ih2 _ _ _ _ _ _ _ _
   | exact refcount_Counts_Add.mono _ _ _
   | exact refcount_Counts_Drop.mono _ _ _
   | exact tegulalaw34_awake.mono _
   | exact tegulalaw34_build.mono _ _ _
   | exact tegulalaw34_few.mono _ _
   | exact tegulalaw34_same.mono _ _ _
   | exact tegularef32_Runs.mono _ _
   | exact tegularef32_Same.mono _ _ _
   | exact tegularef34_Counts_Add.mono _ _ _
   | exact LeO.none _
   | refine LeO.ite ?_ ?_
   | refine LeO.bind ?_ (fun _ => ?_)
theorem tegulalaw34_RefcountInverse.mono : ∀ a0 a1 a2 k, LeO (tegulalaw34_RefcountInverse.f k a0 a1 a2) (tegulalaw34_RefcountInverse.f (k + 1) a0 a1 a2) := by
 intro a0 a1 a2 k
 obtain ⟨ih0, ih1, ih2⟩ := tegulalaw34_RefcountInverse.mono_l k
 unfold tegulalaw34_RefcountInverse.f
 repeat' first
   | (with_reducible exact ih0 _ _ _ _)
   | (with_reducible exact ih1 _ _ _ _ _ _)
   | (with_reducible exact ih2 _ _ _ _ _ _ _ _)
   | (with_reducible exact refcount_Counts_Add.mono _ _ _)
   | (with_reducible exact refcount_Counts_Drop.mono _ _ _)
   | (with_reducible exact tegulalaw34_awake.mono _)
   | (with_reducible exact tegulalaw34_build.mono _ _ _)
   | (with_reducible exact tegulalaw34_few.mono _ _)
   | (with_reducible exact tegulalaw34_same.mono _ _ _)
   | (with_reducible exact tegularef32_Runs.mono _ _)
   | (with_reducible exact tegularef32_Same.mono _ _ _)
   | (with_reducible exact tegularef34_Counts_Add.mono _ _ _)
   | (with_reducible exact LeO.refl _)
   | (with_reducible exact LeO.none _)
   | (with_reducible refine LeO.ite ?_ ?_)
   | (with_reducible refine LeO.bind ?_ (fun _ => ?_))
   | exact ih0 _ _ _ _
   | exact ih1 _ _ _ _ _ _
   | exact ih2 _ _ _ _ _ _ _ _
   | exact refcount_Counts_Add.mono _ _ _
   | exact refcount_Counts_Drop.mono _ _ _
   | exact tegulalaw34_awake.mono _
   | exact tegulalaw34_build.mono _ _ _
   | exact tegulalaw34_few.mono _ _
   | exact tegulalaw34_same.mono _ _ _
   | exact tegularef32_Runs.mono _ _
   | exact tegularef32_Same.mono _ _ _
   | exact tegularef34_Counts_Add.mono _ _ _
   | exact LeO.none _
   | refine LeO.ite ?_ ?_
   | refine LeO.bind ?_ (fun _ => ?_)
set_option maxHeartbeats 8000000 in
set_option maxRecDepth 100000 in
theorem tegulalaw34_RefcountInverse.calls (k : Nat) (a0 : Int) (A1 : Option Addr) (c1 : Nat) (l1 : List (S57)) (A2 : Option Addr) (c2 : Nat) (l2 : List (S41)) (r : Bool) (w : World) (hr1 : Kd.C k57 w A1 l1.length l1) (hc1 : l1.length ≤ c1) (hr2 : Kd.C k41 w A2 l2.length l2) (hc2 : l2.length ≤ c2) (h : tegulalaw34_RefcountInverse.f k a0 l1 l2 = some r) :
  Calls Try.prog 4 #[.int .u8 a0, .slice A1 l1.length c1, .slice A2 l2.length c2] w fun e w' => e = .returned (.bool r) ∧ Below w.heap.size w w' := by
 have hu27 := Try.underlying27
 have hu41 := Try.underlying41
 have HR1 := Aside0.mk hr1
 have HC1 := Aside0.mk hc1
 clear hr1 hc1
 have HR2 := Aside0.mk hr2
 have HC2 := Aside0.mk hc2
 clear hr2 hc2
 have HB := Aside0.mk (Below.refl w.heap.size w)
 have H : ((tegulalaw34_awake.f k).bind fun t369 => (if t369 = true then ((tegulalaw34_few.f k l1).bind fun t370 => (if t370 = true then (tegulalaw34_RefcountInverse.j0 k a0 l1 l2 (decide ((l2.length : Int) > 8))) else (tegulalaw34_RefcountInverse.j0 k a0 l1 l2 true))) else (some false))) = some r := h
 clear h
 replace H := Option.bind_eq_some_iff.mp H
 obtain ⟨t369, A40, H⟩ := H
 replace H : (if t369 = true then ((tegulalaw34_few.f k l1).bind fun t370 => (if t370 = true then (tegulalaw34_RefcountInverse.j0 k a0 l1 l2 (decide ((l2.length : Int) > 8))) else (tegulalaw34_RefcountInverse.j0 k a0 l1 l2 true))) else (some false)) = some r := H
 have A4 := Aside0.mk A40
 clear A40
 by_cases c5 : t369 = true
 ·
  subst c5
  have H1 : ((tegulalaw34_few.f k l1).bind fun t370 => (if t370 = true then (tegulalaw34_RefcountInverse.j0 k a0 l1 l2 (decide ((l2.length : Int) > 8))) else (tegulalaw34_RefcountInverse.j0 k a0 l1 l2 true))) = some r := by rw [if_pos rfl] at H; exact H
  clear H
  have H := H1
  clear H1
  have HC6 := Aside0.mk H
  clear H
  go_enter Try.func4, Try.ntmps4
  go_upto_region 3 with (first | ((with_reducible refine gate_callee (f := 9) rfl ?_); refine goesL_ (some 19) rfl rfl Try.func9 (by kernel_rfl) rfl #[] rfl (by (try simp only [List.map_toArray, List.map_cons, List.map_nil]); first | done | rfl | (simp only [List.length_drop, List.length_take]; rfl)) ?_; (with_reducible refine (tegulalaw34_awake.calls k  true _ A4.out).mono ?_); rintro e w7 ⟨rfl, hb⟩; refine ⟨_, rfl, ?_⟩; have n0_ := Aside0.mk (below_step (bU HB.out) hb); clear HB; have HB := n0_; clear n0_; (try clear hb); (try clear hb2); (try clear hk); (try clear hi)))
  (try simp only [Act.put, List.setIfInBounds_toArray, List.set_cons_zero, List.set_cons_succ])
  go_cut [28] (fun v28 wc => ∃ (kq : Nat) (x28_5 : Bool), v28 = .bool x28_5 ∧ Aside0 (tegulalaw34_RefcountInverse.j0 kq a0 l1 l2 x28_5 = some r) ∧ Aside0 (kq ≤ k) ∧ Aside0 (Below w.heap.size w wc))
  case first =>
   have H := HC6.out
   clear HC6
   replace H := Option.bind_eq_some_iff.mp H
   obtain ⟨t370, A80, H⟩ := H
   replace H : (if t370 = true then (tegulalaw34_RefcountInverse.j0 k a0 l1 l2 (decide ((l2.length : Int) > 8))) else (tegulalaw34_RefcountInverse.j0 k a0 l1 l2 true)) = some r := H
   have A8 := Aside0.mk A80
   clear A80
   by_cases c9 : t370 = true
   ·
    subst c9
    have H1 : (tegulalaw34_RefcountInverse.j0 k a0 l1 l2 (decide ((l2.length : Int) > 8))) = some r := by rw [if_pos rfl] at H; exact H
    clear H
    have H := H1
    clear H1
    have H' := Aside0.mk H
    clear H
    go_wp2_with (first | ((with_reducible refine gate_callee (f := 10) rfl ?_); refine goesL_ (some 22) rfl rfl Try.func10 (by kernel_rfl) rfl #[.slice A1 l1.length c1] rfl (by (try simp only [List.map_toArray, List.map_cons, List.map_nil]); first | done | rfl | (simp only [List.length_drop, List.length_take]; rfl)) ?_; (with_reducible refine (tegulalaw34_few.calls k _ _ l1 true _ ?side1 ?side2 A8.out).mono ?_); (case side1 => exact cU (Kd.C_below HR1.out HB.out)); (case side2 => exact HC1.out); rintro e w' ⟨rfl, ⟨nd, rfl⟩⟩; refine ⟨_, rfl, ?_⟩))
    go_meet
    case rel => exact ⟨_, (decide ((l2.length : Int) > 8)), (by first | rfl | (simp; done) | (simp [*]; done)), H', ⟨by first | omega | exact Nat.le_refl _⟩, ⟨bU HB.out⟩⟩
   ·
    replace c9 := Bool.eq_false_iff.mpr c9
    subst c9
    have H1 : (tegulalaw34_RefcountInverse.j0 k a0 l1 l2 true) = some r := by rw [if_neg (show ¬ (false = true) by decide)] at H; exact H
    clear H
    have H := H1
    clear H1
    have H' := Aside0.mk H
    clear H
    go_wp2_with (first | ((with_reducible refine gate_callee (f := 10) rfl ?_); refine goesL_ (some 22) rfl rfl Try.func10 (by kernel_rfl) rfl #[.slice A1 l1.length c1] rfl (by (try simp only [List.map_toArray, List.map_cons, List.map_nil]); first | done | rfl | (simp only [List.length_drop, List.length_take]; rfl)) ?_; (with_reducible refine (tegulalaw34_few.calls k _ _ l1 false _ ?side1 ?side2 A8.out).mono ?_); (case side1 => exact cU (Kd.C_below HR1.out HB.out)); (case side2 => exact HC1.out); rintro e w' ⟨rfl, ⟨nd, rfl⟩⟩; refine ⟨_, rfl, ?_⟩))
    go_meet
    case rel => exact ⟨_, (true), (by first | rfl | (simp; done) | (simp [*]; done)), H', ⟨by first | omega | exact Nat.le_refl _⟩, ⟨bU HB.out⟩⟩
  case rest =>
   clear HC6
   try clear c1
   try clear c2
   try clear p2
   try clear c4
   try clear c5
   try clear c9
   obtain ⟨kq, x28_5, rfl, HA, HJ5, HB⟩ := hcut
   cases kq with
   | zero => exact absurd HA.out (by simp [tegulalaw34_RefcountInverse.j0])
   | succ kj5 =>
    have H := HA.out
    clear HA
    simp only [tegulalaw34_RefcountInverse.j0] at H
    by_cases c10 : x28_5 = true
    ·
     subst c10
     have H1 : (some true) = some r := by rw [if_pos rfl] at H; exact H
     clear H
     have H := H1
     clear H1
     obtain rfl := Option.some.inj H
     go_wp2
     go_ret
     exact ⟨by first | rfl | (simp [errW_none, errW_some] <;> rfl) | (simp [*, errW_none, errW_some] <;> rfl), bU HB.out⟩
    ·
     replace c10 := Bool.eq_false_iff.mpr c10
     subst c10
     have H1 : ((tegulalaw34_build.f kj5 a0 l1).bind fun bt371 => ((refcount_Counts_Add.f kj5 bt371.1 l2).bind fun bt379 => ((tegularef34_Counts_Add.f kj5 bt371.2.1 l2).bind fun bt384 => (if bt371.2.2 = true then (tegulalaw34_RefcountInverse.j1 kj5 l2 bt371.2.1 bt379.2 bt384.1 (bt379.2 != bt384.2) bt379.1) else (tegulalaw34_RefcountInverse.j1 kj5 l2 bt371.2.1 bt379.2 bt384.1 true bt379.1))))) = some r := by rw [if_neg (show ¬ (false = true) by decide)] at H; exact H
     clear H
     have H := H1
     clear H1
     replace H := Option.bind_eq_some_iff.mp H
     obtain ⟨⟨t371, t374, t377⟩, A110, H⟩ := H
     replace H : ((refcount_Counts_Add.f kj5 t371 l2).bind fun bt379 => ((tegularef34_Counts_Add.f kj5 t374 l2).bind fun bt384 => (if t377 = true then (tegulalaw34_RefcountInverse.j1 kj5 l2 t374 bt379.2 bt384.1 (bt379.2 != bt384.2) bt379.1) else (tegulalaw34_RefcountInverse.j1 kj5 l2 t374 bt379.2 bt384.1 true bt379.1)))) = some r := H
     have A11 := Aside0.mk A110
     clear A110
     replace H := Option.bind_eq_some_iff.mp H
     obtain ⟨⟨t379, t382⟩, A120, H⟩ := H
     replace H : ((tegularef34_Counts_Add.f kj5 t374 l2).bind fun bt384 => (if t377 = true then (tegulalaw34_RefcountInverse.j1 kj5 l2 t374 t382 bt384.1 (t382 != bt384.2) t379) else (tegulalaw34_RefcountInverse.j1 kj5 l2 t374 t382 bt384.1 true t379))) = some r := H
     have A12 := Aside0.mk A120
     clear A120
     replace H := Option.bind_eq_some_iff.mp H
     obtain ⟨⟨t384, t385⟩, A130, H⟩ := H
     replace H : (if t377 = true then (tegulalaw34_RefcountInverse.j1 kj5 l2 t374 t382 t384 (t382 != t385) t379) else (tegulalaw34_RefcountInverse.j1 kj5 l2 t374 t382 t384 true t379)) = some r := H
     have A13 := Aside0.mk A130
     clear A130
     have HC14 := Aside0.mk H
     clear H
     go_upto_region 8 with (first | ((with_reducible refine gate_callee (f := 11) rfl ?_); refine goesL_ (some 32) rfl rfl Try.func11 (by kernel_rfl) rfl #[.int .u8 a0, .slice A1 l1.length c1] rfl (by (try simp only [List.map_toArray, List.map_cons, List.map_nil]); first | done | rfl | (simp only [List.length_drop, List.length_take]; rfl)) ?_; (with_reducible refine (tegulalaw34_build.calls kj5 a0 _ _ l1 t371 t374 t377 _ ?side1 ?side2 A11.out).mono ?_); (case side1 => exact cU (Kd.C_below HR1.out HB.out)); (case side2 => exact HC1.out); rintro e w15 ⟨v372, v375, rfl, ho0, ho1, hb⟩; refine ⟨_, rfl, ?_⟩; have n0_ := Aside0.mk (Kd.R_lower ho0 (below_size (bU HB.out))); have n1_ := Aside0.mk (Kd.R_lower ho1 (below_size (bU HB.out))); have n2_ := Aside0.mk (below_step (bU HB.out) hb); clear HB; have HO373 := n0_; have HO376 := n1_; have HB := n2_; clear n0_ n1_ n2_; (try clear hb); (try clear hb2); (try clear hk); (try clear hi); (try clear ho0); (try clear ho1)) | ((with_reducible refine gate_dst (N := 7) rfl ?_); (try (refine gate_guard (by rfl) ?_; dsimp only)); refine box_event ?hg (N := 7) ?hd (cs := #[.slice none 0 0]) (t := 27) ?hr ?_; (case hd => rfl); (case hg => rfl); (case hr => first | (go_simp; done) | (go_simp; rfl)); intro gb378 hg w16 hbox hb; have n0_ := Aside0.mk (Kd.R_below (rU HO373.out) hb); have n1_ := Aside0.mk (Kd.R_below (rU HO376.out) hb); have n2_ := Aside0.mk (below_step (bU HB.out) hb); have n3_ := Aside0.mk (hbox); have n4_ := Aside0.mk ((by rw [hg]; exact (below_size (bU HB.out)) : w.heap.size ≤ gb378)); have n5_ := Aside0.mk ((by rw [hg]; exact (below_size (bU HB.out)) : w.heap.size ≤ gb378)); clear HO373; clear HO376; clear HB; have HO373 := n0_; have HO376 := n1_; have HB := n2_; have BK378 := n3_; have GW378 := n4_; have GE378 := n5_; clear n0_ n1_ n2_ n3_ n4_ n5_; clear hb hbox hg; obtain ⟨Ao17, co17, eo17⟩ := Kd.R_slice HO373.out; subst eo17; have hcz18_0 : w16.cell? ⟨gb378, 0, none⟩ = some (.slice none 0 0) := (blk_cell BK378.out 0).trans rfl; have hfz18_0 := blk_frozen BK378.out 0) | ((with_reducible refine gate_callee (f := 12) rfl ?_); refine goesL_ (some 39) rfl rfl Try.func12 (by kernel_rfl) rfl #[.agg #[.slice Ao17 t371.length co17], .slice A2 l2.length c2] rfl (by (try simp only [List.map_toArray, List.map_cons, List.map_nil]); first | done | rfl | (simp only [List.length_drop, List.length_take]; rfl)) ?_; (with_reducible refine (refcount_Counts_Add.calls kj5 _ _ t371 _ _ l2 t379 t382 _ ?side1 ?side2 ?side3 ?side4 A12.out).mono ?_); (case side1 => refine (Kd.R_reads' (e := 3) (base := w.heap.size) (ok := fun k_ => some k_ ≠ (v375 : Value).ownBlock) (n := t371.length) (c := co17) ?_).2.2; exact (rU (Kd.R_mono (Kd.R_far (p := ⟨gb378, 0, none⟩) (Kd.R_types HO373.out BK378.out (by decide)) (fun _ hk => hk.2) (.slice Ao17 t371.length co17)) (fun _ h_ => h_.1)))); (case side2 => exact (Kd.R_reads' HO373.out).2.1); (case side3 => exact Kd.C_below HR2.out (by repeat (first | (with_reducible first | exact HB.out | apply below_alloc | apply pw_below_drewN | apply below_drew1 | refine below_set ?_ GE378.out) | exact HB.out))); (case side4 => exact HC2.out); rintro e w19 ⟨v380, rfl, ho0, hb⟩; refine ⟨_, rfl, ?_⟩; have n0_ := Aside0.mk (Kd.R_elder' (rU (Kd.R_mono (Kd.R_far (p := ⟨gb378, 0, none⟩) (Kd.R_types HO373.out BK378.out (by decide)) (fun _ hk => hk.2) (.slice Ao17 t371.length co17)) (fun _ h_ => h_.1))) (Kd.R_base ho0) hb); have n1_ := Aside0.mk (Kd.R_elder' (rU (Kd.R_mono (Kd.R_far (p := ⟨gb378, 0, none⟩) (Kd.R_types HO376.out BK378.out (by decide)) (fun _ hk => hk.2) (.slice Ao17 t371.length co17)) (fun _ h_ => h_.1))) (Kd.R_base ho0) hb); have n2_ := Aside0.mk (Kd.R_lower (Kd.R_new' (Kd.R_new' ho0 (Kd.R_lt (rU (Kd.R_mono (Kd.R_far (p := ⟨gb378, 0, none⟩) (Kd.R_types HO373.out BK378.out (by decide)) (fun _ hk => hk.2) (.slice Ao17 t371.length co17)) (fun _ h_ => h_.1))))) (Kd.R_lt (rU (Kd.R_mono (Kd.R_far (p := ⟨gb378, 0, none⟩) (Kd.R_types HO376.out BK378.out (by decide)) (fun _ hk => hk.2) (.slice Ao17 t371.length co17)) (fun _ h_ => h_.1))))) (below_size (by repeat (first | (with_reducible first | exact HB.out | apply below_alloc | apply pw_below_drewN | apply below_drew1 | refine below_set ?_ GE378.out) | exact HB.out)))); have n3_ := Aside0.mk (blk_below (g := gb378) (o := .cells #[.slice Ao17 t371.length co17] 27 (0, 0)) (by (with_reducible repeat (first | refine blk_drewN ?_ _ | refine blk_drew ?_ | refine blk_alloc ?_ _)); refine blk_put (cs := #[.slice none 0 0]) ?_ 0 _ rfl; (with_reducible repeat (first | refine blk_drewN ?_ _ | refine blk_drew ?_ | refine blk_alloc ?_ _)); exact BK378.out) hb); have n4_ := Aside0.mk (below_step (by repeat (first | (with_reducible first | exact HB.out | apply below_alloc | apply pw_below_drewN | apply below_drew1 | refine below_set ?_ GE378.out) | exact HB.out)) hb); clear HO373; clear HO376; clear BK378; clear HB; have HO373 := n0_; have HO376 := n1_; have HO381 := n2_; have BK378 := n3_; have HB := n4_; clear n0_ n1_ n2_ n3_ n4_; (try clear hb); (try clear hb2); (try clear hk); (try clear hi); (try clear ho0)) | ((with_reducible refine gate_dst (N := 10) rfl ?_); (try (refine gate_guard (by rfl) ?_; dsimp only)); refine box_event ?hg (N := 10) ?hd (cs := #[.slice none 0 0]) (t := 27) ?hr ?_; (case hd => rfl); (case hg => rfl); (case hr => first | (go_simp; done) | (go_simp; rfl)); intro gb383 hg w20 hbox hb; have n0_ := Aside0.mk (Kd.R_below (rU HO373.out) hb); have n1_ := Aside0.mk (Kd.R_below (rU HO376.out) hb); have n2_ := Aside0.mk (Kd.R_below (rU HO381.out) hb); have n3_ := Aside0.mk (blk_below (g := gb378) (o := .cells #[.slice Ao17 t371.length co17] 27 (0, 0)) (kU BK378.out) hb); have n4_ := Aside0.mk (below_step (by repeat (first | (with_reducible first | exact HB.out | apply below_alloc | apply pw_below_drewN | apply below_drew1 | refine below_set ?_ GE378.out) | exact HB.out)) hb); have n5_ := Aside0.mk (hbox); have n6_ := Aside0.mk ((by rw [hg]; exact (below_size (by repeat (first | (with_reducible first | exact HB.out | apply below_alloc | apply pw_below_drewN | apply below_drew1 | refine below_set ?_ GE378.out) | exact HB.out))) : w.heap.size ≤ gb383)); have n7_ := Aside0.mk ((by rw [hg]; exact (below_size (by repeat (first | (with_reducible first | exact HB.out | apply below_alloc | apply pw_below_drewN | apply below_drew1 | refine below_set ?_ GE378.out) | exact HB.out))) : w.heap.size ≤ gb383)); have n8_ := Aside0.mk ((by rw [hg]; exact Nat.ne_of_lt (blk_lt (g := gb378) (o := .cells #[.slice Ao17 t371.length co17] 27 (0, 0)) (kU BK378.out)) : gb378 ≠ gb383)); have n9_ := Aside0.mk ((by rw [hg]; exact Nat.ne_of_gt (blk_lt (g := gb378) (o := .cells #[.slice Ao17 t371.length co17] 27 (0, 0)) (kU BK378.out)) : gb383 ≠ gb378)); clear HO373; clear HO376; clear HO381; clear BK378; clear HB; have HO373 := n0_; have HO376 := n1_; have HO381 := n2_; have BK378 := n3_; have HB := n4_; have BK383 := n5_; have GW383 := n6_; have GE383 := n7_; have NB378_383 := n8_; have NB383_378 := n9_; clear n0_ n1_ n2_ n3_ n4_ n5_ n6_ n7_ n8_ n9_; clear hb hbox hg; obtain ⟨Ao21, co21, eo21⟩ := Kd.R_slice HO381.out; subst eo21; have hnb22 := NB383_378.out; have hnc22 := NB378_383.out; have hcz23_0 : w20.cell? ⟨gb383, 0, none⟩ = some (.slice none 0 0) := (blk_cell BK383.out 0).trans rfl; have hfz23_0 := blk_frozen BK383.out 0; obtain ⟨Ao24, co24, eo24⟩ := Kd.R_slice HO376.out; subst eo24) | ((with_reducible refine gate_callee (f := 13) rfl ?_); refine goesL_ (some 45) rfl rfl Try.func13 (by kernel_rfl) rfl #[.slice Ao24 t374.length co24, .slice A2 l2.length c2] rfl (by (try simp only [List.map_toArray, List.map_cons, List.map_nil]); first | done | rfl | (simp only [List.length_drop, List.length_take]; rfl)) ?_; (with_reducible refine (tegularef34_Counts_Add.calls kj5 _ _ t374 _ _ l2 t384 t385 _ ?side1 ?side2 ?side3 ?side4 A13.out).mono ?_); (case side1 => refine (Kd.R_reads' (e := 3) (base := w.heap.size) (ok := fun k_ => (some k_ ≠ (.slice Ao17 t371.length co17 : Value).ownBlock ∧ some k_ ≠ (.slice Ao21 t379.length co21 : Value).ownBlock)) (n := t374.length) (c := co24) ?_).2.2; exact (rU (Kd.R_mono (Kd.R_far (p := ⟨gb383, 0, none⟩) (Kd.R_types HO376.out BK383.out (by decide)) (fun _ hk => hk.2) (.slice Ao21 t379.length co21)) (fun _ h_ => h_.1)))); (case side2 => exact (Kd.R_reads' HO376.out).2.1); (case side3 => exact Kd.C_below HR2.out (by repeat (first | (with_reducible first | exact HB.out | apply below_alloc | apply pw_below_drewN | apply below_drew1 | refine below_set ?_ GE378.out | refine below_set ?_ GE383.out) | exact HB.out))); (case side4 => exact HC2.out); rintro e w25 ⟨v386, rfl, ho0, hb⟩; refine ⟨_, rfl, ?_⟩; have n0_ := Aside0.mk (Kd.R_elder' (rU (Kd.R_mono (Kd.R_far (p := ⟨gb383, 0, none⟩) (Kd.R_types HO373.out BK383.out (by decide)) (fun _ hk => hk.2) (.slice Ao21 t379.length co21)) (fun _ h_ => h_.1))) (Kd.R_base ho0) hb); have n1_ := Aside0.mk (Kd.R_elder' (rU (Kd.R_mono (Kd.R_far (p := ⟨gb383, 0, none⟩) (Kd.R_types HO376.out BK383.out (by decide)) (fun _ hk => hk.2) (.slice Ao21 t379.length co21)) (fun _ h_ => h_.1))) (Kd.R_base ho0) hb); have n2_ := Aside0.mk (Kd.R_elder' (rU (Kd.R_mono (Kd.R_far (p := ⟨gb383, 0, none⟩) (Kd.R_types HO381.out BK383.out (by decide)) (fun _ hk => hk.2) (.slice Ao21 t379.length co21)) (fun _ h_ => h_.1))) (Kd.R_base ho0) hb); have n3_ := Aside0.mk (Kd.R_lower (Kd.R_new' (Kd.R_new' (Kd.R_new' ho0 (Kd.R_lt (rU (Kd.R_mono (Kd.R_far (p := ⟨gb383, 0, none⟩) (Kd.R_types HO373.out BK383.out (by decide)) (fun _ hk => hk.2) (.slice Ao21 t379.length co21)) (fun _ h_ => h_.1))))) (Kd.R_lt (rU (Kd.R_mono (Kd.R_far (p := ⟨gb383, 0, none⟩) (Kd.R_types HO376.out BK383.out (by decide)) (fun _ hk => hk.2) (.slice Ao21 t379.length co21)) (fun _ h_ => h_.1))))) (Kd.R_lt (rU (Kd.R_mono (Kd.R_far (p := ⟨gb383, 0, none⟩) (Kd.R_types HO381.out BK383.out (by decide)) (fun _ hk => hk.2) (.slice Ao21 t379.length co21)) (fun _ h_ => h_.1))))) (below_size (by repeat (first | (with_reducible first | exact HB.out | apply below_alloc | apply pw_below_drewN | apply below_drew1 | refine below_set ?_ GE378.out | refine below_set ?_ GE383.out) | exact HB.out)))); have n4_ := Aside0.mk (blk_below (g := gb378) (o := .cells #[.slice Ao17 t371.length co17] 27 (0, 0)) (by (with_reducible repeat (first | refine blk_drewN ?_ _ | refine blk_drew ?_ | refine blk_alloc ?_ _)); refine blk_far ?_ NB378_383.out _; (with_reducible repeat (first | refine blk_drewN ?_ _ | refine blk_drew ?_ | refine blk_alloc ?_ _)); exact BK378.out) hb); have n5_ := Aside0.mk (blk_below (g := gb383) (o := .cells #[.slice Ao21 t379.length co21] 27 (0, 0)) (by (with_reducible repeat (first | refine blk_drewN ?_ _ | refine blk_drew ?_ | refine blk_alloc ?_ _)); refine blk_put (cs := #[.slice none 0 0]) ?_ 0 _ rfl; (with_reducible repeat (first | refine blk_drewN ?_ _ | refine blk_drew ?_ | refine blk_alloc ?_ _)); exact BK383.out) hb); have n6_ := Aside0.mk (below_step (by repeat (first | (with_reducible first | exact HB.out | apply below_alloc | apply pw_below_drewN | apply below_drew1 | refine below_set ?_ GE378.out | refine below_set ?_ GE383.out) | exact HB.out)) hb); clear HO373; clear HO376; clear HO381; clear BK378; clear BK383; clear HB; have HO373 := n0_; have HO376 := n1_; have HO381 := n2_; have HO387 := n3_; have BK378 := n4_; have BK383 := n5_; have HB := n6_; clear n0_ n1_ n2_ n3_ n4_ n5_ n6_; (try clear hb); (try clear hb2); (try clear hk); (try clear hi); (try clear ho0)))
     (try simp only [Act.put, List.setIfInBounds_toArray, List.set_cons_zero, List.set_cons_succ])
     go_cut [54] (fun v54 wc => ∃ (kq : Nat) (x54_13 : Bool), v54 = .bool x54_13 ∧ Aside0 (tegulalaw34_RefcountInverse.j1 kq l2 t374 t382 t384 x54_13 t379 = some r) ∧ Aside0 (kq ≤ kj5) ∧ Aside0 (Kd.R (Kd.int .i64) 3 wc w.heap.size (fun k_ => some k_ ≠ (v386 : Value).ownBlock ∧ some k_ ≠ ((.slice Ao17 t371.length co17) : Value).ownBlock ∧ some k_ ≠ ((.slice Ao21 t379.length co21) : Value).ownBlock) (.slice Ao24 t374.length co24) t374) ∧ Aside0 (Kd.R (Kd.int .i64) 3 wc w.heap.size (fun k_ => some k_ ≠ ((.slice Ao24 t374.length co24) : Value).ownBlock ∧ some k_ ≠ ((.slice Ao17 t371.length co17) : Value).ownBlock ∧ some k_ ≠ ((.slice Ao21 t379.length co21) : Value).ownBlock) v386 t384) ∧ Aside0 (Kd.R (Kd.int .i64) 3 wc w.heap.size (fun k_ => some k_ ≠ ((.slice Ao24 t374.length co24) : Value).ownBlock ∧ some k_ ≠ (v386 : Value).ownBlock ∧ some k_ ≠ ((.slice Ao21 t379.length co21) : Value).ownBlock) (.slice Ao17 t371.length co17) t371) ∧ Aside0 (Kd.R (Kd.int .i64) 3 wc w.heap.size (fun k_ => some k_ ≠ ((.slice Ao24 t374.length co24) : Value).ownBlock ∧ some k_ ≠ (v386 : Value).ownBlock ∧ some k_ ≠ ((.slice Ao17 t371.length co17) : Value).ownBlock) (.slice Ao21 t379.length co21) t379) ∧ Aside0 (wc.heap[gb378]? = some (.cells #[(.slice Ao17 t371.length co17)] 27 (0, 0))) ∧ Aside0 (wc.heap[gb383]? = some (.cells #[(.slice Ao21 t379.length co21)] 27 (0, 0))) ∧ Aside0 (Below w.heap.size w wc))
     case first =>
      have H := HC14.out
      clear HC14
      by_cases c26 : t377 = true
      ·
       subst c26
       have H1 : (tegulalaw34_RefcountInverse.j1 kj5 l2 t374 t382 t384 (t382 != t385) t379) = some r := by rw [if_pos rfl] at H; exact H
       clear H
       have H := H1
       clear H1
       have H' := Aside0.mk H
       clear H
       go_wp2
       go_meet
       case rel => exact ⟨_, ((t382 != t385)), (by first | rfl | (simp; done) | (simp [*]; done)), H', ⟨by have := HJ5.out; first | omega | exact Nat.le_refl _⟩, ⟨by (with_reducible repeat (first | apply Kd.R_alloc | apply Kd.R_drewN | apply Kd.R_drew)); exact Kd.R_mono HO376.out (fun _ hk => ⟨hk.2, ⟨hk.1.1, hk.1.2⟩⟩)⟩, ⟨by (with_reducible repeat (first | apply Kd.R_alloc | apply Kd.R_drewN | apply Kd.R_drew)); exact Kd.R_mono HO387.out (fun _ hk => ⟨hk.1.2, ⟨hk.1.1.2, hk.2⟩⟩)⟩, ⟨by (with_reducible repeat (first | apply Kd.R_alloc | apply Kd.R_drewN | apply Kd.R_drew)); exact Kd.R_mono HO373.out (fun _ hk => ⟨hk.1.1, ⟨hk.2, hk.1.2⟩⟩)⟩, ⟨by (with_reducible repeat (first | apply Kd.R_alloc | apply Kd.R_drewN | apply Kd.R_drew)); exact Kd.R_mono HO381.out (fun _ hk => ⟨hk.1.2, ⟨hk.2, hk.1.1.2⟩⟩)⟩, ⟨by (with_reducible repeat (first | refine blk_drewN ?_ _ | refine blk_drew ?_ | refine blk_alloc ?_ _)); exact BK378.out⟩, ⟨by (with_reducible repeat (first | refine blk_drewN ?_ _ | refine blk_drew ?_ | refine blk_alloc ?_ _)); exact BK383.out⟩, ⟨by repeat (first | (with_reducible first | exact HB.out | apply below_alloc | apply pw_below_drewN | apply below_drew1 | refine below_set ?_ GE378.out | refine below_set ?_ GE383.out) | exact HB.out)⟩⟩
      ·
       replace c26 := Bool.eq_false_iff.mpr c26
       subst c26
       have H1 : (tegulalaw34_RefcountInverse.j1 kj5 l2 t374 t382 t384 true t379) = some r := by rw [if_neg (show ¬ (false = true) by decide)] at H; exact H
       clear H
       have H := H1
       clear H1
       have H' := Aside0.mk H
       clear H
       go_wp2
       go_meet
       case rel => exact ⟨_, (true), (by first | rfl | (simp; done) | (simp [*]; done)), H', ⟨by have := HJ5.out; first | omega | exact Nat.le_refl _⟩, ⟨by (with_reducible repeat (first | apply Kd.R_alloc | apply Kd.R_drewN | apply Kd.R_drew)); exact Kd.R_mono HO376.out (fun _ hk => ⟨hk.2, ⟨hk.1.1, hk.1.2⟩⟩)⟩, ⟨by (with_reducible repeat (first | apply Kd.R_alloc | apply Kd.R_drewN | apply Kd.R_drew)); exact Kd.R_mono HO387.out (fun _ hk => ⟨hk.1.2, ⟨hk.1.1.2, hk.2⟩⟩)⟩, ⟨by (with_reducible repeat (first | apply Kd.R_alloc | apply Kd.R_drewN | apply Kd.R_drew)); exact Kd.R_mono HO373.out (fun _ hk => ⟨hk.1.1, ⟨hk.2, hk.1.2⟩⟩)⟩, ⟨by (with_reducible repeat (first | apply Kd.R_alloc | apply Kd.R_drewN | apply Kd.R_drew)); exact Kd.R_mono HO381.out (fun _ hk => ⟨hk.1.2, ⟨hk.2, hk.1.1.2⟩⟩)⟩, ⟨by (with_reducible repeat (first | refine blk_drewN ?_ _ | refine blk_drew ?_ | refine blk_alloc ?_ _)); exact BK378.out⟩, ⟨by (with_reducible repeat (first | refine blk_drewN ?_ _ | refine blk_drew ?_ | refine blk_alloc ?_ _)); exact BK383.out⟩, ⟨by repeat (first | (with_reducible first | exact HB.out | apply below_alloc | apply pw_below_drewN | apply below_drew1 | refine below_set ?_ GE378.out | refine below_set ?_ GE383.out) | exact HB.out)⟩⟩
     case rest =>
      clear HC14
      try clear c1
      try clear c2
      try clear p2
      try clear c4
      try clear c5
      try clear c9
      try clear c10
      try clear c11
      try clear c12
      try clear c13
      try clear c22
      try clear c26
      try clear hcz18_0
      try clear hcz23_0
      try clear hfz18_0
      try clear hfz23_0
      try clear p2
      obtain ⟨kq, x54_13, rfl, HA, HJ13, HO_8, HO_12, HO_379000, HO_384000, BK378, BK383, HB⟩ := hcut
      cases kq with
      | zero => exact absurd HA.out (by simp [tegulalaw34_RefcountInverse.j1])
      | succ kj13 =>
       have H := HA.out
       clear HA
       simp only [tegulalaw34_RefcountInverse.j1] at H
       by_cases c27 : x54_13 = true
       ·
        subst c27
        have H1 : (some false) = some r := by rw [if_pos rfl] at H; exact H
        clear H
        have H := H1
        clear H1
        obtain rfl := Option.some.inj H
        go_wp2
        go_ret
        exact ⟨by first | rfl | (simp [errW_none, errW_some] <;> rfl) | (simp [*, errW_none, errW_some] <;> rfl), by repeat (first | (with_reducible first | exact HB.out | apply below_alloc | apply pw_below_drewN | apply below_drew1 | refine below_set ?_ GE378.out | refine below_set ?_ GE383.out) | exact HB.out)⟩
       ·
        replace c27 := Bool.eq_false_iff.mpr c27
        subst c27
        have H1 : (if t382 = 0 then ((refcount_Counts_Drop.f kj13 t379 l2).bind fun bt388 => (tegulalaw34_RefcountInverse.l0 kj13 t374 t384 bt388.2.1 bt388.2.2 ([] : List (S41)) 0 t379 bt388.1)) else (some (t382 == 2))) = some r := by rw [if_neg (show ¬ (false = true) by decide)] at H; exact H
        clear H
        have H := H1
        clear H1
        by_cases c28 : t382 = 0
        ·
         rw [if_pos c28] at H
         have c28b0 : (t382 == 0) = true := beq_iff_eq.mpr c28
         have c28b1 : (t382 != 0) = false := bne_eq_false_iff_eq.mpr c28
         clear c28
         replace H := Option.bind_eq_some_iff.mp H
         obtain ⟨⟨t388, t391, t394⟩, A290, H⟩ := H
         replace H : (tegulalaw34_RefcountInverse.l0 kj13 t374 t384 t391 t394 ([] : List (S41)) 0 t379 t388) = some r := H
         have A29 := Aside0.mk A290
         clear A290
         have H' := Aside0.mk H
         clear H
         have hnb30 := NB383_378.out
         have hnc30 := NB378_383.out
         have hcz31_0 : wc.cell? ⟨gb383, 0, none⟩ = some (.slice Ao21 t379.length co21) := (blk_cell BK383.out 0).trans rfl
         have hfz31_0 := blk_frozen BK383.out 0
         go_wp2_with (first | ((with_reducible refine gate_callee (f := 14) rfl ?_); refine goesL_ (some 62) rfl rfl Try.func14 (by kernel_rfl) rfl #[.agg #[.slice Ao21 t379.length co21], .slice A2 l2.length c2] rfl (by (try simp only [List.map_toArray, List.map_cons, List.map_nil]); first | done | rfl | (simp only [List.length_drop, List.length_take]; rfl)) ?_; (with_reducible refine (refcount_Counts_Drop.calls kj13 _ _ t379 _ _ l2 t388 t391 t394 _ ?side1 ?side2 ?side3 ?side4 A29.out).mono ?_); (case side1 => repeat (first | exact (Kd.R_reads' HO_384000.out).2.2 | (with_reducible refine Kd.C_alloc ?_ _) | (with_reducible refine Kd.C_drewN ?_ _) | (with_reducible refine Kd.C_drew ?_))); (case side2 => exact (Kd.R_reads' HO_384000.out).2.1); (case side3 => exact cU (Kd.C_below HR2.out HB.out)); (case side4 => exact HC2.out); rintro e w32 ⟨v389, v392, rfl, ho0, ho1, hb⟩; refine ⟨_, rfl, ?_⟩; have n0_ := Aside0.mk (Kd.R_elder' (rU HO_8.out) (Kd.R_base ho0) hb); have n1_ := Aside0.mk (Kd.R_elder' (rU HO_12.out) (Kd.R_base ho0) hb); have n2_ := Aside0.mk (Kd.R_elder' (rU HO_379000.out) (Kd.R_base ho0) hb); have n3_ := Aside0.mk (Kd.R_elder' (rU HO_384000.out) (Kd.R_base ho0) hb); have n4_ := Aside0.mk (Kd.R_lower (Kd.R_new' (Kd.R_new' (Kd.R_new' (Kd.R_new' ho0 (Kd.R_lt (rU HO_8.out))) (Kd.R_lt (rU HO_12.out))) (Kd.R_lt (rU HO_379000.out))) (Kd.R_lt (rU HO_384000.out))) (below_size (by repeat (first | (with_reducible first | exact HB.out | apply below_alloc | apply pw_below_drewN | apply below_drew1 | refine below_set ?_ GE378.out | refine below_set ?_ GE383.out) | exact HB.out)))); have n5_ := Aside0.mk (Kd.R_lower ho1 (below_size (by repeat (first | (with_reducible first | exact HB.out | apply below_alloc | apply pw_below_drewN | apply below_drew1 | refine below_set ?_ GE378.out | refine below_set ?_ GE383.out) | exact HB.out)))); have n6_ := Aside0.mk (blk_below (g := gb378) (o := .cells #[.slice Ao17 t371.length co17] 27 (0, 0)) (kU BK378.out) hb); have n7_ := Aside0.mk (blk_below (g := gb383) (o := .cells #[.slice Ao21 t379.length co21] 27 (0, 0)) (kU BK383.out) hb); have n8_ := Aside0.mk (below_step (by repeat (first | (with_reducible first | exact HB.out | apply below_alloc | apply pw_below_drewN | apply below_drew1 | refine below_set ?_ GE378.out | refine below_set ?_ GE383.out) | exact HB.out)) hb); clear HO_8; clear HO_12; clear HO_379000; clear HO_384000; clear BK378; clear BK383; clear HB; have HO_8 := n0_; have HO_12 := n1_; have HO_379000 := n2_; have HO_384000 := n3_; have HO390 := n4_; have HO393 := n5_; have BK378 := n6_; have BK383 := n7_; have HB := n8_; clear n0_ n1_ n2_ n3_ n4_ n5_ n6_ n7_ n8_; (try clear hb); (try clear hb2); (try clear hk); (try clear hi); (try clear ho0); (try clear ho1)) | ((with_reducible refine gate_dst (N := 14) rfl ?_); (try (refine gate_guard (by rfl) ?_; dsimp only)); refine box_event ?hg (N := 14) ?hd (cs := #[.slice none 0 0]) (t := 27) ?hr ?_; (case hd => rfl); (case hg => rfl); (case hr => first | (go_simp; done) | (go_simp; rfl)); intro gb395 hg w33 hbox hb; have n0_ := Aside0.mk (Kd.R_below (rU HO_8.out) hb); have n1_ := Aside0.mk (Kd.R_below (rU HO_12.out) hb); have n2_ := Aside0.mk (Kd.R_below (rU HO_379000.out) hb); have n3_ := Aside0.mk (Kd.R_below (rU HO_384000.out) hb); have n4_ := Aside0.mk (Kd.R_below (rU HO390.out) hb); have n5_ := Aside0.mk (Kd.R_below (rU HO393.out) hb); have n6_ := Aside0.mk (blk_below (g := gb378) (o := .cells #[.slice Ao17 t371.length co17] 27 (0, 0)) (kU BK378.out) hb); have n7_ := Aside0.mk (blk_below (g := gb383) (o := .cells #[.slice Ao21 t379.length co21] 27 (0, 0)) (kU BK383.out) hb); have n8_ := Aside0.mk (below_step (by repeat (first | (with_reducible first | exact HB.out | apply below_alloc | apply pw_below_drewN | apply below_drew1 | refine below_set ?_ GE378.out | refine below_set ?_ GE383.out) | exact HB.out)) hb); have n9_ := Aside0.mk (hbox); have n10_ := Aside0.mk ((by rw [hg]; exact (below_size (by repeat (first | (with_reducible first | exact HB.out | apply below_alloc | apply pw_below_drewN | apply below_drew1 | refine below_set ?_ GE378.out | refine below_set ?_ GE383.out) | exact HB.out))) : w.heap.size ≤ gb395)); have n11_ := Aside0.mk ((by rw [hg]; exact (below_size (by repeat (first | (with_reducible first | exact HB.out | apply below_alloc | apply pw_below_drewN | apply below_drew1 | refine below_set ?_ GE378.out | refine below_set ?_ GE383.out) | exact HB.out))) : w.heap.size ≤ gb395)); have n12_ := Aside0.mk ((by rw [hg]; exact Nat.ne_of_lt (blk_lt (g := gb378) (o := .cells #[.slice Ao17 t371.length co17] 27 (0, 0)) (kU BK378.out)) : gb378 ≠ gb395)); have n13_ := Aside0.mk ((by rw [hg]; exact Nat.ne_of_gt (blk_lt (g := gb378) (o := .cells #[.slice Ao17 t371.length co17] 27 (0, 0)) (kU BK378.out)) : gb395 ≠ gb378)); have n14_ := Aside0.mk ((by rw [hg]; exact Nat.ne_of_lt (blk_lt (g := gb383) (o := .cells #[.slice Ao21 t379.length co21] 27 (0, 0)) (kU BK383.out)) : gb383 ≠ gb395)); have n15_ := Aside0.mk ((by rw [hg]; exact Nat.ne_of_gt (blk_lt (g := gb383) (o := .cells #[.slice Ao21 t379.length co21] 27 (0, 0)) (kU BK383.out)) : gb395 ≠ gb383)); clear HO_8; clear HO_12; clear HO_379000; clear HO_384000; clear HO390; clear HO393; clear BK378; clear BK383; clear HB; have HO_8 := n0_; have HO_12 := n1_; have HO_379000 := n2_; have HO_384000 := n3_; have HO390 := n4_; have HO393 := n5_; have BK378 := n6_; have BK383 := n7_; have HB := n8_; have BK395 := n9_; have GW395 := n10_; have GE395 := n11_; have NB378_395 := n12_; have NB395_378 := n13_; have NB383_395 := n14_; have NB395_383 := n15_; clear n0_ n1_ n2_ n3_ n4_ n5_ n6_ n7_ n8_ n9_ n10_ n11_ n12_ n13_ n14_ n15_; clear hb hbox hg; obtain ⟨Ao34, co34, eo34⟩ := Kd.R_slice HO390.out; subst eo34; have hnb35 := NB395_378.out; have hnc35 := NB378_395.out; have hnb36 := NB395_383.out; have hnc36 := NB383_395.out; have hcz37_0 : w33.cell? ⟨gb395, 0, none⟩ = some (.slice none 0 0) := (blk_cell BK395.out 0).trans rfl; have hfz37_0 := blk_frozen BK395.out 0))
         go_loopg [17, 18] kj13 (fun kq v17 v18 w' => ∃ (x17_3 : List (S41)) (x18_3 : Int), v18 = .int .i64 x18_3 ∧ Aside0 (tegulalaw34_RefcountInverse.l0 kq t374 t384 t391 t394 x17_3 x18_3 t379 t388 = some r) ∧ Aside0 (kq ≤ kj13) ∧ Aside0 (Kd.R (Kd.int .i64) 3 w' w.heap.size (fun k_ => some k_ ≠ (v386 : Value).ownBlock ∧ some k_ ≠ ((.slice Ao17 t371.length co17) : Value).ownBlock ∧ some k_ ≠ ((.slice Ao21 t379.length co21) : Value).ownBlock ∧ some k_ ≠ ((.slice Ao34 t388.length co34) : Value).ownBlock) (.slice Ao24 t374.length co24) t374) ∧ Aside0 (Kd.R (Kd.int .i64) 3 w' w.heap.size (fun k_ => some k_ ≠ ((.slice Ao24 t374.length co24) : Value).ownBlock ∧ some k_ ≠ ((.slice Ao17 t371.length co17) : Value).ownBlock ∧ some k_ ≠ ((.slice Ao21 t379.length co21) : Value).ownBlock ∧ some k_ ≠ ((.slice Ao34 t388.length co34) : Value).ownBlock) v386 t384) ∧ Aside0 (Kd.R k41 41 w' w.heap.size (fun k_ => some k_ ≠ (v17 : Value).ownBlock) v392 t391) ∧ Aside0 (Kd.R k41 41 w' w.heap.size (fun k_ => some k_ ≠ (v392 : Value).ownBlock) v17 x17_3) ∧ Aside0 (Kd.R (Kd.int .i64) 3 w' w.heap.size (fun k_ => some k_ ≠ ((.slice Ao24 t374.length co24) : Value).ownBlock ∧ some k_ ≠ (v386 : Value).ownBlock ∧ some k_ ≠ ((.slice Ao21 t379.length co21) : Value).ownBlock ∧ some k_ ≠ ((.slice Ao34 t388.length co34) : Value).ownBlock) (.slice Ao17 t371.length co17) t371) ∧ Aside0 (Kd.R (Kd.int .i64) 3 w' w.heap.size (fun k_ => some k_ ≠ ((.slice Ao24 t374.length co24) : Value).ownBlock ∧ some k_ ≠ (v386 : Value).ownBlock ∧ some k_ ≠ ((.slice Ao17 t371.length co17) : Value).ownBlock ∧ some k_ ≠ ((.slice Ao34 t388.length co34) : Value).ownBlock) (.slice Ao21 t379.length co21) t379) ∧ Aside0 (Kd.R (Kd.int .i64) 3 w' w.heap.size (fun k_ => some k_ ≠ ((.slice Ao24 t374.length co24) : Value).ownBlock ∧ some k_ ≠ (v386 : Value).ownBlock ∧ some k_ ≠ ((.slice Ao17 t371.length co17) : Value).ownBlock ∧ some k_ ≠ ((.slice Ao21 t379.length co21) : Value).ownBlock) (.slice Ao34 t388.length co34) t388) ∧ Aside0 (w'.heap[gb378]? = some (.cells #[(.slice Ao17 t371.length co17)] 27 (0, 0))) ∧ Aside0 (w'.heap[gb383]? = some (.cells #[(.slice Ao21 t379.length co21)] 27 (0, 0))) ∧ Aside0 (w'.heap[gb395]? = some (.cells #[(.slice Ao34 t388.length co34)] 27 (0, 0))) ∧ Aside0 (Below w.heap.size w w'))
         case atStart => exact ⟨(([] : List (S41))), (0), (by first | rfl | (simp; done) | (simp [*]; done)), H', ⟨Nat.le_refl _⟩, ⟨by (with_reducible repeat (first | apply Kd.R_alloc | apply Kd.R_drewN | apply Kd.R_drew)); exact Kd.R_mono (Kd.R_far (p := ⟨gb395, 0, none⟩) (Kd.R_types HO_8.out BK395.out (by decide)) (fun _ hk => hk.2) (.slice Ao34 t388.length co34)) (fun _ hk => ⟨hk.1.1.1, ⟨hk.1.1.2.1, ⟨hk.1.1.2.2, hk.1.2⟩⟩⟩)⟩, ⟨by (with_reducible repeat (first | apply Kd.R_alloc | apply Kd.R_drewN | apply Kd.R_drew)); exact Kd.R_mono (Kd.R_far (p := ⟨gb395, 0, none⟩) (Kd.R_types HO_12.out BK395.out (by decide)) (fun _ hk => hk.2) (.slice Ao34 t388.length co34)) (fun _ hk => ⟨hk.1.1.1, ⟨hk.1.1.2.1, ⟨hk.1.1.2.2, hk.1.2⟩⟩⟩)⟩, ⟨by (with_reducible repeat (first | apply Kd.R_alloc | apply Kd.R_drewN | apply Kd.R_drew)); exact Kd.R_mono (Kd.R_far (p := ⟨gb395, 0, none⟩) (Kd.R_types HO393.out BK395.out (by decide)) (fun _ hk => hk.2) (.slice Ao34 t388.length co34)) (fun _ hk => (by simp [Value.ownBlock]))⟩, ⟨by first | exact Kd.R_nil _ _ _ _ _ | exact Kd.N_nil _ _ _ _ _ | exact Kd.V_nil _ _ _ _ _ | exact Kd.Q_nil _ _ _ _ _ | exact Kd.S_nil _ _ _ _ _⟩, ⟨by (with_reducible repeat (first | apply Kd.R_alloc | apply Kd.R_drewN | apply Kd.R_drew)); exact Kd.R_mono (Kd.R_far (p := ⟨gb395, 0, none⟩) (Kd.R_types HO_379000.out BK395.out (by decide)) (fun _ hk => hk.2) (.slice Ao34 t388.length co34)) (fun _ hk => ⟨hk.1.1.1, ⟨hk.1.1.2.1, ⟨hk.1.1.2.2, hk.1.2⟩⟩⟩)⟩, ⟨by (with_reducible repeat (first | apply Kd.R_alloc | apply Kd.R_drewN | apply Kd.R_drew)); exact Kd.R_mono (Kd.R_far (p := ⟨gb395, 0, none⟩) (Kd.R_types HO_384000.out BK395.out (by decide)) (fun _ hk => hk.2) (.slice Ao34 t388.length co34)) (fun _ hk => ⟨hk.1.1.1, ⟨hk.1.1.2.1, ⟨hk.1.1.2.2, hk.1.2⟩⟩⟩)⟩, ⟨by (with_reducible repeat (first | apply Kd.R_alloc | apply Kd.R_drewN | apply Kd.R_drew)); exact Kd.R_mono (Kd.R_far (p := ⟨gb395, 0, none⟩) (Kd.R_types HO390.out BK395.out (by decide)) (fun _ hk => hk.2) (.slice Ao34 t388.length co34)) (fun _ hk => ⟨hk.1.1.1.1.2, ⟨hk.1.1.1.2, ⟨hk.1.1.2, hk.1.2⟩⟩⟩)⟩, ⟨by (with_reducible repeat (first | refine blk_drewN ?_ _ | refine blk_drew ?_ | refine blk_alloc ?_ _)); refine blk_far ?_ NB378_395.out _; (with_reducible repeat (first | refine blk_drewN ?_ _ | refine blk_drew ?_ | refine blk_alloc ?_ _)); exact BK378.out⟩, ⟨by (with_reducible repeat (first | refine blk_drewN ?_ _ | refine blk_drew ?_ | refine blk_alloc ?_ _)); refine blk_far ?_ NB383_395.out _; (with_reducible repeat (first | refine blk_drewN ?_ _ | refine blk_drew ?_ | refine blk_alloc ?_ _)); exact BK383.out⟩, ⟨by (with_reducible repeat (first | refine blk_drewN ?_ _ | refine blk_drew ?_ | refine blk_alloc ?_ _)); refine blk_put (cs := #[.slice none 0 0]) ?_ 0 _ rfl; (with_reducible repeat (first | refine blk_drewN ?_ _ | refine blk_drew ?_ | refine blk_alloc ?_ _)); exact BK395.out⟩, ⟨by repeat (first | (with_reducible first | exact HB.out | apply below_alloc | apply pw_below_drewN | apply below_drew1 | refine below_set ?_ GE378.out | refine below_set ?_ GE383.out | refine below_set ?_ GE395.out) | exact HB.out)⟩⟩
         case round =>
          clear H'
          try clear c1
          try clear c2
          try clear p2
          try clear c3
          try clear c4
          try clear c5
          try clear c9
          try clear c10
          try clear c11
          try clear c12
          try clear c13
          try clear c14
          try clear c22
          try clear c26
          try clear c27
          try clear c28
          try clear c28b0
          try clear c28b1
          try clear c30
          try clear c35
          try clear c36
          try clear hcz18_0
          try clear hcz23_0
          try clear hcz31_0
          try clear hcz37_0
          try clear hfz18_0
          try clear hfz23_0
          try clear hfz31_0
          try clear hfz37_0
          try clear p2
          obtain ⟨x17_3, x18_3, rfl, HA, HK3, HO_8, HO_12, HO_15, HO_17, HO_379000, HO_384000, HO_396000, BK378, BK383, BK395, HB⟩ := hrel
          cases gk with
          | zero => exact absurd HA.out (by simp [tegulalaw34_RefcountInverse.l0])
          | succ k3 =>
           have H := HA.out
           clear HA
           simp only [tegulalaw34_RefcountInverse.l0] at H
           by_cases c38 : x18_3 < (t374.length : Int)
           ·
            rw [if_pos c38] at H
            have c38b0 := decide_eq_true c38
            clear c38
            by_cases c39 : 0 ≤ x18_3
            ·
             rw [if_pos c39] at H
             have c39b0 := decide_eq_true c39
             clear c39
             by_cases c40 : (rd t374 x18_3) = 0
             ·
              rw [if_pos c40] at H
              have c40b0 : ((rd t374 x18_3) == 0) = true := beq_iff_eq.mpr c40
              have c40b1 : ((rd t374 x18_3) != 0) = false := bne_eq_false_iff_eq.mpr c40
              clear c40
              by_cases c41 : x18_3 < (t384.length : Int)
              ·
               rw [if_pos c41] at H
               have c41b0 := decide_eq_true c41
               clear c41
               by_cases c42 : (rd t384 x18_3) > 0
               ·
                rw [if_pos c42] at H
                have c42b0 := decide_eq_true c42
                clear c42
                by_cases c43 : x17_3.length < 5864062014805
                ·
                 rw [if_pos c43] at H
                 have LMc43 := Aside0.mk c43
                 clear c43
                 obtain ⟨y398, hy398⟩ : ∃ y_ : List (S41), y_ = (x17_3 ++ [(⟨0, 1, x18_3⟩ : S41)]) := ⟨_, rfl⟩
                 replace H : (tegulalaw34_RefcountInverse.l0 k3 t374 t384 t391 t394 y398 (wrap64 (x18_3 + 1)) t379 t388) = some r := by first | (rw [hy398]; exact H) | exact H
                 have Ny398 := Aside0.mk hy398
                 clear hy398
                 have H' := Aside0.mk H
                 clear H
                 have p396 : 0 ≤ (x18_3 : Int) := of_decide_eq_true (by first | (with_reducible assumption) | assumption)
                 have q396 : x18_3 < (t374.length : Int) := of_decide_eq_true (by first | (with_reducible assumption) | assumption)
                 obtain ⟨ad396, e396, hx396_0⟩ := Kd.at_int (Kd.R_reads' HO_8.out).2.2 x18_3 p396 q396
                 cases e396
                 replace p396 := eq_true p396
                 replace q396 := eq_true q396
                 obtain ⟨Ao44, co44, eo44⟩ := Kd.R_slice HO_12.out
                 subst eo44
                 have p397 : 0 ≤ (x18_3 : Int) := of_decide_eq_true (by first | (with_reducible assumption) | assumption)
                 have q397 : x18_3 < (t384.length : Int) := of_decide_eq_true (by first | (with_reducible assumption) | assumption)
                 obtain ⟨ad397, e397, hx397_0⟩ := Kd.at_int (Kd.R_reads' HO_12.out).2.2 x18_3 p397 q397
                 cases e397
                 replace p397 := eq_true p397
                 replace q397 := eq_true q397
                 go_wp2_with (first | ((with_reducible refine gate_builtin (b := .append) (xs := #[.tmp 84, .tmp 87]) rfl ?_); (try (refine gate_guard (by rfl) ?_; dsimp only)); at_builtin; refine Kd.R_append k41 (w0 := w) w.heap.size rfl (.tmp 84) (.tmp 87) 32 41 (.agg #[(.int .i64 0), (.int .i64 0), (.int .i64 0)]) 24 rfl Try.underlying32 info41 rfl (by decide) (by omega) u17 x17_3 (⟨0, 1, x18_3⟩ : S41) [.int .i64 0, .int .i64 1, .int .i64 x18_3] (fun k_ => some k_ ≠ (v392 : Value).ownBlock) (fun _ => False) rfl rfl ?aP (fun _ hk => hk.elim) ?aF ?aO ?aB ?aS ?aL ?_; (case aP => exact k41_mkM _ _ _ (⟨0, 1, x18_3⟩ : S41)); (case aB => exact (by repeat (first | (with_reducible first | exact HB.out | apply below_alloc | apply pw_below_drewN | apply below_drew1 | refine below_set ?_ GE378.out | refine below_set ?_ GE383.out | refine below_set ?_ GE395.out) | exact HB.out))); (case aF => exact (fun k_ hk => Kd.fresh' (Kd.R_lt (rU HO_15.out)) k_ hk)); (case aO => exact (rU HO_17.out)); (case aS => exact (below_size (by repeat (first | (with_reducible first | exact HB.out | apply below_alloc | apply pw_below_drewN | apply below_drew1 | refine below_set ?_ GE378.out | refine below_set ?_ GE383.out | refine below_set ?_ GE395.out) | exact HB.out)))); (case aL => have := LMc43.out; omega); intro v399 w45 ho hb hg hat; rw [← Ny398.out] at ho; have n0_ := Aside0.mk (Kd.R_over' (rU HO_8.out) (Kd.R_typed (rU HO_17.out)) (by decide) hg); have n1_ := Aside0.mk (Kd.R_over' (rU HO_12.out) (Kd.R_typed (rU HO_17.out)) (by decide) hg); have n2_ := Aside0.mk (Kd.R_after (ok := (fun _ => True)) (rU (Kd.R_mono HO_15.out (fun _ hk => ⟨trivial, hk⟩))) hg hat); have n3_ := Aside0.mk (Kd.R_over' (rU HO_379000.out) (Kd.R_typed (rU HO_17.out)) (by decide) hg); have n4_ := Aside0.mk (Kd.R_over' (rU HO_384000.out) (Kd.R_typed (rU HO_17.out)) (by decide) hg); have n5_ := Aside0.mk (Kd.R_over' (rU HO_396000.out) (Kd.R_typed (rU HO_17.out)) (by decide) hg); have n6_ := Aside0.mk (blk_grown (g := gb378) (o := .cells #[.slice Ao17 t371.length co17] 27 (0, 0)) (kU BK378.out) hg (Kd.R_ne HO_17.out BK378.out (by decide))); have n7_ := Aside0.mk (blk_grown (g := gb383) (o := .cells #[.slice Ao21 t379.length co21] 27 (0, 0)) (kU BK383.out) hg (Kd.R_ne HO_17.out BK383.out (by decide))); have n8_ := Aside0.mk (blk_grown (g := gb395) (o := .cells #[.slice Ao34 t388.length co34] 27 (0, 0)) (kU BK395.out) hg (Kd.R_ne HO_17.out BK395.out (by decide))); have n9_ := Aside0.mk (hb); have n10_ := Aside0.mk (ho); clear HO_8; clear HO_12; clear HO_15; clear HO_379000; clear HO_384000; clear HO_396000; clear BK378; clear BK383; clear BK395; clear HB; clear HO_17; have HO_8 := n0_; have HO_12 := n1_; have HO_15 := n2_; have HO_379000 := n3_; have HO_384000 := n4_; have HO_396000 := n5_; have BK378 := n6_; have BK383 := n7_; have BK395 := n8_; have HB := n9_; have HO400 := n10_; clear n0_ n1_ n2_ n3_ n4_ n5_ n6_ n7_ n8_ n9_ n10_; clear ho hb hg hat))
                 go_roundg k3
                 case measure => have := HJ5.out; have := HJ13.out; have := HK3.out; omega
                 case rel => exact ⟨(y398), (wrap64 (x18_3 + 1)), (by first | rfl | (simp; done) | (simp [*]; done)), H', ⟨by have := HJ5.out; have := HJ13.out; have := HK3.out; omega⟩, ⟨rU HO_8.out⟩, ⟨rU HO_12.out⟩, ⟨by (with_reducible repeat (first | apply Kd.R_alloc | apply Kd.R_drewN | apply Kd.R_drew)); exact Kd.R_mono HO_15.out (fun _ hk => hk.2)⟩, ⟨rU HO400.out⟩, ⟨rU HO_379000.out⟩, ⟨rU HO_384000.out⟩, ⟨rU HO_396000.out⟩, ⟨by (with_reducible repeat (first | refine blk_drewN ?_ _ | refine blk_drew ?_ | refine blk_alloc ?_ _)); exact BK378.out⟩, ⟨by (with_reducible repeat (first | refine blk_drewN ?_ _ | refine blk_drew ?_ | refine blk_alloc ?_ _)); exact BK383.out⟩, ⟨by (with_reducible repeat (first | refine blk_drewN ?_ _ | refine blk_drew ?_ | refine blk_alloc ?_ _)); exact BK395.out⟩, ⟨by repeat (first | (with_reducible first | exact HB.out | apply below_alloc | apply pw_below_drewN | apply below_drew1 | refine below_set ?_ GE378.out | refine below_set ?_ GE383.out | refine below_set ?_ GE395.out) | exact HB.out)⟩⟩
                ·
                 rw [if_neg c43] at H
                 exact absurd H (by simp)
               ·
                rw [if_neg c42] at H
                have c42b0 := decide_eq_false c42
                clear c42
                have H' := Aside0.mk H
                clear H
                have p396 : 0 ≤ (x18_3 : Int) := of_decide_eq_true (by first | (with_reducible assumption) | assumption)
                have q396 : x18_3 < (t374.length : Int) := of_decide_eq_true (by first | (with_reducible assumption) | assumption)
                obtain ⟨ad396, e396, hx396_0⟩ := Kd.at_int (Kd.R_reads' HO_8.out).2.2 x18_3 p396 q396
                cases e396
                replace p396 := eq_true p396
                replace q396 := eq_true q396
                obtain ⟨Ao46, co46, eo46⟩ := Kd.R_slice HO_12.out
                subst eo46
                have p397 : 0 ≤ (x18_3 : Int) := of_decide_eq_true (by first | (with_reducible assumption) | assumption)
                have q397 : x18_3 < (t384.length : Int) := of_decide_eq_true (by first | (with_reducible assumption) | assumption)
                obtain ⟨ad397, e397, hx397_0⟩ := Kd.at_int (Kd.R_reads' HO_12.out).2.2 x18_3 p397 q397
                cases e397
                replace p397 := eq_true p397
                replace q397 := eq_true q397
                go_wp2
                go_roundg k3
                case measure => have := HJ5.out; have := HJ13.out; have := HK3.out; omega
                case rel => exact ⟨(x17_3), (wrap64 (x18_3 + 1)), (by first | rfl | (simp; done) | (simp [*]; done)), H', ⟨by have := HJ5.out; have := HJ13.out; have := HK3.out; omega⟩, ⟨rU HO_8.out⟩, ⟨rU HO_12.out⟩, ⟨rU HO_15.out⟩, ⟨rU HO_17.out⟩, ⟨rU HO_379000.out⟩, ⟨rU HO_384000.out⟩, ⟨rU HO_396000.out⟩, ⟨by (with_reducible repeat (first | refine blk_drewN ?_ _ | refine blk_drew ?_ | refine blk_alloc ?_ _)); exact BK378.out⟩, ⟨by (with_reducible repeat (first | refine blk_drewN ?_ _ | refine blk_drew ?_ | refine blk_alloc ?_ _)); exact BK383.out⟩, ⟨by (with_reducible repeat (first | refine blk_drewN ?_ _ | refine blk_drew ?_ | refine blk_alloc ?_ _)); exact BK395.out⟩, ⟨by repeat (first | (with_reducible first | exact HB.out | apply below_alloc | apply pw_below_drewN | apply below_drew1 | refine below_set ?_ GE378.out | refine below_set ?_ GE383.out | refine below_set ?_ GE395.out) | exact HB.out)⟩⟩
              ·
               rw [if_neg c41] at H
               exact absurd H (by simp)
             ·
              rw [if_neg c40] at H
              have c40b0 : ((rd t374 x18_3) == 0) = false := beq_eq_false_iff_ne.mpr c40
              have c40b1 : ((rd t374 x18_3) != 0) = true := bne_iff_ne.mpr c40
              have H' := Aside0.mk H
              clear H
              have p396 : 0 ≤ (x18_3 : Int) := of_decide_eq_true (by first | (with_reducible assumption) | assumption)
              have q396 : x18_3 < (t374.length : Int) := of_decide_eq_true (by first | (with_reducible assumption) | assumption)
              obtain ⟨ad396, e396, hx396_0⟩ := Kd.at_int (Kd.R_reads' HO_8.out).2.2 x18_3 p396 q396
              cases e396
              replace p396 := eq_true p396
              replace q396 := eq_true q396
              go_wp2
              go_roundg k3
              case measure => have := HJ5.out; have := HJ13.out; have := HK3.out; omega
              case rel => exact ⟨(x17_3), (wrap64 (x18_3 + 1)), (by first | rfl | (simp; done) | (simp [*]; done)), H', ⟨by have := HJ5.out; have := HJ13.out; have := HK3.out; omega⟩, ⟨rU HO_8.out⟩, ⟨rU HO_12.out⟩, ⟨rU HO_15.out⟩, ⟨rU HO_17.out⟩, ⟨rU HO_379000.out⟩, ⟨rU HO_384000.out⟩, ⟨rU HO_396000.out⟩, ⟨by (with_reducible repeat (first | refine blk_drewN ?_ _ | refine blk_drew ?_ | refine blk_alloc ?_ _)); exact BK378.out⟩, ⟨by (with_reducible repeat (first | refine blk_drewN ?_ _ | refine blk_drew ?_ | refine blk_alloc ?_ _)); exact BK383.out⟩, ⟨by (with_reducible repeat (first | refine blk_drewN ?_ _ | refine blk_drew ?_ | refine blk_alloc ?_ _)); exact BK395.out⟩, ⟨by repeat (first | (with_reducible first | exact HB.out | apply below_alloc | apply pw_below_drewN | apply below_drew1 | refine below_set ?_ GE378.out | refine below_set ?_ GE383.out | refine below_set ?_ GE395.out) | exact HB.out)⟩⟩
            ·
             rw [if_neg c39] at H
             exact absurd H (by simp)
           ·
            rw [if_neg c38] at H
            have c38b0 := decide_eq_false c38
            clear c38
            by_cases c47 : t394 = 0
            ·
             rw [if_pos c47] at H
             have c47b0 : (t394 == 0) = true := beq_iff_eq.mpr c47
             have c47b1 : (t394 != 0) = false := bne_eq_false_iff_eq.mpr c47
             clear c47
             replace H := Option.bind_eq_some_iff.mp H
             obtain ⟨t401, A480, H⟩ := H
             replace H : (if t401 = true then ((tegularef32_Runs.f k3 x17_3).bind fun t402 => ((tegularef32_Same.f k3 t391 t402).bind fun t405 => (if t405 = true then ((tegulalaw34_same.f k3 t379 t384).bind fun t406 => (some t406)) else (some false)))) else (some false)) = some r := H
             have A48 := Aside0.mk A480
             clear A480
             by_cases c49 : t401 = true
             ·
              subst c49
              have H1 : ((tegularef32_Runs.f k3 x17_3).bind fun t402 => ((tegularef32_Same.f k3 t391 t402).bind fun t405 => (if t405 = true then ((tegulalaw34_same.f k3 t379 t384).bind fun t406 => (some t406)) else (some false)))) = some r := by rw [if_pos rfl] at H; exact H
              clear H
              have H := H1
              clear H1
              replace H := Option.bind_eq_some_iff.mp H
              obtain ⟨t402, A500, H⟩ := H
              replace H : ((tegularef32_Same.f k3 t391 t402).bind fun t405 => (if t405 = true then ((tegulalaw34_same.f k3 t379 t384).bind fun t406 => (some t406)) else (some false))) = some r := H
              have A50 := Aside0.mk A500
              clear A500
              replace H := Option.bind_eq_some_iff.mp H
              obtain ⟨t405, A510, H⟩ := H
              replace H : (if t405 = true then ((tegulalaw34_same.f k3 t379 t384).bind fun t406 => (some t406)) else (some false)) = some r := H
              have A51 := Aside0.mk A510
              clear A510
              by_cases c52 : t405 = true
              ·
               subst c52
               have H1 : ((tegulalaw34_same.f k3 t379 t384).bind fun t406 => (some t406)) = some r := by rw [if_pos rfl] at H; exact H
               clear H
               have H := H1
               clear H1
               replace H := Option.bind_eq_some_iff.mp H
               obtain ⟨t406, A530, H⟩ := H
               replace H : (some t406) = some r := H
               have A53 := Aside0.mk A530
               clear A530
               obtain rfl := Option.some.inj H
               have hnb54 := NB395_378.out
               have hnc54 := NB378_395.out
               have hnb55 := NB395_383.out
               have hnc55 := NB383_395.out
               have hcz56_0 : wr.cell? ⟨gb395, 0, none⟩ = some (.slice Ao34 t388.length co34) := (blk_cell BK395.out 0).trans rfl
               have hfz56_0 := blk_frozen BK395.out 0
               go_wp2_with (first | (go_at_call 15; (with_reducible refine (tegulalaw34_same.calls k3 _ _ t388 _ _ t374 true _ ?side1 ?side2 ?side3 ?side4 A48.out).mono ?_); (case side1 => repeat (first | exact (Kd.R_reads' HO_396000.out).2.2 | (with_reducible refine Kd.C_alloc ?_ _) | (with_reducible refine Kd.C_drewN ?_ _) | (with_reducible refine Kd.C_drew ?_))); (case side2 => exact (Kd.R_reads' HO_396000.out).2.1); (case side3 => repeat (first | exact (Kd.R_reads' HO_8.out).2.2 | (with_reducible refine Kd.C_alloc ?_ _) | (with_reducible refine Kd.C_drewN ?_ _) | (with_reducible refine Kd.C_drew ?_))); (case side4 => exact (Kd.R_reads' HO_8.out).2.1); rintro e w57 ⟨rfl, hb⟩; have n0_ := Aside0.mk (Kd.R_below (rU HO_8.out) hb); have n1_ := Aside0.mk (Kd.R_below (rU HO_12.out) hb); have n2_ := Aside0.mk (Kd.R_below (rU HO_15.out) hb); have n3_ := Aside0.mk (Kd.R_below (rU HO_17.out) hb); have n4_ := Aside0.mk (Kd.R_below (rU HO_379000.out) hb); have n5_ := Aside0.mk (Kd.R_below (rU HO_384000.out) hb); have n6_ := Aside0.mk (Kd.R_below (rU HO_396000.out) hb); have n7_ := Aside0.mk (blk_below (g := gb378) (o := .cells #[.slice Ao17 t371.length co17] 27 (0, 0)) (kU BK378.out) hb); have n8_ := Aside0.mk (blk_below (g := gb383) (o := .cells #[.slice Ao21 t379.length co21] 27 (0, 0)) (kU BK383.out) hb); have n9_ := Aside0.mk (blk_below (g := gb395) (o := .cells #[.slice Ao34 t388.length co34] 27 (0, 0)) (kU BK395.out) hb); have n10_ := Aside0.mk (below_step (by repeat (first | (with_reducible first | exact HB.out | apply below_alloc | apply pw_below_drewN | apply below_drew1 | refine below_set ?_ GE378.out | refine below_set ?_ GE383.out | refine below_set ?_ GE395.out) | exact HB.out)) hb); clear HO_8; clear HO_12; clear HO_15; clear HO_17; clear HO_379000; clear HO_384000; clear HO_396000; clear BK378; clear BK383; clear BK395; clear HB; have HO_8 := n0_; have HO_12 := n1_; have HO_15 := n2_; have HO_17 := n3_; have HO_379000 := n4_; have HO_384000 := n5_; have HO_396000 := n6_; have BK378 := n7_; have BK383 := n8_; have BK395 := n9_; have HB := n10_; clear n0_ n1_ n2_ n3_ n4_ n5_ n6_ n7_ n8_ n9_ n10_; (try clear hb); (try clear hb2); (try clear hk); (try clear hi); obtain ⟨Ao58, co58, eo58⟩ := Kd.R_slice HO_17.out; subst eo58) | (go_at_call 17; (with_reducible refine (tegularef32_Runs.calls k3 _ _ x17_3 t402 _ ?side1 ?side2 A50.out).mono ?_); (case side1 => repeat (first | exact (Kd.R_reads' HO_17.out).2.2 | (with_reducible refine Kd.C_alloc ?_ _) | (with_reducible refine Kd.C_drewN ?_ _) | (with_reducible refine Kd.C_drew ?_))); (case side2 => exact (Kd.R_reads' HO_17.out).2.1); rintro e w59 ⟨v403, rfl, ho0, hb⟩; have n0_ := Aside0.mk (Kd.R_below (rU HO_8.out) hb); have n1_ := Aside0.mk (Kd.R_below (rU HO_12.out) hb); have n2_ := Aside0.mk (Kd.R_elder' (rU HO_15.out) (Kd.R_base ho0) hb); have n3_ := Aside0.mk (Kd.R_elder' (rU HO_17.out) (Kd.R_base ho0) hb); have n4_ := Aside0.mk (Kd.R_below (rU HO_379000.out) hb); have n5_ := Aside0.mk (Kd.R_below (rU HO_384000.out) hb); have n6_ := Aside0.mk (Kd.R_below (rU HO_396000.out) hb); have n7_ := Aside0.mk (Kd.R_lower (Kd.R_new' (Kd.R_new' ho0 (Kd.R_lt (rU HO_15.out))) (Kd.R_lt (rU HO_17.out))) (below_size (by repeat (first | (with_reducible first | exact HB.out | apply below_alloc | apply pw_below_drewN | apply below_drew1 | refine below_set ?_ GE378.out | refine below_set ?_ GE383.out | refine below_set ?_ GE395.out) | exact HB.out)))); have n8_ := Aside0.mk (blk_below (g := gb378) (o := .cells #[.slice Ao17 t371.length co17] 27 (0, 0)) (kU BK378.out) hb); have n9_ := Aside0.mk (blk_below (g := gb383) (o := .cells #[.slice Ao21 t379.length co21] 27 (0, 0)) (kU BK383.out) hb); have n10_ := Aside0.mk (blk_below (g := gb395) (o := .cells #[.slice Ao34 t388.length co34] 27 (0, 0)) (kU BK395.out) hb); have n11_ := Aside0.mk (below_step (by repeat (first | (with_reducible first | exact HB.out | apply below_alloc | apply pw_below_drewN | apply below_drew1 | refine below_set ?_ GE378.out | refine below_set ?_ GE383.out | refine below_set ?_ GE395.out) | exact HB.out)) hb); clear HO_8; clear HO_12; clear HO_15; clear HO_17; clear HO_379000; clear HO_384000; clear HO_396000; clear BK378; clear BK383; clear BK395; clear HB; have HO_8 := n0_; have HO_12 := n1_; have HO_15 := n2_; have HO_17 := n3_; have HO_379000 := n4_; have HO_384000 := n5_; have HO_396000 := n6_; have HO404 := n7_; have BK378 := n8_; have BK383 := n9_; have BK395 := n10_; have HB := n11_; clear n0_ n1_ n2_ n3_ n4_ n5_ n6_ n7_ n8_ n9_ n10_ n11_; (try clear hb); (try clear hb2); (try clear hk); (try clear hi); (try clear ho0); obtain ⟨Ao60, co60, eo60⟩ := Kd.R_slice HO_15.out; subst eo60; obtain ⟨Ao61, co61, eo61⟩ := Kd.R_slice HO404.out; subst eo61) | (go_at_call 16; (with_reducible refine (tegularef32_Same.calls k3 _ _ t391 _ _ t402 true _ ?side1 ?side2 ?side3 ?side4 A51.out).mono ?_); (case side1 => repeat (first | exact (Kd.R_reads' HO_15.out).2.2 | (with_reducible refine Kd.C_alloc ?_ _) | (with_reducible refine Kd.C_drewN ?_ _) | (with_reducible refine Kd.C_drew ?_))); (case side2 => exact (Kd.R_reads' HO_15.out).2.1); (case side3 => repeat (first | exact (Kd.R_reads' HO404.out).2.2 | (with_reducible refine Kd.C_alloc ?_ _) | (with_reducible refine Kd.C_drewN ?_ _) | (with_reducible refine Kd.C_drew ?_))); (case side4 => exact (Kd.R_reads' HO404.out).2.1); rintro e w' ⟨rfl, ⟨nd, rfl⟩⟩; have hnb62 := NB383_378.out; have hnc62 := NB378_383.out; have hcz63_0 : w59.cell? ⟨gb383, 0, none⟩ = some (.slice Ao21 t379.length co21) := (blk_cell BK383.out 0).trans rfl; have hfz63_0 := blk_frozen BK383.out 0; obtain ⟨Ao64, co64, eo64⟩ := Kd.R_slice HO_12.out; subst eo64) | (go_at_call 15; (with_reducible refine (tegulalaw34_same.calls k3 _ _ t379 _ _ t384 t406 _ ?side1 ?side2 ?side3 ?side4 A53.out).mono ?_); (case side1 => repeat (first | exact (Kd.R_reads' HO_384000.out).2.2 | (with_reducible refine Kd.C_alloc ?_ _) | (with_reducible refine Kd.C_drewN ?_ _) | (with_reducible refine Kd.C_drew ?_))); (case side2 => exact (Kd.R_reads' HO_384000.out).2.1); (case side3 => repeat (first | exact (Kd.R_reads' HO_12.out).2.2 | (with_reducible refine Kd.C_alloc ?_ _) | (with_reducible refine Kd.C_drewN ?_ _) | (with_reducible refine Kd.C_drew ?_))); (case side4 => exact (Kd.R_reads' HO_12.out).2.1); rintro e w65 ⟨rfl, hb⟩; have n0_ := Aside0.mk (Kd.R_below (rU HO_8.out) hb); have n1_ := Aside0.mk (Kd.R_below (rU HO_12.out) hb); have n2_ := Aside0.mk (Kd.R_below (rU HO_15.out) hb); have n3_ := Aside0.mk (Kd.R_below (rU HO_17.out) hb); have n4_ := Aside0.mk (Kd.R_below (rU HO_379000.out) hb); have n5_ := Aside0.mk (Kd.R_below (rU HO_384000.out) hb); have n6_ := Aside0.mk (Kd.R_below (rU HO_396000.out) hb); have n7_ := Aside0.mk (Kd.R_below (rU HO404.out) hb); have n8_ := Aside0.mk (blk_below (g := gb378) (o := .cells #[.slice Ao17 t371.length co17] 27 (0, 0)) (kU BK378.out) hb); have n9_ := Aside0.mk (blk_below (g := gb383) (o := .cells #[.slice Ao21 t379.length co21] 27 (0, 0)) (kU BK383.out) hb); have n10_ := Aside0.mk (blk_below (g := gb395) (o := .cells #[.slice Ao34 t388.length co34] 27 (0, 0)) (kU BK395.out) hb); have n11_ := Aside0.mk (below_step (by repeat (first | (with_reducible first | exact HB.out | apply below_alloc | apply pw_below_drewN | apply below_drew1 | refine below_set ?_ GE378.out | refine below_set ?_ GE383.out | refine below_set ?_ GE395.out) | exact HB.out)) hb); clear HO_8; clear HO_12; clear HO_15; clear HO_17; clear HO_379000; clear HO_384000; clear HO_396000; clear HO404; clear BK378; clear BK383; clear BK395; clear HB; have HO_8 := n0_; have HO_12 := n1_; have HO_15 := n2_; have HO_17 := n3_; have HO_379000 := n4_; have HO_384000 := n5_; have HO_396000 := n6_; have HO404 := n7_; have BK378 := n8_; have BK383 := n9_; have BK395 := n10_; have HB := n11_; clear n0_ n1_ n2_ n3_ n4_ n5_ n6_ n7_ n8_ n9_ n10_ n11_; (try clear hb); (try clear hb2); (try clear hk); (try clear hi)))
               go_ret
               exact ⟨by first | rfl | (simp [errW_none, errW_some] <;> rfl) | (simp [*, errW_none, errW_some] <;> rfl), by repeat (first | (with_reducible first | exact HB.out | apply below_alloc | apply pw_below_drewN | apply below_drew1 | refine below_set ?_ GE378.out | refine below_set ?_ GE383.out | refine below_set ?_ GE395.out) | exact HB.out)⟩
              ·
               replace c52 := Bool.eq_false_iff.mpr c52
               subst c52
               have H1 : (some false) = some r := by rw [if_neg (show ¬ (false = true) by decide)] at H; exact H
               clear H
               have H := H1
               clear H1
               obtain rfl := Option.some.inj H
               have hnb66 := NB395_378.out
               have hnc66 := NB378_395.out
               have hnb67 := NB395_383.out
               have hnc67 := NB383_395.out
               have hcz68_0 : wr.cell? ⟨gb395, 0, none⟩ = some (.slice Ao34 t388.length co34) := (blk_cell BK395.out 0).trans rfl
               have hfz68_0 := blk_frozen BK395.out 0
               go_wp2_with (first | (go_at_call 15; (with_reducible refine (tegulalaw34_same.calls k3 _ _ t388 _ _ t374 true _ ?side1 ?side2 ?side3 ?side4 A48.out).mono ?_); (case side1 => repeat (first | exact (Kd.R_reads' HO_396000.out).2.2 | (with_reducible refine Kd.C_alloc ?_ _) | (with_reducible refine Kd.C_drewN ?_ _) | (with_reducible refine Kd.C_drew ?_))); (case side2 => exact (Kd.R_reads' HO_396000.out).2.1); (case side3 => repeat (first | exact (Kd.R_reads' HO_8.out).2.2 | (with_reducible refine Kd.C_alloc ?_ _) | (with_reducible refine Kd.C_drewN ?_ _) | (with_reducible refine Kd.C_drew ?_))); (case side4 => exact (Kd.R_reads' HO_8.out).2.1); rintro e w69 ⟨rfl, hb⟩; have n0_ := Aside0.mk (Kd.R_below (rU HO_8.out) hb); have n1_ := Aside0.mk (Kd.R_below (rU HO_12.out) hb); have n2_ := Aside0.mk (Kd.R_below (rU HO_15.out) hb); have n3_ := Aside0.mk (Kd.R_below (rU HO_17.out) hb); have n4_ := Aside0.mk (Kd.R_below (rU HO_379000.out) hb); have n5_ := Aside0.mk (Kd.R_below (rU HO_384000.out) hb); have n6_ := Aside0.mk (Kd.R_below (rU HO_396000.out) hb); have n7_ := Aside0.mk (blk_below (g := gb378) (o := .cells #[.slice Ao17 t371.length co17] 27 (0, 0)) (kU BK378.out) hb); have n8_ := Aside0.mk (blk_below (g := gb383) (o := .cells #[.slice Ao21 t379.length co21] 27 (0, 0)) (kU BK383.out) hb); have n9_ := Aside0.mk (blk_below (g := gb395) (o := .cells #[.slice Ao34 t388.length co34] 27 (0, 0)) (kU BK395.out) hb); have n10_ := Aside0.mk (below_step (by repeat (first | (with_reducible first | exact HB.out | apply below_alloc | apply pw_below_drewN | apply below_drew1 | refine below_set ?_ GE378.out | refine below_set ?_ GE383.out | refine below_set ?_ GE395.out) | exact HB.out)) hb); clear HO_8; clear HO_12; clear HO_15; clear HO_17; clear HO_379000; clear HO_384000; clear HO_396000; clear BK378; clear BK383; clear BK395; clear HB; have HO_8 := n0_; have HO_12 := n1_; have HO_15 := n2_; have HO_17 := n3_; have HO_379000 := n4_; have HO_384000 := n5_; have HO_396000 := n6_; have BK378 := n7_; have BK383 := n8_; have BK395 := n9_; have HB := n10_; clear n0_ n1_ n2_ n3_ n4_ n5_ n6_ n7_ n8_ n9_ n10_; (try clear hb); (try clear hb2); (try clear hk); (try clear hi); obtain ⟨Ao70, co70, eo70⟩ := Kd.R_slice HO_17.out; subst eo70) | (go_at_call 17; (with_reducible refine (tegularef32_Runs.calls k3 _ _ x17_3 t402 _ ?side1 ?side2 A50.out).mono ?_); (case side1 => repeat (first | exact (Kd.R_reads' HO_17.out).2.2 | (with_reducible refine Kd.C_alloc ?_ _) | (with_reducible refine Kd.C_drewN ?_ _) | (with_reducible refine Kd.C_drew ?_))); (case side2 => exact (Kd.R_reads' HO_17.out).2.1); rintro e w71 ⟨v403, rfl, ho0, hb⟩; have n0_ := Aside0.mk (Kd.R_below (rU HO_8.out) hb); have n1_ := Aside0.mk (Kd.R_below (rU HO_12.out) hb); have n2_ := Aside0.mk (Kd.R_elder' (rU HO_15.out) (Kd.R_base ho0) hb); have n3_ := Aside0.mk (Kd.R_elder' (rU HO_17.out) (Kd.R_base ho0) hb); have n4_ := Aside0.mk (Kd.R_below (rU HO_379000.out) hb); have n5_ := Aside0.mk (Kd.R_below (rU HO_384000.out) hb); have n6_ := Aside0.mk (Kd.R_below (rU HO_396000.out) hb); have n7_ := Aside0.mk (Kd.R_lower (Kd.R_new' (Kd.R_new' ho0 (Kd.R_lt (rU HO_15.out))) (Kd.R_lt (rU HO_17.out))) (below_size (by repeat (first | (with_reducible first | exact HB.out | apply below_alloc | apply pw_below_drewN | apply below_drew1 | refine below_set ?_ GE378.out | refine below_set ?_ GE383.out | refine below_set ?_ GE395.out) | exact HB.out)))); have n8_ := Aside0.mk (blk_below (g := gb378) (o := .cells #[.slice Ao17 t371.length co17] 27 (0, 0)) (kU BK378.out) hb); have n9_ := Aside0.mk (blk_below (g := gb383) (o := .cells #[.slice Ao21 t379.length co21] 27 (0, 0)) (kU BK383.out) hb); have n10_ := Aside0.mk (blk_below (g := gb395) (o := .cells #[.slice Ao34 t388.length co34] 27 (0, 0)) (kU BK395.out) hb); have n11_ := Aside0.mk (below_step (by repeat (first | (with_reducible first | exact HB.out | apply below_alloc | apply pw_below_drewN | apply below_drew1 | refine below_set ?_ GE378.out | refine below_set ?_ GE383.out | refine below_set ?_ GE395.out) | exact HB.out)) hb); clear HO_8; clear HO_12; clear HO_15; clear HO_17; clear HO_379000; clear HO_384000; clear HO_396000; clear BK378; clear BK383; clear BK395; clear HB; have HO_8 := n0_; have HO_12 := n1_; have HO_15 := n2_; have HO_17 := n3_; have HO_379000 := n4_; have HO_384000 := n5_; have HO_396000 := n6_; have HO404 := n7_; have BK378 := n8_; have BK383 := n9_; have BK395 := n10_; have HB := n11_; clear n0_ n1_ n2_ n3_ n4_ n5_ n6_ n7_ n8_ n9_ n10_ n11_; (try clear hb); (try clear hb2); (try clear hk); (try clear hi); (try clear ho0); obtain ⟨Ao72, co72, eo72⟩ := Kd.R_slice HO_15.out; subst eo72; obtain ⟨Ao73, co73, eo73⟩ := Kd.R_slice HO404.out; subst eo73) | (go_at_call 16; (with_reducible refine (tegularef32_Same.calls k3 _ _ t391 _ _ t402 false _ ?side1 ?side2 ?side3 ?side4 A51.out).mono ?_); (case side1 => repeat (first | exact (Kd.R_reads' HO_15.out).2.2 | (with_reducible refine Kd.C_alloc ?_ _) | (with_reducible refine Kd.C_drewN ?_ _) | (with_reducible refine Kd.C_drew ?_))); (case side2 => exact (Kd.R_reads' HO_15.out).2.1); (case side3 => repeat (first | exact (Kd.R_reads' HO404.out).2.2 | (with_reducible refine Kd.C_alloc ?_ _) | (with_reducible refine Kd.C_drewN ?_ _) | (with_reducible refine Kd.C_drew ?_))); (case side4 => exact (Kd.R_reads' HO404.out).2.1); rintro e w' ⟨rfl, ⟨nd, rfl⟩⟩))
               go_ret
               exact ⟨by first | rfl | (simp [errW_none, errW_some] <;> rfl) | (simp [*, errW_none, errW_some] <;> rfl), by repeat (first | (with_reducible first | exact HB.out | apply below_alloc | apply pw_below_drewN | apply below_drew1 | refine below_set ?_ GE378.out | refine below_set ?_ GE383.out | refine below_set ?_ GE395.out) | exact HB.out)⟩
             ·
              replace c49 := Bool.eq_false_iff.mpr c49
              subst c49
              have H1 : (some false) = some r := by rw [if_neg (show ¬ (false = true) by decide)] at H; exact H
              clear H
              have H := H1
              clear H1
              obtain rfl := Option.some.inj H
              have hnb74 := NB395_378.out
              have hnc74 := NB378_395.out
              have hnb75 := NB395_383.out
              have hnc75 := NB383_395.out
              have hcz76_0 : wr.cell? ⟨gb395, 0, none⟩ = some (.slice Ao34 t388.length co34) := (blk_cell BK395.out 0).trans rfl
              have hfz76_0 := blk_frozen BK395.out 0
              go_wp2_with (first | (go_at_call 15; (with_reducible refine (tegulalaw34_same.calls k3 _ _ t388 _ _ t374 false _ ?side1 ?side2 ?side3 ?side4 A48.out).mono ?_); (case side1 => repeat (first | exact (Kd.R_reads' HO_396000.out).2.2 | (with_reducible refine Kd.C_alloc ?_ _) | (with_reducible refine Kd.C_drewN ?_ _) | (with_reducible refine Kd.C_drew ?_))); (case side2 => exact (Kd.R_reads' HO_396000.out).2.1); (case side3 => repeat (first | exact (Kd.R_reads' HO_8.out).2.2 | (with_reducible refine Kd.C_alloc ?_ _) | (with_reducible refine Kd.C_drewN ?_ _) | (with_reducible refine Kd.C_drew ?_))); (case side4 => exact (Kd.R_reads' HO_8.out).2.1); rintro e w77 ⟨rfl, hb⟩; have n0_ := Aside0.mk (Kd.R_below (rU HO_8.out) hb); have n1_ := Aside0.mk (Kd.R_below (rU HO_12.out) hb); have n2_ := Aside0.mk (Kd.R_below (rU HO_15.out) hb); have n3_ := Aside0.mk (Kd.R_below (rU HO_17.out) hb); have n4_ := Aside0.mk (Kd.R_below (rU HO_379000.out) hb); have n5_ := Aside0.mk (Kd.R_below (rU HO_384000.out) hb); have n6_ := Aside0.mk (Kd.R_below (rU HO_396000.out) hb); have n7_ := Aside0.mk (blk_below (g := gb378) (o := .cells #[.slice Ao17 t371.length co17] 27 (0, 0)) (kU BK378.out) hb); have n8_ := Aside0.mk (blk_below (g := gb383) (o := .cells #[.slice Ao21 t379.length co21] 27 (0, 0)) (kU BK383.out) hb); have n9_ := Aside0.mk (blk_below (g := gb395) (o := .cells #[.slice Ao34 t388.length co34] 27 (0, 0)) (kU BK395.out) hb); have n10_ := Aside0.mk (below_step (by repeat (first | (with_reducible first | exact HB.out | apply below_alloc | apply pw_below_drewN | apply below_drew1 | refine below_set ?_ GE378.out | refine below_set ?_ GE383.out | refine below_set ?_ GE395.out) | exact HB.out)) hb); clear HO_8; clear HO_12; clear HO_15; clear HO_17; clear HO_379000; clear HO_384000; clear HO_396000; clear BK378; clear BK383; clear BK395; clear HB; have HO_8 := n0_; have HO_12 := n1_; have HO_15 := n2_; have HO_17 := n3_; have HO_379000 := n4_; have HO_384000 := n5_; have HO_396000 := n6_; have BK378 := n7_; have BK383 := n8_; have BK395 := n9_; have HB := n10_; clear n0_ n1_ n2_ n3_ n4_ n5_ n6_ n7_ n8_ n9_ n10_; (try clear hb); (try clear hb2); (try clear hk); (try clear hi)))
              go_ret
              exact ⟨by first | rfl | (simp [errW_none, errW_some] <;> rfl) | (simp [*, errW_none, errW_some] <;> rfl), by repeat (first | (with_reducible first | exact HB.out | apply below_alloc | apply pw_below_drewN | apply below_drew1 | refine below_set ?_ GE378.out | refine below_set ?_ GE383.out | refine below_set ?_ GE395.out) | exact HB.out)⟩
            ·
             rw [if_neg c47] at H
             have c47b0 : (t394 == 0) = false := beq_eq_false_iff_ne.mpr c47
             have c47b1 : (t394 != 0) = true := bne_iff_ne.mpr c47
             obtain rfl := Option.some.inj H
             go_wp2
             go_ret
             exact ⟨by first | rfl | (simp [errW_none, errW_some] <;> rfl) | (simp [*, errW_none, errW_some] <;> rfl), by repeat (first | (with_reducible first | exact HB.out | apply below_alloc | apply pw_below_drewN | apply below_drew1 | refine below_set ?_ GE378.out | refine below_set ?_ GE383.out | refine below_set ?_ GE395.out) | exact HB.out)⟩
        ·
         rw [if_neg c28] at H
         have c28b0 : (t382 == 0) = false := beq_eq_false_iff_ne.mpr c28
         have c28b1 : (t382 != 0) = true := bne_iff_ne.mpr c28
         obtain rfl := Option.some.inj H
         go_wp2
         go_ret
         exact ⟨by first | rfl | (simp [errW_none, errW_some] <;> rfl) | (simp [*, errW_none, errW_some] <;> rfl), by repeat (first | (with_reducible first | exact HB.out | apply below_alloc | apply pw_below_drewN | apply below_drew1 | refine below_set ?_ GE378.out | refine below_set ?_ GE383.out) | exact HB.out)⟩
 ·
  replace c5 := Bool.eq_false_iff.mpr c5
  subst c5
  have H1 : (some false) = some r := by rw [if_neg (show ¬ (false = true) by decide)] at H; exact H
  clear H
  have H := H1
  clear H1
  obtain rfl := Option.some.inj H
  go_enter Try.func4, Try.ntmps4
  go_wp2_with (first | ((with_reducible refine gate_callee (f := 9) rfl ?_); refine goesL_ (some 19) rfl rfl Try.func9 (by kernel_rfl) rfl #[] rfl (by (try simp only [List.map_toArray, List.map_cons, List.map_nil]); first | done | rfl | (simp only [List.length_drop, List.length_take]; rfl)) ?_; (with_reducible refine (tegulalaw34_awake.calls k  false _ A4.out).mono ?_); rintro e w78 ⟨rfl, hb⟩; refine ⟨_, rfl, ?_⟩; have n0_ := Aside0.mk (below_step (bU HB.out) hb); clear HB; have HB := n0_; clear n0_; (try clear hb); (try clear hb2); (try clear hk); (try clear hi)))
  go_ret
  exact ⟨by first | rfl | (simp [errW_none, errW_some] <;> rfl) | (simp [*, errW_none, errW_some] <;> rfl), bU HB.out⟩

end Go.Proofs.Ytnloofhpdlggnaa.PRefcount
