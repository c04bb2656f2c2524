-- Written for this claim by a program of this session (wip/), out of the translation's own print: Lean checks it
import Derived.Test.YtnloofhpdlggnaaPRefcountx0
import Derived.Test.YtnloofhpdlggnaaWGuard
import Derived.Test.YtnloofhpdlggnaaPRefcountx2
import Derived.Test.YtnloofhpdlggnaaPRefcountx5
import Derived.Test.YtnloofhpdlggnaaPRefcountx7
import Derived.Test.YtnloofhpdlggnaaPRefcountx8
import Derived.Test.YtnloofhpdlggnaaPRefcountx12
namespace Go.Proofs.Ytnloofhpdlggnaa.PRefcount
open Go.RowKit Go.Proofs.YtnloofhpdlggnaaW.PrintWords Go.Proofs.YtnloofhpdlggnaaW.PrintLast Go.Proofs.YtnloofhpdlggnaaW.PrintMore
attribute [local go_sem] max2_int min2_int max_two min_two max_three min_three max_four min_four   -- for this text's walks alone
set_option linter.unusedVariables false
set_option linter.unusedSimpArgs false

/-! ### tegulalaw34_RefcountSums: function 5 -/
mutual
def tegulalaw34_RefcountSums.j0 : Nat → Int → List (S57) → List (S41) → Bool → Option (Bool)
 | 0, _, _, _, _ => none
 | k + 1, x0, x1, x2, x26 => if x26 = true then (some true) else ((tegulalaw34_build.f k x0 x1).bind fun bt409 => (if bt409.2.2 = true then ((refcount_Counts_Add.f k bt409.1 x2).bind fun bt417 => (if bt417.2 = 0 then (tegulalaw34_RefcountSums.l0 k x2 0 0 0 bt409.1 bt417.1) else (some true))) else (some false)))
def tegulalaw34_RefcountSums.l0 : Nat → List (S41) → Int → Int → Int → List Int → List Int → Option (Bool)
 | 0, _, _, _, _, _, _ => none
 | k + 1, x2, x12, x13, x14, x417000, x422000 => if x14 < (x2.length : Int) then (if 0 ≤ x14 then (tegulalaw34_RefcountSums.l0 k x2 (wrap64 (x12 + ((rd_T41 x2 x14).f1))) x13 (wrap64 (x14 + 1)) x417000 x422000) else (none)) else ((refcount_Counts_Zero.f k x422000).bind fun t423 => (tegulalaw34_RefcountSums.l1 k x12 x13 t423 0 x417000 x422000))
def tegulalaw34_RefcountSums.l1 : Nat → Int → Int → List (S41) → Int → List Int → List Int → Option (Bool)
 | 0, _, _, _, _, _, _ => none
 | k + 1, x12, x13, x15, x16, x417000, x422000 => if x16 < (x15.length : Int) then (if 0 ≤ x16 then (tegulalaw34_RefcountSums.l1 k x12 (wrap64 (x13 + ((rd_T41 x15 x16).f1))) x15 (wrap64 (x16 + 1)) x417000 x422000) else (none)) else ((refcount_Counts_Total.f x422000).bind fun t427 => ((refcount_Counts_Total.f x417000).bind fun t428 => (if t427 = (wrap64 (t428 + x12)) then ((refcount_Counts_Used.f x422000).bind fun t429 => ((refcount_Counts_Slots.f x422000).bind fun t430 => (if (wrap64 (t429 + x13)) = t430 then ((refcount_Counts_Slots.f x422000).bind fun t431 => ((refcount_Counts_Slots.f x417000).bind fun t432 => (some (t431 == t432)))) else (some false)))) else (some false))))
end
def tegulalaw34_RefcountSums.f (k : Nat) (a0 : Int) (l1 : List (S57)) (l2 : List (S41)) : Option (Bool) := (tegulalaw34_awake.f k).bind fun t407 => (if t407 = true then ((tegulalaw34_few.f k l1).bind fun t408 => (if t408 = true then (tegulalaw34_RefcountSums.j0 k a0 l1 l2 (decide ((l2.length : Int) > 8))) else (tegulalaw34_RefcountSums.j0 k a0 l1 l2 true))) else (some false))
theorem tegulalaw34_RefcountSums.mono_l : ∀ k, (∀ y0 y1 y2 y3, LeO (tegulalaw34_RefcountSums.j0 k y0 y1 y2 y3) (tegulalaw34_RefcountSums.j0 (k + 1) y0 y1 y2 y3)) ∧ (∀ y0 y1 y2 y3 y4 y5, LeO (tegulalaw34_RefcountSums.l0 k y0 y1 y2 y3 y4 y5) (tegulalaw34_RefcountSums.l0 (k + 1) y0 y1 y2 y3 y4 y5)) ∧ (∀ y0 y1 y2 y3 y4 y5, LeO (tegulalaw34_RefcountSums.l1 k y0 y1 y2 y3 y4 y5) (tegulalaw34_RefcountSums.l1 (k + 1) y0 y1 y2 y3 y4 y5))
 | 0 => ⟨fun _ _ _ _ r h => by simp [tegulalaw34_RefcountSums.j0] at h, fun _ _ _ _ _ _ r h => by simp [tegulalaw34_RefcountSums.l0] at h, fun _ _ _ _ _ _ r h => by simp [tegulalaw34_RefcountSums.l1] at h⟩
 | k + 1 => by
  obtain ⟨ih0, ih1, ih2⟩ := tegulalaw34_RefcountSums.mono_l k
  refine ⟨?_, ?_, ?_⟩
  ·
   intro y0 y1 y2 y3
   unfold tegulalaw34_RefcountSums.j0
   repeat' first
   | (with_reducible exact ih0 _ _ _ _)
   | (with_reducible exact ih1 _ _ _ _ _ _)
   | (with_reducible exact ih2 _ _ _ _ _ _)
   | (with_reducible exact refcount_Counts_Add.mono _ _ _)
   | (with_reducible exact refcount_Counts_Zero.mono _ _)
   | (with_reducible exact tegulalaw34_awake.mono _)
   | (with_reducible exact tegulalaw34_build.mono _ _ _)
   | (with_reducible exact tegulalaw34_few.mono _ _)
   | (with_reducible exact LeO.refl _)
   | (with_reducible exact LeO.none _)
   | (with_reducible refine LeO.ite ?_ ?_)
   | (with_reducible refine LeO.bind ?_ (fun _ => ?_))
   | exact ih0 _ _ _ _
   | exact ih1 _ _ _ _ _ _
   | exact ih2 _ _ _ _ _ _
   | exact refcount_Counts_Add.mono _ _ _
   | exact refcount_Counts_Zero.mono _ _
   | exact tegulalaw34_awake.mono _
   | exact tegulalaw34_build.mono _ _ _
   | exact tegulalaw34_few.mono _ _
   | exact LeO.none _
   | refine LeO.ite ?_ ?_
   | refine LeO.bind ?_ (fun _ => ?_)
  ·
   intro y0 y1 y2 y3 y4 y5
   unfold tegulalaw34_RefcountSums.l0
   repeat' first
   | (with_reducible exact ih0 _ _ _ _)
   | (with_reducible exact ih1 _ _ _ _ _ _)
   | (with_reducible exact ih2 _ _ _ _ _ _)
   | (with_reducible exact refcount_Counts_Add.mono _ _ _)
   | (with_reducible exact refcount_Counts_Zero.mono _ _)
   | (with_reducible exact tegulalaw34_awake.mono _)
   | (with_reducible exact tegulalaw34_build.mono _ _ _)
   | (with_reducible exact tegulalaw34_few.mono _ _)
   | (with_reducible exact LeO.refl _)
   | (with_reducible exact LeO.none _)
   | (with_reducible refine LeO.ite ?_ ?_)
   | (with_reducible refine LeO.bind ?_ (fun _ => ?_))
   | exact ih0 _ _ _ _
   | exact ih1 _ _ _ _ _ _
   | exact ih2 _ _ _ _ _ _
   | exact refcount_Counts_Add.mono _ _ _
   | exact refcount_Counts_Zero.mono _ _
   | exact tegulalaw34_awake.mono _
   | exact tegulalaw34_build.mono _ _ _
   | exact tegulalaw34_few.mono _ _
   | exact LeO.none _
   | refine LeO.ite ?_ ?_
   | refine LeO.bind ?_ (fun _ => ?_)
  ·
   intro y0 y1 y2 y3 y4 y5
   unfold tegulalaw34_RefcountSums.l1
   repeat' first
   | (with_reducible exact ih0 _ _ _ _)
   | (with_reducible exact ih1 _ _ _ _ _ _)
   | (with_reducible exact ih2 _ _ _ _ _ _)
   | (with_reducible exact refcount_Counts_Add.mono _ _ _)
   | (with_reducible exact refcount_Counts_Zero.mono _ _)
   | (with_reducible exact tegulalaw34_awake.mono _)
   | (with_reducible exact tegulalaw34_build.mono _ _ _)
   | (with_reducible exact tegulalaw34_few.mono _ _)
   | (with_reducible exact LeO.refl _)
   | (with_reducible exact LeO.none _)
   | (with_reducible refine LeO.ite ?_ ?_)
   | (with_reducible refine LeO.bind ?_ (fun _ => ?_))
   | exact ih0 _ _ _ _
   | exact ih1 _ _ _ _ _ _
   | exact ih2 _ _ _ _ _ _
   | exact refcount_Counts_Add.mono _ _ _
   | exact refcount_Counts_Zero.mono _ _
   | exact tegulalaw34_awake.mono _
   | exact tegulalaw34_build.mono _ _ _
   | exact tegulalaw34_few.mono _ _
   | exact LeO.none _
   | refine LeO.ite ?_ ?_
   | refine LeO.bind ?_ (fun _ => ?_)
theorem tegulalaw34_RefcountSums.mono : ∀ a0 a1 a2 k, LeO (tegulalaw34_RefcountSums.f k a0 a1 a2) (tegulalaw34_RefcountSums.f (k + 1) a0 a1 a2) := by
 intro a0 a1 a2 k
 obtain ⟨ih0, ih1, ih2⟩ := tegulalaw34_RefcountSums.mono_l k
 unfold tegulalaw34_RefcountSums.f
 repeat' first
   | (with_reducible exact ih0 _ _ _ _)
   | (with_reducible exact ih1 _ _ _ _ _ _)
   | (with_reducible exact ih2 _ _ _ _ _ _)
   | (with_reducible exact refcount_Counts_Add.mono _ _ _)
   | (with_reducible exact refcount_Counts_Zero.mono _ _)
   | (with_reducible exact tegulalaw34_awake.mono _)
   | (with_reducible exact tegulalaw34_build.mono _ _ _)
   | (with_reducible exact tegulalaw34_few.mono _ _)
   | (with_reducible exact LeO.refl _)
   | (with_reducible exact LeO.none _)
   | (with_reducible refine LeO.ite ?_ ?_)
   | (with_reducible refine LeO.bind ?_ (fun _ => ?_))
   | exact ih0 _ _ _ _
   | exact ih1 _ _ _ _ _ _
   | exact ih2 _ _ _ _ _ _
   | exact refcount_Counts_Add.mono _ _ _
   | exact refcount_Counts_Zero.mono _ _
   | exact tegulalaw34_awake.mono _
   | exact tegulalaw34_build.mono _ _ _
   | exact tegulalaw34_few.mono _ _
   | exact LeO.none _
   | refine LeO.ite ?_ ?_
   | refine LeO.bind ?_ (fun _ => ?_)
def tegulalaw34_RefcountSums.T21 : Bool × List (List Nat × List Nat) := (true, [([], []), ([0], [0]), ([], []), ([2, 1], [2]), ([], []), ([3, 4], [3, 4]), ([1, 5], [1, 5]), ([6, 3], [6]), ([7], [7]), ([8, 7, 7], [7, 8]), ([7], [7]), ([9, 10, 7], [7, 9, 10]), ([7], [7]), ([12, 9, 7], [7, 12]), ([11, 13, 7], [7, 11, 13]), ([7, 14], [7, 14]), ([15, 13], [15]), ([16], [16]), ([17, 16, 16], [16, 17]), ([16], [16]), ([19, 18, 16], [16, 19]), ([18, 20, 16], [16, 18, 20]), ([16, 21], [16, 21]), ([22, 20, 0, 1, 2, 3, 4, 5, 6, 7, 8, 9, 10, 11, 12, 13, 14, 15, 16, 17, 18, 19, 20, 21, 22], [22])])
def tegulalaw34_RefcountSums.B21 : List Nat := [0, 1, 0, 7, 0, 31, 63, 127, 255, 511, 255, 2047, 255, 5119, 16383, 32767, 65535, 131071, 262143, 131071, 1048575, 2097151, 4194303, 8388607]
theorem tegulalaw34_RefcountSums.tab21 : rtab .any (opsOf Try.f5 21) = tegulalaw34_RefcountSums.T21 := by kernel_rfl
theorem tegulalaw34_RefcountSums.bits21 : waitsOk tegulalaw34_RefcountSums.T21.2 tegulalaw34_RefcountSums.B21 = true := by kernel_rfl
set_option maxHeartbeats 8000000 in
set_option maxRecDepth 100000 in
theorem tegulalaw34_RefcountSums.calls (k : Nat) (a0 : Int) (A1 : Option Addr) (c1 : Nat) (l1 : List (S57)) (A2 : Option Addr) (c2 : Nat) (l2 : List (S41)) (r : Bool) (w : World) (hr1 : Kd.C k57 w A1 l1.length l1) (hc1 : l1.length ≤ c1) (hr2 : Kd.C k41 w A2 l2.length l2) (hc2 : l2.length ≤ c2) (h : tegulalaw34_RefcountSums.f k a0 l1 l2 = some r) :
  Calls Try.prog 5 #[.int .u8 a0, .slice A1 l1.length c1, .slice A2 l2.length c2] w fun e w' => e = .returned (.bool r) ∧ Below w.heap.size w w' := by
 have hu27 := Try.underlying27
 have HR1 := Aside0.mk hr1
 have HC1 := Aside0.mk hc1
 clear hr1 hc1
 have HR2 := Aside0.mk hr2
 have HC2 := Aside0.mk hc2
 clear hr2 hc2
 have HB := Aside0.mk (Below.refl w.heap.size w)
 have H : ((tegulalaw34_awake.f k).bind fun t407 => (if t407 = true then ((tegulalaw34_few.f k l1).bind fun t408 => (if t408 = true then (tegulalaw34_RefcountSums.j0 k a0 l1 l2 (decide ((l2.length : Int) > 8))) else (tegulalaw34_RefcountSums.j0 k a0 l1 l2 true))) else (some false))) = some r := h
 clear h
 replace H := Option.bind_eq_some_iff.mp H
 obtain ⟨t407, A40, H⟩ := H
 replace H : (if t407 = true then ((tegulalaw34_few.f k l1).bind fun t408 => (if t408 = true then (tegulalaw34_RefcountSums.j0 k a0 l1 l2 (decide ((l2.length : Int) > 8))) else (tegulalaw34_RefcountSums.j0 k a0 l1 l2 true))) else (some false)) = some r := H
 have A4 := Aside0.mk A40
 clear A40
 by_cases c5 : t407 = true
 ·
  subst c5
  have H1 : ((tegulalaw34_few.f k l1).bind fun t408 => (if t408 = true then (tegulalaw34_RefcountSums.j0 k a0 l1 l2 (decide ((l2.length : Int) > 8))) else (tegulalaw34_RefcountSums.j0 k a0 l1 l2 true))) = some r := by rw [if_pos rfl] at H; exact H
  clear H
  have H := H1
  clear H1
  have HC6 := Aside0.mk H
  clear H
  go_enter Try.func5, Try.ntmps5
  go_upto_region 3 with (first | ((with_reducible refine gate_callee (f := 9) rfl ?_); refine goesL_ (some 17) rfl rfl Try.func9 (by kernel_rfl) rfl #[] rfl (by (try simp only [List.map_toArray, List.map_cons, List.map_nil]); first | done | rfl | (simp only [List.length_drop, List.length_take]; rfl)) ?_; (with_reducible refine (tegulalaw34_awake.calls k  true _ A4.out).mono ?_); rintro e w7 ⟨rfl, hb⟩; refine ⟨_, rfl, ?_⟩; have n0_ := Aside0.mk (below_step (bU HB.out) hb); clear HB; have HB := n0_; clear n0_; (try clear hb); (try clear hb2); (try clear hk); (try clear hi)))
  (try simp only [Act.put, List.setIfInBounds_toArray, List.set_cons_zero, List.set_cons_succ])
  go_cut [26] (fun v26 wc => ∃ (kq : Nat) (x26_5 : Bool), v26 = .bool x26_5 ∧ Aside0 (tegulalaw34_RefcountSums.j0 kq a0 l1 l2 x26_5 = some r) ∧ Aside0 (kq ≤ k) ∧ Aside0 (Below w.heap.size w wc))
  case first =>
   have H := HC6.out
   clear HC6
   replace H := Option.bind_eq_some_iff.mp H
   obtain ⟨t408, A80, H⟩ := H
   replace H : (if t408 = true then (tegulalaw34_RefcountSums.j0 k a0 l1 l2 (decide ((l2.length : Int) > 8))) else (tegulalaw34_RefcountSums.j0 k a0 l1 l2 true)) = some r := H
   have A8 := Aside0.mk A80
   clear A80
   by_cases c9 : t408 = true
   ·
    subst c9
    have H1 : (tegulalaw34_RefcountSums.j0 k a0 l1 l2 (decide ((l2.length : Int) > 8))) = some r := by rw [if_pos rfl] at H; exact H
    clear H
    have H := H1
    clear H1
    have H' := Aside0.mk H
    clear H
    go_wp2_with (first | ((with_reducible refine gate_callee (f := 10) rfl ?_); refine goesL_ (some 20) rfl rfl Try.func10 (by kernel_rfl) rfl #[.slice A1 l1.length c1] rfl (by (try simp only [List.map_toArray, List.map_cons, List.map_nil]); first | done | rfl | (simp only [List.length_drop, List.length_take]; rfl)) ?_; (with_reducible refine (tegulalaw34_few.calls k _ _ l1 true _ ?side1 ?side2 A8.out).mono ?_); (case side1 => exact cU (Kd.C_below HR1.out HB.out)); (case side2 => exact HC1.out); rintro e w' ⟨rfl, ⟨nd, rfl⟩⟩; refine ⟨_, rfl, ?_⟩))
    go_meet
    case rel => exact ⟨_, (decide ((l2.length : Int) > 8)), (by first | rfl | (simp; done) | (simp [*]; done)), H', ⟨by first | omega | exact Nat.le_refl _⟩, ⟨bU HB.out⟩⟩
   ·
    replace c9 := Bool.eq_false_iff.mpr c9
    subst c9
    have H1 : (tegulalaw34_RefcountSums.j0 k a0 l1 l2 true) = some r := by rw [if_neg (show ¬ (false = true) by decide)] at H; exact H
    clear H
    have H := H1
    clear H1
    have H' := Aside0.mk H
    clear H
    go_wp2_with (first | ((with_reducible refine gate_callee (f := 10) rfl ?_); refine goesL_ (some 20) rfl rfl Try.func10 (by kernel_rfl) rfl #[.slice A1 l1.length c1] rfl (by (try simp only [List.map_toArray, List.map_cons, List.map_nil]); first | done | rfl | (simp only [List.length_drop, List.length_take]; rfl)) ?_; (with_reducible refine (tegulalaw34_few.calls k _ _ l1 false _ ?side1 ?side2 A8.out).mono ?_); (case side1 => exact cU (Kd.C_below HR1.out HB.out)); (case side2 => exact HC1.out); rintro e w' ⟨rfl, ⟨nd, rfl⟩⟩; refine ⟨_, rfl, ?_⟩))
    go_meet
    case rel => exact ⟨_, (true), (by first | rfl | (simp; done) | (simp [*]; done)), H', ⟨by first | omega | exact Nat.le_refl _⟩, ⟨bU HB.out⟩⟩
  case rest =>
   clear HC6
   try clear c1
   try clear c2
   try clear p2
   try clear c5
   try clear c9
   obtain ⟨kq, x26_5, rfl, HA, HJ5, HB⟩ := hcut
   cases kq with
   | zero => exact absurd HA.out (by simp [tegulalaw34_RefcountSums.j0])
   | succ kj5 =>
    have H := HA.out
    clear HA
    simp only [tegulalaw34_RefcountSums.j0] at H
    by_cases c10 : x26_5 = true
    ·
     subst c10
     have H1 : (some true) = some r := by rw [if_pos rfl] at H; exact H
     clear H
     have H := H1
     clear H1
     obtain rfl := Option.some.inj H
     go_wp2
     go_ret
     exact ⟨by first | rfl | (simp [errW_none, errW_some] <;> rfl) | (simp [*, errW_none, errW_some] <;> rfl), bU HB.out⟩
    ·
     replace c10 := Bool.eq_false_iff.mpr c10
     subst c10
     have H1 : ((tegulalaw34_build.f kj5 a0 l1).bind fun bt409 => (if bt409.2.2 = true then ((refcount_Counts_Add.f kj5 bt409.1 l2).bind fun bt417 => (if bt417.2 = 0 then (tegulalaw34_RefcountSums.l0 kj5 l2 0 0 0 bt409.1 bt417.1) else (some true))) else (some false))) = some r := by rw [if_neg (show ¬ (false = true) by decide)] at H; exact H
     clear H
     have H := H1
     clear H1
     replace H := Option.bind_eq_some_iff.mp H
     obtain ⟨⟨t409, t412, t415⟩, A110, H⟩ := H
     replace H : (if t415 = true then ((refcount_Counts_Add.f kj5 t409 l2).bind fun bt417 => (if bt417.2 = 0 then (tegulalaw34_RefcountSums.l0 kj5 l2 0 0 0 t409 bt417.1) else (some true))) else (some false)) = some r := H
     have A11 := Aside0.mk A110
     clear A110
     by_cases c12 : t415 = true
     ·
      subst c12
      have H1 : ((refcount_Counts_Add.f kj5 t409 l2).bind fun bt417 => (if bt417.2 = 0 then (tegulalaw34_RefcountSums.l0 kj5 l2 0 0 0 t409 bt417.1) else (some true))) = some r := by rw [if_pos rfl] at H; exact H
      clear H
      have H := H1
      clear H1
      replace H := Option.bind_eq_some_iff.mp H
      obtain ⟨⟨t417, t420⟩, A130, H⟩ := H
      replace H : (if t420 = 0 then (tegulalaw34_RefcountSums.l0 kj5 l2 0 0 0 t409 t417) else (some true)) = some r := H
      have A13 := Aside0.mk A130
      clear A130
      by_cases c14 : t420 = 0
      ·
       rw [if_pos c14] at H
       have c14b0 : (t420 == 0) = true := beq_iff_eq.mpr c14
       have c14b1 : (t420 != 0) = false := bne_eq_false_iff_eq.mpr c14
       clear c14
       have H' := Aside0.mk H
       clear H
       go_wp2_with (first | ((with_reducible refine gate_callee (f := 11) rfl ?_); refine goesL_ (some 30) rfl rfl Try.func11 (by kernel_rfl) rfl #[.int .u8 a0, .slice A1 l1.length c1] rfl (by (try simp only [List.map_toArray, List.map_cons, List.map_nil]); first | done | rfl | (simp only [List.length_drop, List.length_take]; rfl)) ?_; (with_reducible refine (tegulalaw34_build.calls kj5 a0 _ _ l1 t409 t412 true _ ?side1 ?side2 A11.out).mono ?_); (case side1 => exact cU (Kd.C_below HR1.out HB.out)); (case side2 => exact HC1.out); rintro e w15 ⟨v410, v413, rfl, ho0, ho1, hb⟩; refine ⟨_, rfl, ?_⟩; have n0_ := Aside0.mk (Kd.R_lower ho0 (below_size (bU HB.out))); have n1_ := Aside0.mk (Kd.R_lower ho1 (below_size (bU HB.out))); have n2_ := Aside0.mk (below_step (bU HB.out) hb); clear HB; have HO411 := n0_; have HO414 := n1_; have HB := n2_; clear n0_ n1_ n2_; (try clear hb); (try clear hb2); (try clear hk); (try clear hi); (try clear ho0); (try clear ho1)) | ((with_reducible refine gate_dst (N := 7) rfl ?_); (try (refine gate_guard (by rfl) ?_; dsimp only)); refine box_event ?hg (N := 7) ?hd (cs := #[.slice none 0 0]) (t := 27) ?hr ?_; (case hd => rfl); (case hg => rfl); (case hr => first | (go_simp; done) | (go_simp; rfl)); intro gb416 hg w16 hbox hb; have n0_ := Aside0.mk (Kd.R_below (rU HO411.out) hb); have n1_ := Aside0.mk (Kd.R_below (rU HO414.out) hb); have n2_ := Aside0.mk (below_step (bU HB.out) hb); have n3_ := Aside0.mk (hbox); have n4_ := Aside0.mk ((by rw [hg]; exact (below_size (bU HB.out)) : w.heap.size ≤ gb416)); have n5_ := Aside0.mk ((by rw [hg]; exact (below_size (bU HB.out)) : w.heap.size ≤ gb416)); clear HO411; clear HO414; clear HB; have HO411 := n0_; have HO414 := n1_; have HB := n2_; have BK416 := n3_; have GW416 := n4_; have GE416 := n5_; clear n0_ n1_ n2_ n3_ n4_ n5_; clear hb hbox hg; obtain ⟨Ao17, co17, eo17⟩ := Kd.R_slice HO411.out; subst eo17; have hcz18_0 : w16.cell? ⟨gb416, 0, none⟩ = some (.slice none 0 0) := (blk_cell BK416.out 0).trans rfl; have hfz18_0 := blk_frozen BK416.out 0) | ((with_reducible refine gate_callee (f := 12) rfl ?_); refine goesL_ (some 39) rfl rfl Try.func12 (by kernel_rfl) rfl #[.agg #[.slice Ao17 t409.length co17], .slice A2 l2.length c2] rfl (by (try simp only [List.map_toArray, List.map_cons, List.map_nil]); first | done | rfl | (simp only [List.length_drop, List.length_take]; rfl)) ?_; (with_reducible refine (refcount_Counts_Add.calls kj5 _ _ t409 _ _ l2 t417 t420 _ ?side1 ?side2 ?side3 ?side4 A13.out).mono ?_); (case side1 => refine (Kd.R_reads' (e := 3) (base := w.heap.size) (ok := fun k_ => some k_ ≠ (v413 : Value).ownBlock) (n := t409.length) (c := co17) ?_).2.2; exact (rU (Kd.R_mono (Kd.R_far (p := ⟨gb416, 0, none⟩) (Kd.R_types HO411.out BK416.out (by decide)) (fun _ hk => hk.2) (.slice Ao17 t409.length co17)) (fun _ h_ => h_.1)))); (case side2 => exact (Kd.R_reads' HO411.out).2.1); (case side3 => exact Kd.C_below HR2.out (by repeat (first | (with_reducible first | exact HB.out | apply below_alloc | apply pw_below_drewN | apply below_drew1 | refine below_set ?_ GE416.out) | exact HB.out))); (case side4 => exact HC2.out); rintro e w19 ⟨v418, rfl, ho0, hb⟩; refine ⟨_, rfl, ?_⟩; have n0_ := Aside0.mk (Kd.R_elder' (rU (Kd.R_mono (Kd.R_far (p := ⟨gb416, 0, none⟩) (Kd.R_types HO411.out BK416.out (by decide)) (fun _ hk => hk.2) (.slice Ao17 t409.length co17)) (fun _ h_ => h_.1))) (Kd.R_base ho0) hb); have n1_ := Aside0.mk (Kd.R_elder' (rU (Kd.R_mono (Kd.R_far (p := ⟨gb416, 0, none⟩) (Kd.R_types HO414.out BK416.out (by decide)) (fun _ hk => hk.2) (.slice Ao17 t409.length co17)) (fun _ h_ => h_.1))) (Kd.R_base ho0) hb); have n2_ := Aside0.mk (Kd.R_lower (Kd.R_new' (Kd.R_new' ho0 (Kd.R_lt (rU (Kd.R_mono (Kd.R_far (p := ⟨gb416, 0, none⟩) (Kd.R_types HO411.out BK416.out (by decide)) (fun _ hk => hk.2) (.slice Ao17 t409.length co17)) (fun _ h_ => h_.1))))) (Kd.R_lt (rU (Kd.R_mono (Kd.R_far (p := ⟨gb416, 0, none⟩) (Kd.R_types HO414.out BK416.out (by decide)) (fun _ hk => hk.2) (.slice Ao17 t409.length co17)) (fun _ h_ => h_.1))))) (below_size (by repeat (first | (with_reducible first | exact HB.out | apply below_alloc | apply pw_below_drewN | apply below_drew1 | refine below_set ?_ GE416.out) | exact HB.out)))); have n3_ := Aside0.mk (blk_below (g := gb416) (o := .cells #[.slice Ao17 t409.length co17] 27 (0, 0)) (by (with_reducible repeat (first | refine blk_drewN ?_ _ | refine blk_drew ?_ | refine blk_alloc ?_ _)); refine blk_put (cs := #[.slice none 0 0]) ?_ 0 _ rfl; (with_reducible repeat (first | refine blk_drewN ?_ _ | refine blk_drew ?_ | refine blk_alloc ?_ _)); exact BK416.out) hb); have n4_ := Aside0.mk (below_step (by repeat (first | (with_reducible first | exact HB.out | apply below_alloc | apply pw_below_drewN | apply below_drew1 | refine below_set ?_ GE416.out) | exact HB.out)) hb); clear HO411; clear HO414; clear BK416; clear HB; have HO411 := n0_; have HO414 := n1_; have HO419 := n2_; have BK416 := n3_; have HB := n4_; clear n0_ n1_ n2_ n3_ n4_; (try clear hb); (try clear hb2); (try clear hk); (try clear hi); (try clear ho0)) | ((with_reducible refine gate_dst (N := 10) rfl ?_); (try (refine gate_guard (by rfl) ?_; dsimp only)); refine box_event ?hg (N := 10) ?hd (cs := #[.slice none 0 0]) (t := 27) ?hr ?_; (case hd => rfl); (case hg => rfl); (case hr => first | (go_simp; done) | (go_simp; rfl)); intro gb421 hg w20 hbox hb; have n0_ := Aside0.mk (Kd.R_below (rU HO411.out) hb); have n1_ := Aside0.mk (Kd.R_below (rU HO414.out) hb); have n2_ := Aside0.mk (Kd.R_below (rU HO419.out) hb); have n3_ := Aside0.mk (blk_below (g := gb416) (o := .cells #[.slice Ao17 t409.length co17] 27 (0, 0)) (kU BK416.out) hb); have n4_ := Aside0.mk (below_step (by repeat (first | (with_reducible first | exact HB.out | apply below_alloc | apply pw_below_drewN | apply below_drew1 | refine below_set ?_ GE416.out) | exact HB.out)) hb); have n5_ := Aside0.mk (hbox); have n6_ := Aside0.mk ((by rw [hg]; exact (below_size (by repeat (first | (with_reducible first | exact HB.out | apply below_alloc | apply pw_below_drewN | apply below_drew1 | refine below_set ?_ GE416.out) | exact HB.out))) : w.heap.size ≤ gb421)); have n7_ := Aside0.mk ((by rw [hg]; exact (below_size (by repeat (first | (with_reducible first | exact HB.out | apply below_alloc | apply pw_below_drewN | apply below_drew1 | refine below_set ?_ GE416.out) | exact HB.out))) : w.heap.size ≤ gb421)); have n8_ := Aside0.mk ((by rw [hg]; exact Nat.ne_of_lt (blk_lt (g := gb416) (o := .cells #[.slice Ao17 t409.length co17] 27 (0, 0)) (kU BK416.out)) : gb416 ≠ gb421)); have n9_ := Aside0.mk ((by rw [hg]; exact Nat.ne_of_gt (blk_lt (g := gb416) (o := .cells #[.slice Ao17 t409.length co17] 27 (0, 0)) (kU BK416.out)) : gb421 ≠ gb416)); clear HO411; clear HO414; clear HO419; clear BK416; clear HB; have HO411 := n0_; have HO414 := n1_; have HO419 := n2_; have BK416 := n3_; have HB := n4_; have BK421 := n5_; have GW421 := n6_; have GE421 := n7_; have NB416_421 := n8_; have NB421_416 := n9_; clear n0_ n1_ n2_ n3_ n4_ n5_ n6_ n7_ n8_ n9_; clear hb hbox hg; obtain ⟨Ao21, co21, eo21⟩ := Kd.R_slice HO419.out; subst eo21; have hnb22 := NB421_416.out; have hnc22 := NB416_421.out; have hcz23_0 : w20.cell? ⟨gb421, 0, none⟩ = some (.slice none 0 0) := (blk_cell BK421.out 0).trans rfl; have hfz23_0 := blk_frozen BK421.out 0))
       go_loopg [12, 14] kj5 (fun kq v12 v14 w' => ∃ (x12_2 : Int) (x14_2 : Int), v12 = .int .i64 x12_2 ∧ v14 = .int .i64 x14_2 ∧ Aside0 (tegulalaw34_RefcountSums.l0 kq l2 x12_2 0 x14_2 t409 t417 = some r) ∧ Aside0 (kq ≤ kj5) ∧ Aside0 (Kd.R (Kd.int .i64) 3 w' w.heap.size (fun k_ => some k_ ≠ ((.slice Ao21 t417.length co21) : Value).ownBlock) (.slice Ao17 t409.length co17) t409) ∧ Aside0 (Kd.R (Kd.int .i64) 3 w' w.heap.size (fun k_ => some k_ ≠ ((.slice Ao17 t409.length co17) : Value).ownBlock) (.slice Ao21 t417.length co21) t417) ∧ Aside0 (w'.heap[gb416]? = some (.cells #[(.slice Ao17 t409.length co17)] 27 (0, 0))) ∧ Aside0 (w'.heap[gb421]? = some (.cells #[(.slice Ao21 t417.length co21)] 27 (0, 0))) ∧ Aside0 (Below w.heap.size w w'))
       case atStart => exact ⟨(0), (0), (by first | rfl | (simp; done) | (simp [*]; done)), (by first | rfl | (simp; done) | (simp [*]; done)), H', ⟨Nat.le_refl _⟩, ⟨by (with_reducible repeat (first | apply Kd.R_alloc | apply Kd.R_drewN | apply Kd.R_drew)); exact Kd.R_mono (Kd.R_far (p := ⟨gb421, 0, none⟩) (Kd.R_types HO411.out BK421.out (by decide)) (fun _ hk => hk.2) (.slice Ao21 t417.length co21)) (fun _ hk => hk.1.2)⟩, ⟨by (with_reducible repeat (first | apply Kd.R_alloc | apply Kd.R_drewN | apply Kd.R_drew)); exact Kd.R_mono (Kd.R_far (p := ⟨gb421, 0, none⟩) (Kd.R_types HO419.out BK421.out (by decide)) (fun _ hk => hk.2) (.slice Ao21 t417.length co21)) (fun _ hk => hk.1.1.2)⟩, ⟨by (with_reducible repeat (first | refine blk_drewN ?_ _ | refine blk_drew ?_ | refine blk_alloc ?_ _)); refine blk_far ?_ NB416_421.out _; (with_reducible repeat (first | refine blk_drewN ?_ _ | refine blk_drew ?_ | refine blk_alloc ?_ _)); exact BK416.out⟩, ⟨by (with_reducible repeat (first | refine blk_drewN ?_ _ | refine blk_drew ?_ | refine blk_alloc ?_ _)); refine blk_put (cs := #[.slice none 0 0]) ?_ 0 _ rfl; (with_reducible repeat (first | refine blk_drewN ?_ _ | refine blk_drew ?_ | refine blk_alloc ?_ _)); exact BK421.out⟩, ⟨by repeat (first | (with_reducible first | exact HB.out | apply below_alloc | apply pw_below_drewN | apply below_drew1 | refine below_set ?_ GE416.out | refine below_set ?_ GE421.out) | exact HB.out)⟩⟩
       case round =>
        clear H'
        try clear c1
        try clear c2
        try clear p2
        try clear c5
        try clear c9
        try clear c10
        try clear c11
        try clear c12
        try clear c14
        try clear c14b0
        try clear c14b1
        try clear c22
        try clear hcz18_0
        try clear hcz23_0
        try clear hfz18_0
        try clear hfz23_0
        try clear p2
        obtain ⟨x12_2, x14_2, rfl, rfl, HA, HK2, HO_417000, HO_422000, BK416, BK421, HB⟩ := hrel
        cases gk with
        | zero => exact absurd HA.out (by simp [tegulalaw34_RefcountSums.l0])
        | succ k2 =>
         have H := HA.out
         clear HA
         simp only [tegulalaw34_RefcountSums.l0] at H
         by_cases c24 : x14_2 < (l2.length : Int)
         ·
          rw [if_pos c24] at H
          have c24b0 := decide_eq_true c24
          clear c24
          by_cases c25 : 0 ≤ x14_2
          ·
           rw [if_pos c25] at H
           have c25b0 := decide_eq_true c25
           clear c25
           have H' := Aside0.mk H
           clear H
           have p422 : 0 ≤ (x14_2 : Int) := of_decide_eq_true (by first | (with_reducible assumption) | assumption)
           have q422 : x14_2 < (l2.length : Int) := of_decide_eq_true (by first | (with_reducible assumption) | assumption)
           obtain ⟨ad422, e422, hx422_0, hx422_1, hx422_2⟩ := at_T41 HR2.out x14_2 p422 q422
           cases e422
           replace hx422_0 := (HB.out.cell (World.block_lt_of_cell? w _ hx422_0)).trans hx422_0
           replace hx422_1 := (HB.out.cell (World.block_lt_of_cell? w _ hx422_1)).trans hx422_1
           replace hx422_2 := (HB.out.cell (World.block_lt_of_cell? w _ hx422_2)).trans hx422_2
           replace p422 := eq_true p422
           replace q422 := eq_true q422
           go_wp2
           go_roundg k2
           case measure => have := HJ5.out; have := HK2.out; omega
           case rel => exact ⟨(wrap64 (x12_2 + ((rd_T41 l2 x14_2).f1))), (wrap64 (x14_2 + 1)), (by first | rfl | (simp; done) | (simp [*]; done)), (by first | rfl | (simp; done) | (simp [*]; done)), H', ⟨by have := HJ5.out; have := HK2.out; omega⟩, ⟨rU HO_417000.out⟩, ⟨rU HO_422000.out⟩, ⟨by (with_reducible repeat (first | refine blk_drewN ?_ _ | refine blk_drew ?_ | refine blk_alloc ?_ _)); exact BK416.out⟩, ⟨by (with_reducible repeat (first | refine blk_drewN ?_ _ | refine blk_drew ?_ | refine blk_alloc ?_ _)); exact BK421.out⟩, ⟨by repeat (first | (with_reducible first | exact HB.out | apply below_alloc | apply pw_below_drewN | apply below_drew1 | refine below_set ?_ GE416.out | refine below_set ?_ GE421.out) | exact HB.out)⟩⟩
          ·
           rw [if_neg c25] at H
           exact absurd H (by simp)
         ·
          rw [if_neg c24] at H
          have c24b0 := decide_eq_false c24
          clear c24
          replace H := Option.bind_eq_some_iff.mp H
          obtain ⟨t423, A260, H⟩ := H
          replace H : (tegulalaw34_RefcountSums.l1 k2 x12_2 0 t423 0 t409 t417) = some r := H
          have A26 := Aside0.mk A260
          clear A260
          have H' := Aside0.mk H
          clear H
          have hnb27 := NB421_416.out
          have hnc27 := NB416_421.out
          have hcz28_0 : wr.cell? ⟨gb421, 0, none⟩ = some (.slice Ao21 t417.length co21) := (blk_cell BK421.out 0).trans rfl
          have hfz28_0 := blk_frozen BK421.out 0
          go_wp2_with (first | ((with_reducible refine gate_callee (f := 18) rfl ?_); refine goesL_ (some 58) rfl rfl Try.func18 (by kernel_rfl) rfl #[.agg #[.slice Ao21 t417.length co21]] rfl (by (try simp only [List.map_toArray, List.map_cons, List.map_nil]); first | done | rfl | (simp only [List.length_drop, List.length_take]; rfl)) ?_; (with_reducible refine (refcount_Counts_Zero.calls k2 _ _ t417 t423 _ ?side1 ?side2 A26.out).mono ?_); (case side1 => repeat (first | exact (Kd.R_reads' HO_422000.out).2.2 | (with_reducible refine Kd.C_alloc ?_ _) | (with_reducible refine Kd.C_drewN ?_ _) | (with_reducible refine Kd.C_drew ?_))); (case side2 => exact (Kd.R_reads' HO_422000.out).2.1); rintro e w29 ⟨v424, rfl, ho0, hb⟩; refine ⟨_, rfl, ?_⟩; have n0_ := Aside0.mk (Kd.R_below (rU HO_417000.out) hb); have n1_ := Aside0.mk (Kd.R_below (rU HO_422000.out) hb); have n2_ := Aside0.mk (Kd.R_lower ho0 (below_size (by repeat (first | (with_reducible first | exact HB.out | apply below_alloc | apply pw_below_drewN | apply below_drew1 | refine below_set ?_ GE416.out | refine below_set ?_ GE421.out) | exact HB.out)))); have n3_ := Aside0.mk (blk_below (g := gb416) (o := .cells #[.slice Ao17 t409.length co17] 27 (0, 0)) (kU BK416.out) hb); have n4_ := Aside0.mk (blk_below (g := gb421) (o := .cells #[.slice Ao21 t417.length co21] 27 (0, 0)) (kU BK421.out) hb); have n5_ := Aside0.mk (below_step (by repeat (first | (with_reducible first | exact HB.out | apply below_alloc | apply pw_below_drewN | apply below_drew1 | refine below_set ?_ GE416.out | refine below_set ?_ GE421.out) | exact HB.out)) hb); clear HO_417000; clear HO_422000; clear BK416; clear BK421; clear HB; have HO_417000 := n0_; have HO_422000 := n1_; have HO425 := n2_; have BK416 := n3_; have BK421 := n4_; have HB := n5_; clear n0_ n1_ n2_ n3_ n4_ n5_; (try clear hb); (try clear hb2); (try clear hk); (try clear hi); (try clear ho0)))
          go_loopg [13, 16] k2 (fun kq v13 v16 w' => ∃ (x13_3 : Int) (x16_3 : Int), v13 = .int .i64 x13_3 ∧ v16 = .int .i64 x16_3 ∧ Aside0 (tegulalaw34_RefcountSums.l1 kq x12_2 x13_3 t423 x16_3 t409 t417 = some r) ∧ Aside0 (kq ≤ k2) ∧ Aside0 (Kd.R k41 41 w' w.heap.size (fun _ => True) v424 t423) ∧ Aside0 (Kd.R (Kd.int .i64) 3 w' w.heap.size (fun k_ => some k_ ≠ ((.slice Ao21 t417.length co21) : Value).ownBlock) (.slice Ao17 t409.length co17) t409) ∧ Aside0 (Kd.R (Kd.int .i64) 3 w' w.heap.size (fun k_ => some k_ ≠ ((.slice Ao17 t409.length co17) : Value).ownBlock) (.slice Ao21 t417.length co21) t417) ∧ Aside0 (w'.heap[gb416]? = some (.cells #[(.slice Ao17 t409.length co17)] 27 (0, 0))) ∧ Aside0 (w'.heap[gb421]? = some (.cells #[(.slice Ao21 t417.length co21)] 27 (0, 0))) ∧ Aside0 (Below w.heap.size w w'))
          case atStart => exact ⟨(0), (0), (by first | rfl | (simp; done) | (simp [*]; done)), (by first | rfl | (simp; done) | (simp [*]; done)), H', ⟨Nat.le_refl _⟩, ⟨rU HO425.out⟩, ⟨rU HO_417000.out⟩, ⟨rU HO_422000.out⟩, ⟨by (with_reducible repeat (first | refine blk_drewN ?_ _ | refine blk_drew ?_ | refine blk_alloc ?_ _)); exact BK416.out⟩, ⟨by (with_reducible repeat (first | refine blk_drewN ?_ _ | refine blk_drew ?_ | refine blk_alloc ?_ _)); exact BK421.out⟩, ⟨by repeat (first | (with_reducible first | exact HB.out | apply below_alloc | apply pw_below_drewN | apply below_drew1 | refine below_set ?_ GE416.out | refine below_set ?_ GE421.out) | exact HB.out)⟩⟩
          case round =>
           clear H'
           try clear c1
           try clear c2
           try clear p2
           try clear p4
           try clear q4
           try clear hx4
           try clear c5
           try clear p6
           try clear c9
           try clear c10
           try clear c11
           try clear c12
           try clear c14
           try clear c14b0
           try clear c14b1
           try clear c18
           try clear c22
           try clear c24
           try clear c24b0
           try clear c25
           try clear c25b0
           try clear c27
           try clear hcz18_0
           try clear hcz23_0
           try clear hcz28_0
           try clear hfz18_0
           try clear hfz23_0
           try clear hfz28_0
           try clear hx422_0
           try clear hx422_1
           try clear hx422_2
           try clear p2
           try clear p422
           try clear q422
           obtain ⟨x13_3, x16_3, rfl, rfl, HA, HK3, HO_15, HO_417000, HO_422000, BK416, BK421, HB⟩ := hrel
           cases gk with
           | zero => exact absurd HA.out (by simp [tegulalaw34_RefcountSums.l1])
           | succ k3 =>
            have H := HA.out
            clear HA
            simp only [tegulalaw34_RefcountSums.l1] at H
            by_cases c30 : x16_3 < (t423.length : Int)
            ·
             rw [if_pos c30] at H
             have c30b0 := decide_eq_true c30
             clear c30
             by_cases c31 : 0 ≤ x16_3
             ·
              rw [if_pos c31] at H
              have c31b0 := decide_eq_true c31
              clear c31
              have H' := Aside0.mk H
              clear H
              obtain ⟨Ao32, co32, eo32⟩ := Kd.R_slice HO_15.out
              subst eo32
              have p426 : 0 ≤ (x16_3 : Int) := of_decide_eq_true (by first | (with_reducible assumption) | assumption)
              have q426 : x16_3 < (t423.length : Int) := of_decide_eq_true (by first | (with_reducible assumption) | assumption)
              obtain ⟨ad426, e426, hx426_0, hx426_1, hx426_2⟩ := at_T41 (Kd.R_reads' HO_15.out).2.2 x16_3 p426 q426
              cases e426
              replace p426 := eq_true p426
              replace q426 := eq_true q426
              go_wp2
              go_roundg k3
              case measure => have := HJ5.out; have := HK2.out; have := HK3.out; omega
              case rel => exact ⟨(wrap64 (x13_3 + ((rd_T41 t423 x16_3).f1))), (wrap64 (x16_3 + 1)), (by first | rfl | (simp; done) | (simp [*]; done)), (by first | rfl | (simp; done) | (simp [*]; done)), H', ⟨by have := HJ5.out; have := HK2.out; have := HK3.out; omega⟩, ⟨rU HO_15.out⟩, ⟨rU HO_417000.out⟩, ⟨rU HO_422000.out⟩, ⟨by (with_reducible repeat (first | refine blk_drewN ?_ _ | refine blk_drew ?_ | refine blk_alloc ?_ _)); exact BK416.out⟩, ⟨by (with_reducible repeat (first | refine blk_drewN ?_ _ | refine blk_drew ?_ | refine blk_alloc ?_ _)); exact BK421.out⟩, ⟨by repeat (first | (with_reducible first | exact HB.out | apply below_alloc | apply pw_below_drewN | apply below_drew1 | refine below_set ?_ GE416.out | refine below_set ?_ GE421.out) | exact HB.out)⟩⟩
             ·
              rw [if_neg c31] at H
              exact absurd H (by simp)
            ·
             rw [if_neg c30] at H
             have c30b0 := decide_eq_false c30
             clear c30
             replace H := Option.bind_eq_some_iff.mp H
             obtain ⟨t427, A330, H⟩ := H
             replace H : ((refcount_Counts_Total.f t409).bind fun t428 => (if t427 = (wrap64 (t428 + x12_2)) then ((refcount_Counts_Used.f t417).bind fun t429 => ((refcount_Counts_Slots.f t417).bind fun t430 => (if (wrap64 (t429 + x13_3)) = t430 then ((refcount_Counts_Slots.f t417).bind fun t431 => ((refcount_Counts_Slots.f t409).bind fun t432 => (some (t431 == t432)))) else (some false)))) else (some false))) = some r := H
             have A33 := Aside0.mk A330
             clear A330
             replace H := Option.bind_eq_some_iff.mp H
             obtain ⟨t428, A340, H⟩ := H
             replace H : (if t427 = (wrap64 (t428 + x12_2)) then ((refcount_Counts_Used.f t417).bind fun t429 => ((refcount_Counts_Slots.f t417).bind fun t430 => (if (wrap64 (t429 + x13_3)) = t430 then ((refcount_Counts_Slots.f t417).bind fun t431 => ((refcount_Counts_Slots.f t409).bind fun t432 => (some (t431 == t432)))) else (some false)))) else (some false)) = some r := H
             have A34 := Aside0.mk A340
             clear A340
             by_cases c35 : t427 = (wrap64 (t428 + x12_2))
             ·
              rw [if_pos c35] at H
              have c35b0 : (t427 == (wrap64 (t428 + x12_2))) = true := beq_iff_eq.mpr c35
              have c35b1 : (t427 != (wrap64 (t428 + x12_2))) = false := bne_eq_false_iff_eq.mpr c35
              clear c35
              replace H := Option.bind_eq_some_iff.mp H
              obtain ⟨t429, A360, H⟩ := H
              replace H : ((refcount_Counts_Slots.f t417).bind fun t430 => (if (wrap64 (t429 + x13_3)) = t430 then ((refcount_Counts_Slots.f t417).bind fun t431 => ((refcount_Counts_Slots.f t409).bind fun t432 => (some (t431 == t432)))) else (some false))) = some r := H
              have A36 := Aside0.mk A360
              clear A360
              replace H := Option.bind_eq_some_iff.mp H
              obtain ⟨t430, A370, H⟩ := H
              replace H : (if (wrap64 (t429 + x13_3)) = t430 then ((refcount_Counts_Slots.f t417).bind fun t431 => ((refcount_Counts_Slots.f t409).bind fun t432 => (some (t431 == t432)))) else (some false)) = some r := H
              have A37 := Aside0.mk A370
              clear A370
              by_cases c38 : (wrap64 (t429 + x13_3)) = t430
              ·
               rw [if_pos c38] at H
               have c38b0 : ((wrap64 (t429 + x13_3)) == t430) = true := beq_iff_eq.mpr c38
               have c38b1 : ((wrap64 (t429 + x13_3)) != t430) = false := bne_eq_false_iff_eq.mpr c38
               clear c38
               replace H := Option.bind_eq_some_iff.mp H
               obtain ⟨t431, A390, H⟩ := H
               replace H : ((refcount_Counts_Slots.f t409).bind fun t432 => (some (t431 == t432))) = some r := H
               have A39 := Aside0.mk A390
               clear A390
               replace H := Option.bind_eq_some_iff.mp H
               obtain ⟨t432, A400, H⟩ := H
               replace H : (some (t431 == t432)) = some r := H
               have A40 := Aside0.mk A400
               clear A400
               obtain rfl := Option.some.inj H
               obtain ⟨Ao41, co41, eo41⟩ := Kd.R_slice HO_15.out
               subst eo41
               try go_wp2
               have n0_ := Aside0.mk (Kd.R_drew HO_15.out)
               have n1_ := Aside0.mk (Kd.R_drew HO_417000.out)
               have n2_ := Aside0.mk (Kd.R_drew HO_422000.out)
               have n3_ := Aside0.mk (blk_drew BK416.out)
               have n4_ := Aside0.mk (blk_drew BK421.out)
               have n5_ := Aside0.mk (below_drew1 HB.out)
               clear HO_15
               clear HO_417000
               clear HO_422000
               clear BK416
               clear BK421
               clear HB
               have HO_15 := n0_
               have HO_417000 := n1_
               have HO_422000 := n2_
               have BK416 := n3_
               have BK421 := n4_
               have HB := n5_
               clear n0_ n1_ n2_ n3_ n4_ n5_
               refine start_ (n := 24) (S := fun w' => w'.cell? ⟨gb421, 0, none⟩ = some (.slice Ao21 t417.length co21) ∧ w'.cell? ⟨gb416, 0, none⟩ = some (.slice Ao17 t409.length co17)) (ds := []) #[false, false, false, false, false, false, false, false, false, false, false, false, false, false, false, false, false, false, false, false, false, false, false, false] (by kernel_rfl) rfl rfl ⟨(blk_cell BK421.out 0).trans rfl, (blk_cell BK416.out 0).trans rfl⟩ (fun hHeld => ?_); refine with_tabW tegulalaw34_RefcountSums.tab21 tegulalaw34_RefcountSums.bits21 (fun HT_ HW_ => ?_)
               generalize wr.drew = w42 at HO_15 HO_417000 HO_422000 BK416 BK421 HB hHeld ⊢
               refine pure_ (i := 4) (N := some 76) (v := ?_) (a' := ?_) #[false, false, false, false, true, false, false, false, false, false, false, false, false, false, false, false, false, false, false, false, false, false, false, false] rfl rfl (any_of HT_.out (by kernel_rfl)) (fun _ _ _ h => h) (Or.inl ⟨by rfl, ?_⟩) ?_ ?_
               rotate_left
               ·
                intro w'
                go_simp
                with_reducible rfl
               rotate_left
               ·
                simp only [AP]
                rfl
               refine take_ (i := 0) (N := some 72) (v := ?_) (a' := ?_) #[true, false, false, false, true, false, false, false, false, false, false, false, false, false, false, false, false, false, false, false, false, false, false, false] rfl rfl (take_ofW HT_.out HW_.out (by kernel_rfl)) (fun _ _ _ h => h) (Or.inl ⟨by rfl, ?_⟩) hHeld ?_ ?_
               rotate_left
               ·
                rintro w' ⟨s0, s1⟩
                go_simp
                with_reducible rfl
               rotate_left
               ·
                simp only [AP]
                rfl
               refine take_ (i := 2) (N := some 74) (v := ?_) (a' := ?_) #[true, false, true, false, true, false, false, false, false, false, false, false, false, false, false, false, false, false, false, false, false, false, false, false] rfl rfl (take_ofW HT_.out HW_.out (by kernel_rfl)) (fun _ _ _ h => h) (Or.inl ⟨by rfl, ?_⟩) hHeld ?_ ?_
               rotate_left
               ·
                rintro w' ⟨s0, s1⟩
                go_simp
                with_reducible rfl
               rotate_left
               ·
                simp only [AP]
                rfl
               refine one_ (i := 1) (N := some 73) #[true, true, true, false, true, false, false, false, false, false, false, false, false, false, false, false, false, false, false, false, false, false, false, false] rfl rfl (one_of HT_.out (by kernel_rfl)) (by decide) (fun K hK => ?_)
               refine goes_ Try.func19 (by kernel_rfl) rfl #[.agg #[.slice Ao21 t417.length co21]] (by rfl) rfl rfl (by (try simp only [List.map_toArray, List.map_cons, List.map_nil]); first | done | rfl | (simp only [List.length_drop, List.length_take]; rfl)) ?_
               with_reducible refine (refcount_Counts_Total.calls _ _ t417 t427 _ ?side1 ?side2 A33.out).mono ?_
               (case side1 => repeat (first | exact (Kd.R_reads' HO_422000.out).2.2 | (with_reducible refine Kd.C_alloc ?_ _) | (with_reducible refine Kd.C_drewN ?_ _) | (with_reducible refine Kd.C_drew ?_)))
               (case side2 => exact (Kd.R_reads' HO_422000.out).2.1)
               rintro e w43 ⟨rfl, hb⟩
               refine ⟨_, rfl, ?_⟩
               have n0_ := Aside0.mk (Kd.R_below (rU HO_15.out) hb)
               have n1_ := Aside0.mk (Kd.R_below (rU HO_417000.out) hb)
               have n2_ := Aside0.mk (Kd.R_below (rU HO_422000.out) hb)
               have n3_ := Aside0.mk (blk_below (g := gb416) (o := .cells #[.slice Ao17 t409.length co17] 27 (0, 0)) (kU BK416.out) hb)
               have n4_ := Aside0.mk (blk_below (g := gb421) (o := .cells #[.slice Ao21 t417.length co21] 27 (0, 0)) (kU BK421.out) hb)
               have n5_ := Aside0.mk (below_step (by repeat (first | (with_reducible first | exact HB.out | apply below_alloc | apply pw_below_drewN | apply below_drew1 | refine below_set ?_ GE416.out | refine below_set ?_ GE421.out) | exact HB.out)) hb)
               clear HO_15
               clear HO_417000
               clear HO_422000
               clear BK416
               clear BK421
               clear HB
               have HO_15 := n0_
               have HO_417000 := n1_
               have HO_422000 := n2_
               have BK416 := n3_
               have BK421 := n4_
               have HB := n5_
               clear n0_ n1_ n2_ n3_ n4_ n5_
               (try clear hb)
               (try clear hb2)
               (try clear hk)
               (try clear hi)
               refine hK.out _ _ ⟨(blk_cell BK421.out 0).trans rfl, (blk_cell BK416.out 0).trans rfl⟩ (fun hHeld => ?_)
               clear hK K
               refine norm_ (a' := ?_) ?_ ?_
               rotate_left
               ·
                show Act.put _ (some 73) _ = _
                simp only [AP]
                rfl
               refine one_ (i := 3) (N := some 75) #[true, true, true, true, true, false, false, false, false, false, false, false, false, false, false, false, false, false, false, false, false, false, false, false] rfl rfl (one_of HT_.out (by kernel_rfl)) (by decide) (fun K hK => ?_)
               refine goes_ Try.func19 (by kernel_rfl) rfl #[.agg #[.slice Ao17 t409.length co17]] (by rfl) rfl rfl (by (try simp only [List.map_toArray, List.map_cons, List.map_nil]); first | done | rfl | (simp only [List.length_drop, List.length_take]; rfl)) ?_
               with_reducible refine (refcount_Counts_Total.calls _ _ t409 t428 _ ?side1 ?side2 A34.out).mono ?_
               (case side1 => repeat (first | exact (Kd.R_reads' HO_417000.out).2.2 | (with_reducible refine Kd.C_alloc ?_ _) | (with_reducible refine Kd.C_drewN ?_ _) | (with_reducible refine Kd.C_drew ?_)))
               (case side2 => exact (Kd.R_reads' HO_417000.out).2.1)
               rintro e w44 ⟨rfl, hb⟩
               refine ⟨_, rfl, ?_⟩
               have n0_ := Aside0.mk (Kd.R_below (rU HO_15.out) hb)
               have n1_ := Aside0.mk (Kd.R_below (rU HO_417000.out) hb)
               have n2_ := Aside0.mk (Kd.R_below (rU HO_422000.out) hb)
               have n3_ := Aside0.mk (blk_below (g := gb416) (o := .cells #[.slice Ao17 t409.length co17] 27 (0, 0)) (kU BK416.out) hb)
               have n4_ := Aside0.mk (blk_below (g := gb421) (o := .cells #[.slice Ao21 t417.length co21] 27 (0, 0)) (kU BK421.out) hb)
               have n5_ := Aside0.mk (below_step (by repeat (first | (with_reducible first | exact HB.out | apply below_alloc | apply pw_below_drewN | apply below_drew1 | refine below_set ?_ GE416.out | refine below_set ?_ GE421.out) | exact HB.out)) hb)
               clear HO_15
               clear HO_417000
               clear HO_422000
               clear BK416
               clear BK421
               clear HB
               have HO_15 := n0_
               have HO_417000 := n1_
               have HO_422000 := n2_
               have BK416 := n3_
               have BK421 := n4_
               have HB := n5_
               clear n0_ n1_ n2_ n3_ n4_ n5_
               (try clear hb)
               (try clear hb2)
               (try clear hk)
               (try clear hi)
               refine hK.out _ _ ⟨(blk_cell BK421.out 0).trans rfl, (blk_cell BK416.out 0).trans rfl⟩ (fun hHeld => ?_)
               clear hK K
               refine norm_ (a' := ?_) ?_ ?_
               rotate_left
               ·
                show Act.put _ (some 75) _ = _
                simp only [AP]
                rfl
               refine pure_ (i := 5) (N := some 77) (v := ?_) (a' := ?_) #[true, true, true, true, true, true, false, false, false, false, false, false, false, false, false, false, false, false, false, false, false, false, false, false] rfl rfl (any_of HT_.out (by kernel_rfl)) (fun _ _ _ h => h) (Or.inl ⟨by rfl, ?_⟩) ?_ ?_
               rotate_left
               ·
                intro w'
                go_simp
                with_reducible rfl
               rotate_left
               ·
                simp only [AP]
                rfl
               refine pure_ (i := 6) (N := some 78) (v := ?_) (a' := ?_) #[true, true, true, true, true, true, true, false, false, false, false, false, false, false, false, false, false, false, false, false, false, false, false, false] rfl rfl (any_of HT_.out (by kernel_rfl)) (fun _ _ _ h => h) (Or.inl ⟨by rfl, ?_⟩) ?_ ?_
               rotate_left
               ·
                intro w'
                go_simp
                with_reducible rfl
               rotate_left
               ·
                simp only [AP]
                rfl
               refine pure_ (i := 7) (N := some 79) (v := ?_) (a' := ?_) #[true, true, true, true, true, true, true, true, false, false, false, false, false, false, false, false, false, false, false, false, false, false, false, false] rfl rfl (any_of HT_.out (by kernel_rfl)) (fun _ _ _ h => h) (Or.inl ⟨by rfl, ?_⟩) ?_ ?_
               rotate_left
               ·
                intro w'
                go_simp
                with_reducible rfl
               rotate_left
               ·
                simp only [AP]
                rfl
               refine pure_ (i := 10) (N := some 82) (v := ?_) (a' := ?_) #[true, true, true, true, true, true, true, true, false, false, true, false, false, false, false, false, false, false, false, false, false, false, false, false] rfl rfl (any_of HT_.out (by kernel_rfl)) (fun _ _ _ h => h) (Or.inl ⟨by rfl, ?_⟩) ?_ ?_
               rotate_left
               ·
                intro w'
                go_simp
                with_reducible rfl
               rotate_left
               ·
                simp only [AP]
                rfl
               refine take_ (i := 8) (N := some 80) (v := ?_) (a' := ?_) #[true, true, true, true, true, true, true, true, true, false, true, false, false, false, false, false, false, false, false, false, false, false, false, false] rfl rfl (take_ofW HT_.out HW_.out (by kernel_rfl)) (fun _ _ _ h => h) (Or.inl ⟨by rfl, ?_⟩) hHeld ?_ ?_
               rotate_left
               ·
                rintro w' ⟨s0, s1⟩
                go_simp
                with_reducible rfl
               rotate_left
               ·
                simp only [AP]
                rfl
               refine take_ (i := 12) (N := some 84) (v := ?_) (a' := ?_) #[true, true, true, true, true, true, true, true, true, false, true, false, true, false, false, false, false, false, false, false, false, false, false, false] rfl rfl (take_ofW HT_.out HW_.out (by kernel_rfl)) (fun _ _ _ h => h) (Or.inl ⟨by rfl, ?_⟩) hHeld ?_ ?_
               rotate_left
               ·
                rintro w' ⟨s0, s1⟩
                go_simp
                with_reducible rfl
               rotate_left
               ·
                simp only [AP]
                rfl
               refine one_ (i := 9) (N := some 81) #[true, true, true, true, true, true, true, true, true, true, true, false, true, false, false, false, false, false, false, false, false, false, false, false] rfl rfl (one_of HT_.out (by kernel_rfl)) (by decide) (fun K hK => ?_)
               refine goes_ Try.func20 (by kernel_rfl) rfl #[.agg #[.slice Ao21 t417.length co21]] (by rfl) rfl rfl (by (try simp only [List.map_toArray, List.map_cons, List.map_nil]); first | done | rfl | (simp only [List.length_drop, List.length_take]; rfl)) ?_
               with_reducible refine (refcount_Counts_Used.calls _ _ t417 t429 _ ?side1 ?side2 A36.out).mono ?_
               (case side1 => repeat (first | exact (Kd.R_reads' HO_422000.out).2.2 | (with_reducible refine Kd.C_alloc ?_ _) | (with_reducible refine Kd.C_drewN ?_ _) | (with_reducible refine Kd.C_drew ?_)))
               (case side2 => exact (Kd.R_reads' HO_422000.out).2.1)
               rintro e w45 ⟨rfl, hb⟩
               refine ⟨_, rfl, ?_⟩
               have n0_ := Aside0.mk (Kd.R_below (rU HO_15.out) hb)
               have n1_ := Aside0.mk (Kd.R_below (rU HO_417000.out) hb)
               have n2_ := Aside0.mk (Kd.R_below (rU HO_422000.out) hb)
               have n3_ := Aside0.mk (blk_below (g := gb416) (o := .cells #[.slice Ao17 t409.length co17] 27 (0, 0)) (kU BK416.out) hb)
               have n4_ := Aside0.mk (blk_below (g := gb421) (o := .cells #[.slice Ao21 t417.length co21] 27 (0, 0)) (kU BK421.out) hb)
               have n5_ := Aside0.mk (below_step (by repeat (first | (with_reducible first | exact HB.out | apply below_alloc | apply pw_below_drewN | apply below_drew1 | refine below_set ?_ GE416.out | refine below_set ?_ GE421.out) | exact HB.out)) hb)
               clear HO_15
               clear HO_417000
               clear HO_422000
               clear BK416
               clear BK421
               clear HB
               have HO_15 := n0_
               have HO_417000 := n1_
               have HO_422000 := n2_
               have BK416 := n3_
               have BK421 := n4_
               have HB := n5_
               clear n0_ n1_ n2_ n3_ n4_ n5_
               (try clear hb)
               (try clear hb2)
               (try clear hk)
               (try clear hi)
               refine hK.out _ _ ⟨(blk_cell BK421.out 0).trans rfl, (blk_cell BK416.out 0).trans rfl⟩ (fun hHeld => ?_)
               clear hK K
               refine norm_ (a' := ?_) ?_ ?_
               rotate_left
               ·
                show Act.put _ (some 81) _ = _
                simp only [AP]
                rfl
               refine pure_ (i := 11) (N := some 83) (v := ?_) (a' := ?_) #[true, true, true, true, true, true, true, true, true, true, true, true, true, false, false, false, false, false, false, false, false, false, false, false] rfl rfl (any_of HT_.out (by kernel_rfl)) (fun _ _ _ h => h) (Or.inl ⟨by rfl, ?_⟩) ?_ ?_
               rotate_left
               ·
                intro w'
                go_simp
                with_reducible rfl
               rotate_left
               ·
                simp only [AP]
                rfl
               refine one_ (i := 13) (N := some 85) #[true, true, true, true, true, true, true, true, true, true, true, true, true, true, false, false, false, false, false, false, false, false, false, false] rfl rfl (one_of HT_.out (by kernel_rfl)) (by decide) (fun K hK => ?_)
               refine goes_ Try.func21 (by kernel_rfl) rfl #[.agg #[.slice Ao21 t417.length co21]] (by rfl) rfl rfl (by (try simp only [List.map_toArray, List.map_cons, List.map_nil]); first | done | rfl | (simp only [List.length_drop, List.length_take]; rfl)) ?_
               with_reducible refine (refcount_Counts_Slots.calls _ _ t417 t430 _ ?side1 ?side2 A37.out).mono ?_
               (case side1 => repeat (first | exact (Kd.R_reads' HO_422000.out).2.2 | (with_reducible refine Kd.C_alloc ?_ _) | (with_reducible refine Kd.C_drewN ?_ _) | (with_reducible refine Kd.C_drew ?_)))
               (case side2 => exact (Kd.R_reads' HO_422000.out).2.1)
               rintro e w46 ⟨rfl, hb⟩
               refine ⟨_, rfl, ?_⟩
               have n0_ := Aside0.mk (Kd.R_below (rU HO_15.out) hb)
               have n1_ := Aside0.mk (Kd.R_below (rU HO_417000.out) hb)
               have n2_ := Aside0.mk (Kd.R_below (rU HO_422000.out) hb)
               have n3_ := Aside0.mk (blk_below (g := gb416) (o := .cells #[.slice Ao17 t409.length co17] 27 (0, 0)) (kU BK416.out) hb)
               have n4_ := Aside0.mk (blk_below (g := gb421) (o := .cells #[.slice Ao21 t417.length co21] 27 (0, 0)) (kU BK421.out) hb)
               have n5_ := Aside0.mk (below_step (by repeat (first | (with_reducible first | exact HB.out | apply below_alloc | apply pw_below_drewN | apply below_drew1 | refine below_set ?_ GE416.out | refine below_set ?_ GE421.out) | exact HB.out)) hb)
               clear HO_15
               clear HO_417000
               clear HO_422000
               clear BK416
               clear BK421
               clear HB
               have HO_15 := n0_
               have HO_417000 := n1_
               have HO_422000 := n2_
               have BK416 := n3_
               have BK421 := n4_
               have HB := n5_
               clear n0_ n1_ n2_ n3_ n4_ n5_
               (try clear hb)
               (try clear hb2)
               (try clear hk)
               (try clear hi)
               refine hK.out _ _ ⟨(blk_cell BK421.out 0).trans rfl, (blk_cell BK416.out 0).trans rfl⟩ (fun hHeld => ?_)
               clear hK K
               refine norm_ (a' := ?_) ?_ ?_
               rotate_left
               ·
                show Act.put _ (some 85) _ = _
                simp only [AP]
                rfl
               refine pure_ (i := 14) (N := some 86) (v := ?_) (a' := ?_) #[true, true, true, true, true, true, true, true, true, true, true, true, true, true, true, false, false, false, false, false, false, false, false, false] rfl rfl (any_of HT_.out (by kernel_rfl)) (fun _ _ _ h => h) (Or.inl ⟨by rfl, ?_⟩) ?_ ?_
               rotate_left
               ·
                intro w'
                go_simp
                with_reducible rfl
               rotate_left
               ·
                simp only [AP]
                rfl
               refine pure_ (i := 15) (N := some 87) (v := ?_) (a' := ?_) #[true, true, true, true, true, true, true, true, true, true, true, true, true, true, true, true, false, false, false, false, false, false, false, false] rfl rfl (any_of HT_.out (by kernel_rfl)) (fun _ _ _ h => h) (Or.inl ⟨by rfl, ?_⟩) ?_ ?_
               rotate_left
               ·
                intro w'
                go_simp
                with_reducible rfl
               rotate_left
               ·
                simp only [AP]
                rfl
               refine pure_ (i := 16) (N := some 88) (v := ?_) (a' := ?_) #[true, true, true, true, true, true, true, true, true, true, true, true, true, true, true, true, true, false, false, false, false, false, false, false] rfl rfl (any_of HT_.out (by kernel_rfl)) (fun _ _ _ h => h) (Or.inl ⟨by rfl, ?_⟩) ?_ ?_
               rotate_left
               ·
                intro w'
                go_simp
                with_reducible rfl
               rotate_left
               ·
                simp only [AP]
                rfl
               refine take_ (i := 17) (N := some 89) (v := ?_) (a' := ?_) #[true, true, true, true, true, true, true, true, true, true, true, true, true, true, true, true, true, true, false, false, false, false, false, false] rfl rfl (take_ofW HT_.out HW_.out (by kernel_rfl)) (fun _ _ _ h => h) (Or.inl ⟨by rfl, ?_⟩) hHeld ?_ ?_
               rotate_left
               ·
                rintro w' ⟨s0, s1⟩
                go_simp
                with_reducible rfl
               rotate_left
               ·
                simp only [AP]
                rfl
               refine take_ (i := 19) (N := some 91) (v := ?_) (a' := ?_) #[true, true, true, true, true, true, true, true, true, true, true, true, true, true, true, true, true, true, false, true, false, false, false, false] rfl rfl (take_ofW HT_.out HW_.out (by kernel_rfl)) (fun _ _ _ h => h) (Or.inl ⟨by rfl, ?_⟩) hHeld ?_ ?_
               rotate_left
               ·
                rintro w' ⟨s0, s1⟩
                go_simp
                with_reducible rfl
               rotate_left
               ·
                simp only [AP]
                rfl
               refine one_ (i := 18) (N := some 90) #[true, true, true, true, true, true, true, true, true, true, true, true, true, true, true, true, true, true, true, true, false, false, false, false] rfl rfl (one_of HT_.out (by kernel_rfl)) (by decide) (fun K hK => ?_)
               refine goes_ Try.func21 (by kernel_rfl) rfl #[.agg #[.slice Ao21 t417.length co21]] (by rfl) rfl rfl (by (try simp only [List.map_toArray, List.map_cons, List.map_nil]); first | done | rfl | (simp only [List.length_drop, List.length_take]; rfl)) ?_
               with_reducible refine (refcount_Counts_Slots.calls _ _ t417 t431 _ ?side1 ?side2 A39.out).mono ?_
               (case side1 => repeat (first | exact (Kd.R_reads' HO_422000.out).2.2 | (with_reducible refine Kd.C_alloc ?_ _) | (with_reducible refine Kd.C_drewN ?_ _) | (with_reducible refine Kd.C_drew ?_)))
               (case side2 => exact (Kd.R_reads' HO_422000.out).2.1)
               rintro e w47 ⟨rfl, hb⟩
               refine ⟨_, rfl, ?_⟩
               have n0_ := Aside0.mk (Kd.R_below (rU HO_15.out) hb)
               have n1_ := Aside0.mk (Kd.R_below (rU HO_417000.out) hb)
               have n2_ := Aside0.mk (Kd.R_below (rU HO_422000.out) hb)
               have n3_ := Aside0.mk (blk_below (g := gb416) (o := .cells #[.slice Ao17 t409.length co17] 27 (0, 0)) (kU BK416.out) hb)
               have n4_ := Aside0.mk (blk_below (g := gb421) (o := .cells #[.slice Ao21 t417.length co21] 27 (0, 0)) (kU BK421.out) hb)
               have n5_ := Aside0.mk (below_step (by repeat (first | (with_reducible first | exact HB.out | apply below_alloc | apply pw_below_drewN | apply below_drew1 | refine below_set ?_ GE416.out | refine below_set ?_ GE421.out) | exact HB.out)) hb)
               clear HO_15
               clear HO_417000
               clear HO_422000
               clear BK416
               clear BK421
               clear HB
               have HO_15 := n0_
               have HO_417000 := n1_
               have HO_422000 := n2_
               have BK416 := n3_
               have BK421 := n4_
               have HB := n5_
               clear n0_ n1_ n2_ n3_ n4_ n5_
               (try clear hb)
               (try clear hb2)
               (try clear hk)
               (try clear hi)
               refine hK.out _ _ ⟨(blk_cell BK421.out 0).trans rfl, (blk_cell BK416.out 0).trans rfl⟩ (fun hHeld => ?_)
               clear hK K
               refine norm_ (a' := ?_) ?_ ?_
               rotate_left
               ·
                show Act.put _ (some 90) _ = _
                simp only [AP]
                rfl
               refine one_ (i := 20) (N := some 92) #[true, true, true, true, true, true, true, true, true, true, true, true, true, true, true, true, true, true, true, true, true, false, false, false] rfl rfl (one_of HT_.out (by kernel_rfl)) (by decide) (fun K hK => ?_)
               refine goes_ Try.func21 (by kernel_rfl) rfl #[.agg #[.slice Ao17 t409.length co17]] (by rfl) rfl rfl (by (try simp only [List.map_toArray, List.map_cons, List.map_nil]); first | done | rfl | (simp only [List.length_drop, List.length_take]; rfl)) ?_
               with_reducible refine (refcount_Counts_Slots.calls _ _ t409 t432 _ ?side1 ?side2 A40.out).mono ?_
               (case side1 => repeat (first | exact (Kd.R_reads' HO_417000.out).2.2 | (with_reducible refine Kd.C_alloc ?_ _) | (with_reducible refine Kd.C_drewN ?_ _) | (with_reducible refine Kd.C_drew ?_)))
               (case side2 => exact (Kd.R_reads' HO_417000.out).2.1)
               rintro e w48 ⟨rfl, hb⟩
               refine ⟨_, rfl, ?_⟩
               have n0_ := Aside0.mk (Kd.R_below (rU HO_15.out) hb)
               have n1_ := Aside0.mk (Kd.R_below (rU HO_417000.out) hb)
               have n2_ := Aside0.mk (Kd.R_below (rU HO_422000.out) hb)
               have n3_ := Aside0.mk (blk_below (g := gb416) (o := .cells #[.slice Ao17 t409.length co17] 27 (0, 0)) (kU BK416.out) hb)
               have n4_ := Aside0.mk (blk_below (g := gb421) (o := .cells #[.slice Ao21 t417.length co21] 27 (0, 0)) (kU BK421.out) hb)
               have n5_ := Aside0.mk (below_step (by repeat (first | (with_reducible first | exact HB.out | apply below_alloc | apply pw_below_drewN | apply below_drew1 | refine below_set ?_ GE416.out | refine below_set ?_ GE421.out) | exact HB.out)) hb)
               clear HO_15
               clear HO_417000
               clear HO_422000
               clear BK416
               clear BK421
               clear HB
               have HO_15 := n0_
               have HO_417000 := n1_
               have HO_422000 := n2_
               have BK416 := n3_
               have BK421 := n4_
               have HB := n5_
               clear n0_ n1_ n2_ n3_ n4_ n5_
               (try clear hb)
               (try clear hb2)
               (try clear hk)
               (try clear hi)
               refine hK.out _ _ ⟨(blk_cell BK421.out 0).trans rfl, (blk_cell BK416.out 0).trans rfl⟩ (fun hHeld => ?_)
               clear hK K
               refine norm_ (a' := ?_) ?_ ?_
               rotate_left
               ·
                show Act.put _ (some 92) _ = _
                simp only [AP]
                rfl
               refine pure_ (i := 21) (N := some 93) (v := ?_) (a' := ?_) #[true, true, true, true, true, true, true, true, true, true, true, true, true, true, true, true, true, true, true, true, true, true, false, false] rfl rfl (any_of HT_.out (by kernel_rfl)) (fun _ _ _ h => h) (Or.inl ⟨by rfl, ?_⟩) ?_ ?_
               rotate_left
               ·
                intro w'
                go_simp
                with_reducible rfl
               rotate_left
               ·
                simp only [AP]
                rfl
               refine pure_ (i := 22) (N := some 94) (v := ?_) (a' := ?_) #[true, true, true, true, true, true, true, true, true, true, true, true, true, true, true, true, true, true, true, true, true, true, true, false] rfl rfl (any_of HT_.out (by kernel_rfl)) (fun _ _ _ h => h) (Or.inl ⟨by rfl, ?_⟩) ?_ ?_
               rotate_left
               ·
                intro w'
                go_simp
                with_reducible rfl
               rotate_left
               ·
                simp only [AP]
                rfl
               refine pure_ (i := 23) (N := some 6) (v := ?_) (a' := ?_) #[true, true, true, true, true, true, true, true, true, true, true, true, true, true, true, true, true, true, true, true, true, true, true, true] rfl rfl (any_of HT_.out (by kernel_rfl)) (fun _ _ _ h => h) (Or.inl ⟨by rfl, ?_⟩) ?_ ?_
               rotate_left
               ·
                intro w'
                go_simp
                with_reducible rfl
               rotate_left
               ·
                simp only [AP]
                rfl
               refine done_ (done_of HT_.out (by kernel_rfl)) ?_
               try go_wp2
               go_ret
               exact ⟨by first | rfl | (simp [errW_none, errW_some] <;> rfl) | (simp [*, errW_none, errW_some] <;> rfl), by repeat (first | (with_reducible first | exact HB.out | apply below_alloc | apply pw_below_drewN | apply below_drew1 | refine below_set ?_ GE416.out | refine below_set ?_ GE421.out) | exact HB.out)⟩
              ·
               rw [if_neg c38] at H
               have c38b0 : ((wrap64 (t429 + x13_3)) == t430) = false := beq_eq_false_iff_ne.mpr c38
               have c38b1 : ((wrap64 (t429 + x13_3)) != t430) = true := bne_iff_ne.mpr c38
               obtain rfl := Option.some.inj H
               obtain ⟨Ao49, co49, eo49⟩ := Kd.R_slice HO_15.out
               subst eo49
               try go_wp2
               have n0_ := Aside0.mk (Kd.R_drew HO_15.out)
               have n1_ := Aside0.mk (Kd.R_drew HO_417000.out)
               have n2_ := Aside0.mk (Kd.R_drew HO_422000.out)
               have n3_ := Aside0.mk (blk_drew BK416.out)
               have n4_ := Aside0.mk (blk_drew BK421.out)
               have n5_ := Aside0.mk (below_drew1 HB.out)
               clear HO_15
               clear HO_417000
               clear HO_422000
               clear BK416
               clear BK421
               clear HB
               have HO_15 := n0_
               have HO_417000 := n1_
               have HO_422000 := n2_
               have BK416 := n3_
               have BK421 := n4_
               have HB := n5_
               clear n0_ n1_ n2_ n3_ n4_ n5_
               refine start_ (n := 24) (S := fun w' => w'.cell? ⟨gb421, 0, none⟩ = some (.slice Ao21 t417.length co21) ∧ w'.cell? ⟨gb416, 0, none⟩ = some (.slice Ao17 t409.length co17)) (ds := []) #[false, false, false, false, false, false, false, false, false, false, false, false, false, false, false, false, false, false, false, false, false, false, false, false] (by kernel_rfl) rfl rfl ⟨(blk_cell BK421.out 0).trans rfl, (blk_cell BK416.out 0).trans rfl⟩ (fun hHeld => ?_); refine with_tabW tegulalaw34_RefcountSums.tab21 tegulalaw34_RefcountSums.bits21 (fun HT_ HW_ => ?_)
               generalize wr.drew = w50 at HO_15 HO_417000 HO_422000 BK416 BK421 HB hHeld ⊢
               refine pure_ (i := 4) (N := some 76) (v := ?_) (a' := ?_) #[false, false, false, false, true, false, false, false, false, false, false, false, false, false, false, false, false, false, false, false, false, false, false, false] rfl rfl (any_of HT_.out (by kernel_rfl)) (fun _ _ _ h => h) (Or.inl ⟨by rfl, ?_⟩) ?_ ?_
               rotate_left
               ·
                intro w'
                go_simp
                with_reducible rfl
               rotate_left
               ·
                simp only [AP]
                rfl
               refine take_ (i := 0) (N := some 72) (v := ?_) (a' := ?_) #[true, false, false, false, true, false, false, false, false, false, false, false, false, false, false, false, false, false, false, false, false, false, false, false] rfl rfl (take_ofW HT_.out HW_.out (by kernel_rfl)) (fun _ _ _ h => h) (Or.inl ⟨by rfl, ?_⟩) hHeld ?_ ?_
               rotate_left
               ·
                rintro w' ⟨s0, s1⟩
                go_simp
                with_reducible rfl
               rotate_left
               ·
                simp only [AP]
                rfl
               refine take_ (i := 2) (N := some 74) (v := ?_) (a' := ?_) #[true, false, true, false, true, false, false, false, false, false, false, false, false, false, false, false, false, false, false, false, false, false, false, false] rfl rfl (take_ofW HT_.out HW_.out (by kernel_rfl)) (fun _ _ _ h => h) (Or.inl ⟨by rfl, ?_⟩) hHeld ?_ ?_
               rotate_left
               ·
                rintro w' ⟨s0, s1⟩
                go_simp
                with_reducible rfl
               rotate_left
               ·
                simp only [AP]
                rfl
               refine one_ (i := 1) (N := some 73) #[true, true, true, false, true, false, false, false, false, false, false, false, false, false, false, false, false, false, false, false, false, false, false, false] rfl rfl (one_of HT_.out (by kernel_rfl)) (by decide) (fun K hK => ?_)
               refine goes_ Try.func19 (by kernel_rfl) rfl #[.agg #[.slice Ao21 t417.length co21]] (by rfl) rfl rfl (by (try simp only [List.map_toArray, List.map_cons, List.map_nil]); first | done | rfl | (simp only [List.length_drop, List.length_take]; rfl)) ?_
               with_reducible refine (refcount_Counts_Total.calls _ _ t417 t427 _ ?side1 ?side2 A33.out).mono ?_
               (case side1 => repeat (first | exact (Kd.R_reads' HO_422000.out).2.2 | (with_reducible refine Kd.C_alloc ?_ _) | (with_reducible refine Kd.C_drewN ?_ _) | (with_reducible refine Kd.C_drew ?_)))
               (case side2 => exact (Kd.R_reads' HO_422000.out).2.1)
               rintro e w51 ⟨rfl, hb⟩
               refine ⟨_, rfl, ?_⟩
               have n0_ := Aside0.mk (Kd.R_below (rU HO_15.out) hb)
               have n1_ := Aside0.mk (Kd.R_below (rU HO_417000.out) hb)
               have n2_ := Aside0.mk (Kd.R_below (rU HO_422000.out) hb)
               have n3_ := Aside0.mk (blk_below (g := gb416) (o := .cells #[.slice Ao17 t409.length co17] 27 (0, 0)) (kU BK416.out) hb)
               have n4_ := Aside0.mk (blk_below (g := gb421) (o := .cells #[.slice Ao21 t417.length co21] 27 (0, 0)) (kU BK421.out) hb)
               have n5_ := Aside0.mk (below_step (by repeat (first | (with_reducible first | exact HB.out | apply below_alloc | apply pw_below_drewN | apply below_drew1 | refine below_set ?_ GE416.out | refine below_set ?_ GE421.out) | exact HB.out)) hb)
               clear HO_15
               clear HO_417000
               clear HO_422000
               clear BK416
               clear BK421
               clear HB
               have HO_15 := n0_
               have HO_417000 := n1_
               have HO_422000 := n2_
               have BK416 := n3_
               have BK421 := n4_
               have HB := n5_
               clear n0_ n1_ n2_ n3_ n4_ n5_
               (try clear hb)
               (try clear hb2)
               (try clear hk)
               (try clear hi)
               refine hK.out _ _ ⟨(blk_cell BK421.out 0).trans rfl, (blk_cell BK416.out 0).trans rfl⟩ (fun hHeld => ?_)
               clear hK K
               refine norm_ (a' := ?_) ?_ ?_
               rotate_left
               ·
                show Act.put _ (some 73) _ = _
                simp only [AP]
                rfl
               refine one_ (i := 3) (N := some 75) #[true, true, true, true, true, false, false, false, false, false, false, false, false, false, false, false, false, false, false, false, false, false, false, false] rfl rfl (one_of HT_.out (by kernel_rfl)) (by decide) (fun K hK => ?_)
               refine goes_ Try.func19 (by kernel_rfl) rfl #[.agg #[.slice Ao17 t409.length co17]] (by rfl) rfl rfl (by (try simp only [List.map_toArray, List.map_cons, List.map_nil]); first | done | rfl | (simp only [List.length_drop, List.length_take]; rfl)) ?_
               with_reducible refine (refcount_Counts_Total.calls _ _ t409 t428 _ ?side1 ?side2 A34.out).mono ?_
               (case side1 => repeat (first | exact (Kd.R_reads' HO_417000.out).2.2 | (with_reducible refine Kd.C_alloc ?_ _) | (with_reducible refine Kd.C_drewN ?_ _) | (with_reducible refine Kd.C_drew ?_)))
               (case side2 => exact (Kd.R_reads' HO_417000.out).2.1)
               rintro e w52 ⟨rfl, hb⟩
               refine ⟨_, rfl, ?_⟩
               have n0_ := Aside0.mk (Kd.R_below (rU HO_15.out) hb)
               have n1_ := Aside0.mk (Kd.R_below (rU HO_417000.out) hb)
               have n2_ := Aside0.mk (Kd.R_below (rU HO_422000.out) hb)
               have n3_ := Aside0.mk (blk_below (g := gb416) (o := .cells #[.slice Ao17 t409.length co17] 27 (0, 0)) (kU BK416.out) hb)
               have n4_ := Aside0.mk (blk_below (g := gb421) (o := .cells #[.slice Ao21 t417.length co21] 27 (0, 0)) (kU BK421.out) hb)
               have n5_ := Aside0.mk (below_step (by repeat (first | (with_reducible first | exact HB.out | apply below_alloc | apply pw_below_drewN | apply below_drew1 | refine below_set ?_ GE416.out | refine below_set ?_ GE421.out) | exact HB.out)) hb)
               clear HO_15
               clear HO_417000
               clear HO_422000
               clear BK416
               clear BK421
               clear HB
               have HO_15 := n0_
               have HO_417000 := n1_
               have HO_422000 := n2_
               have BK416 := n3_
               have BK421 := n4_
               have HB := n5_
               clear n0_ n1_ n2_ n3_ n4_ n5_
               (try clear hb)
               (try clear hb2)
               (try clear hk)
               (try clear hi)
               refine hK.out _ _ ⟨(blk_cell BK421.out 0).trans rfl, (blk_cell BK416.out 0).trans rfl⟩ (fun hHeld => ?_)
               clear hK K
               refine norm_ (a' := ?_) ?_ ?_
               rotate_left
               ·
                show Act.put _ (some 75) _ = _
                simp only [AP]
                rfl
               refine pure_ (i := 5) (N := some 77) (v := ?_) (a' := ?_) #[true, true, true, true, true, true, false, false, false, false, false, false, false, false, false, false, false, false, false, false, false, false, false, false] rfl rfl (any_of HT_.out (by kernel_rfl)) (fun _ _ _ h => h) (Or.inl ⟨by rfl, ?_⟩) ?_ ?_
               rotate_left
               ·
                intro w'
                go_simp
                with_reducible rfl
               rotate_left
               ·
                simp only [AP]
                rfl
               refine pure_ (i := 6) (N := some 78) (v := ?_) (a' := ?_) #[true, true, true, true, true, true, true, false, false, false, false, false, false, false, false, false, false, false, false, false, false, false, false, false] rfl rfl (any_of HT_.out (by kernel_rfl)) (fun _ _ _ h => h) (Or.inl ⟨by rfl, ?_⟩) ?_ ?_
               rotate_left
               ·
                intro w'
                go_simp
                with_reducible rfl
               rotate_left
               ·
                simp only [AP]
                rfl
               refine pure_ (i := 7) (N := some 79) (v := ?_) (a' := ?_) #[true, true, true, true, true, true, true, true, false, false, false, false, false, false, false, false, false, false, false, false, false, false, false, false] rfl rfl (any_of HT_.out (by kernel_rfl)) (fun _ _ _ h => h) (Or.inl ⟨by rfl, ?_⟩) ?_ ?_
               rotate_left
               ·
                intro w'
                go_simp
                with_reducible rfl
               rotate_left
               ·
                simp only [AP]
                rfl
               refine pure_ (i := 10) (N := some 82) (v := ?_) (a' := ?_) #[true, true, true, true, true, true, true, true, false, false, true, false, false, false, false, false, false, false, false, false, false, false, false, false] rfl rfl (any_of HT_.out (by kernel_rfl)) (fun _ _ _ h => h) (Or.inl ⟨by rfl, ?_⟩) ?_ ?_
               rotate_left
               ·
                intro w'
                go_simp
                with_reducible rfl
               rotate_left
               ·
                simp only [AP]
                rfl
               refine take_ (i := 8) (N := some 80) (v := ?_) (a' := ?_) #[true, true, true, true, true, true, true, true, true, false, true, false, false, false, false, false, false, false, false, false, false, false, false, false] rfl rfl (take_ofW HT_.out HW_.out (by kernel_rfl)) (fun _ _ _ h => h) (Or.inl ⟨by rfl, ?_⟩) hHeld ?_ ?_
               rotate_left
               ·
                rintro w' ⟨s0, s1⟩
                go_simp
                with_reducible rfl
               rotate_left
               ·
                simp only [AP]
                rfl
               refine take_ (i := 12) (N := some 84) (v := ?_) (a' := ?_) #[true, true, true, true, true, true, true, true, true, false, true, false, true, false, false, false, false, false, false, false, false, false, false, false] rfl rfl (take_ofW HT_.out HW_.out (by kernel_rfl)) (fun _ _ _ h => h) (Or.inl ⟨by rfl, ?_⟩) hHeld ?_ ?_
               rotate_left
               ·
                rintro w' ⟨s0, s1⟩
                go_simp
                with_reducible rfl
               rotate_left
               ·
                simp only [AP]
                rfl
               refine one_ (i := 9) (N := some 81) #[true, true, true, true, true, true, true, true, true, true, true, false, true, false, false, false, false, false, false, false, false, false, false, false] rfl rfl (one_of HT_.out (by kernel_rfl)) (by decide) (fun K hK => ?_)
               refine goes_ Try.func20 (by kernel_rfl) rfl #[.agg #[.slice Ao21 t417.length co21]] (by rfl) rfl rfl (by (try simp only [List.map_toArray, List.map_cons, List.map_nil]); first | done | rfl | (simp only [List.length_drop, List.length_take]; rfl)) ?_
               with_reducible refine (refcount_Counts_Used.calls _ _ t417 t429 _ ?side1 ?side2 A36.out).mono ?_
               (case side1 => repeat (first | exact (Kd.R_reads' HO_422000.out).2.2 | (with_reducible refine Kd.C_alloc ?_ _) | (with_reducible refine Kd.C_drewN ?_ _) | (with_reducible refine Kd.C_drew ?_)))
               (case side2 => exact (Kd.R_reads' HO_422000.out).2.1)
               rintro e w53 ⟨rfl, hb⟩
               refine ⟨_, rfl, ?_⟩
               have n0_ := Aside0.mk (Kd.R_below (rU HO_15.out) hb)
               have n1_ := Aside0.mk (Kd.R_below (rU HO_417000.out) hb)
               have n2_ := Aside0.mk (Kd.R_below (rU HO_422000.out) hb)
               have n3_ := Aside0.mk (blk_below (g := gb416) (o := .cells #[.slice Ao17 t409.length co17] 27 (0, 0)) (kU BK416.out) hb)
               have n4_ := Aside0.mk (blk_below (g := gb421) (o := .cells #[.slice Ao21 t417.length co21] 27 (0, 0)) (kU BK421.out) hb)
               have n5_ := Aside0.mk (below_step (by repeat (first | (with_reducible first | exact HB.out | apply below_alloc | apply pw_below_drewN | apply below_drew1 | refine below_set ?_ GE416.out | refine below_set ?_ GE421.out) | exact HB.out)) hb)
               clear HO_15
               clear HO_417000
               clear HO_422000
               clear BK416
               clear BK421
               clear HB
               have HO_15 := n0_
               have HO_417000 := n1_
               have HO_422000 := n2_
               have BK416 := n3_
               have BK421 := n4_
               have HB := n5_
               clear n0_ n1_ n2_ n3_ n4_ n5_
               (try clear hb)
               (try clear hb2)
               (try clear hk)
               (try clear hi)
               refine hK.out _ _ ⟨(blk_cell BK421.out 0).trans rfl, (blk_cell BK416.out 0).trans rfl⟩ (fun hHeld => ?_)
               clear hK K
               refine norm_ (a' := ?_) ?_ ?_
               rotate_left
               ·
                show Act.put _ (some 81) _ = _
                simp only [AP]
                rfl
               refine pure_ (i := 11) (N := some 83) (v := ?_) (a' := ?_) #[true, true, true, true, true, true, true, true, true, true, true, true, true, false, false, false, false, false, false, false, false, false, false, false] rfl rfl (any_of HT_.out (by kernel_rfl)) (fun _ _ _ h => h) (Or.inl ⟨by rfl, ?_⟩) ?_ ?_
               rotate_left
               ·
                intro w'
                go_simp
                with_reducible rfl
               rotate_left
               ·
                simp only [AP]
                rfl
               refine one_ (i := 13) (N := some 85) #[true, true, true, true, true, true, true, true, true, true, true, true, true, true, false, false, false, false, false, false, false, false, false, false] rfl rfl (one_of HT_.out (by kernel_rfl)) (by decide) (fun K hK => ?_)
               refine goes_ Try.func21 (by kernel_rfl) rfl #[.agg #[.slice Ao21 t417.length co21]] (by rfl) rfl rfl (by (try simp only [List.map_toArray, List.map_cons, List.map_nil]); first | done | rfl | (simp only [List.length_drop, List.length_take]; rfl)) ?_
               with_reducible refine (refcount_Counts_Slots.calls _ _ t417 t430 _ ?side1 ?side2 A37.out).mono ?_
               (case side1 => repeat (first | exact (Kd.R_reads' HO_422000.out).2.2 | (with_reducible refine Kd.C_alloc ?_ _) | (with_reducible refine Kd.C_drewN ?_ _) | (with_reducible refine Kd.C_drew ?_)))
               (case side2 => exact (Kd.R_reads' HO_422000.out).2.1)
               rintro e w54 ⟨rfl, hb⟩
               refine ⟨_, rfl, ?_⟩
               have n0_ := Aside0.mk (Kd.R_below (rU HO_15.out) hb)
               have n1_ := Aside0.mk (Kd.R_below (rU HO_417000.out) hb)
               have n2_ := Aside0.mk (Kd.R_below (rU HO_422000.out) hb)
               have n3_ := Aside0.mk (blk_below (g := gb416) (o := .cells #[.slice Ao17 t409.length co17] 27 (0, 0)) (kU BK416.out) hb)
               have n4_ := Aside0.mk (blk_below (g := gb421) (o := .cells #[.slice Ao21 t417.length co21] 27 (0, 0)) (kU BK421.out) hb)
               have n5_ := Aside0.mk (below_step (by repeat (first | (with_reducible first | exact HB.out | apply below_alloc | apply pw_below_drewN | apply below_drew1 | refine below_set ?_ GE416.out | refine below_set ?_ GE421.out) | exact HB.out)) hb)
               clear HO_15
               clear HO_417000
               clear HO_422000
               clear BK416
               clear BK421
               clear HB
               have HO_15 := n0_
               have HO_417000 := n1_
               have HO_422000 := n2_
               have BK416 := n3_
               have BK421 := n4_
               have HB := n5_
               clear n0_ n1_ n2_ n3_ n4_ n5_
               (try clear hb)
               (try clear hb2)
               (try clear hk)
               (try clear hi)
               refine hK.out _ _ ⟨(blk_cell BK421.out 0).trans rfl, (blk_cell BK416.out 0).trans rfl⟩ (fun hHeld => ?_)
               clear hK K
               refine norm_ (a' := ?_) ?_ ?_
               rotate_left
               ·
                show Act.put _ (some 85) _ = _
                simp only [AP]
                rfl
               refine pure_ (i := 14) (N := some 86) (v := ?_) (a' := ?_) #[true, true, true, true, true, true, true, true, true, true, true, true, true, true, true, false, false, false, false, false, false, false, false, false] rfl rfl (any_of HT_.out (by kernel_rfl)) (fun _ _ _ h => h) (Or.inl ⟨by rfl, ?_⟩) ?_ ?_
               rotate_left
               ·
                intro w'
                go_simp
                with_reducible rfl
               rotate_left
               ·
                simp only [AP]
                rfl
               refine pure_ (i := 15) (N := some 87) (v := ?_) (a' := ?_) #[true, true, true, true, true, true, true, true, true, true, true, true, true, true, true, true, false, false, false, false, false, false, false, false] rfl rfl (any_of HT_.out (by kernel_rfl)) (fun _ _ _ h => h) (Or.inl ⟨by rfl, ?_⟩) ?_ ?_
               rotate_left
               ·
                intro w'
                go_simp
                with_reducible rfl
               rotate_left
               ·
                simp only [AP]
                rfl
               refine pure_ (i := 16) (N := some 88) (v := ?_) (a' := ?_) #[true, true, true, true, true, true, true, true, true, true, true, true, true, true, true, true, true, false, false, false, false, false, false, false] rfl rfl (any_of HT_.out (by kernel_rfl)) (fun _ _ _ h => h) (Or.inl ⟨by rfl, ?_⟩) ?_ ?_
               rotate_left
               ·
                intro w'
                go_simp
                with_reducible rfl
               rotate_left
               ·
                simp only [AP]
                rfl
               refine pure_ (i := 17) (N := some 89) (v := undef) (a' := ?_) #[true, true, true, true, true, true, true, true, true, true, true, true, true, true, true, true, true, true, false, false, false, false, false, false] rfl rfl (any_of HT_.out (by kernel_rfl)) (fun _ _ _ h => h) (Or.inr ⟨by rfl, rfl⟩) ?_ ?_
               rotate_left
               ·
                simp only [AP]
                rfl
               refine pure_ (i := 18) (N := some 90) (v := undef) (a' := ?_) #[true, true, true, true, true, true, true, true, true, true, true, true, true, true, true, true, true, true, true, false, false, false, false, false] rfl rfl (any_of HT_.out (by kernel_rfl)) (fun _ _ _ h => h) (Or.inr ⟨by rfl, rfl⟩) ?_ ?_
               rotate_left
               ·
                simp only [AP]
                rfl
               refine pure_ (i := 19) (N := some 91) (v := undef) (a' := ?_) #[true, true, true, true, true, true, true, true, true, true, true, true, true, true, true, true, true, true, true, true, false, false, false, false] rfl rfl (any_of HT_.out (by kernel_rfl)) (fun _ _ _ h => h) (Or.inr ⟨by rfl, rfl⟩) ?_ ?_
               rotate_left
               ·
                simp only [AP]
                rfl
               refine pure_ (i := 20) (N := some 92) (v := undef) (a' := ?_) #[true, true, true, true, true, true, true, true, true, true, true, true, true, true, true, true, true, true, true, true, true, false, false, false] rfl rfl (any_of HT_.out (by kernel_rfl)) (fun _ _ _ h => h) (Or.inr ⟨by rfl, rfl⟩) ?_ ?_
               rotate_left
               ·
                simp only [AP]
                rfl
               refine pure_ (i := 21) (N := some 93) (v := undef) (a' := ?_) #[true, true, true, true, true, true, true, true, true, true, true, true, true, true, true, true, true, true, true, true, true, true, false, false] rfl rfl (any_of HT_.out (by kernel_rfl)) (fun _ _ _ h => h) (Or.inr ⟨by rfl, rfl⟩) ?_ ?_
               rotate_left
               ·
                simp only [AP]
                rfl
               refine pure_ (i := 22) (N := some 94) (v := ?_) (a' := ?_) #[true, true, true, true, true, true, true, true, true, true, true, true, true, true, true, true, true, true, true, true, true, true, true, false] rfl rfl (any_of HT_.out (by kernel_rfl)) (fun _ _ _ h => h) (Or.inl ⟨by rfl, ?_⟩) ?_ ?_
               rotate_left
               ·
                intro w'
                go_simp
                with_reducible rfl
               rotate_left
               ·
                simp only [AP]
                rfl
               refine pure_ (i := 23) (N := some 6) (v := ?_) (a' := ?_) #[true, true, true, true, true, true, true, true, true, true, true, true, true, true, true, true, true, true, true, true, true, true, true, true] rfl rfl (any_of HT_.out (by kernel_rfl)) (fun _ _ _ h => h) (Or.inl ⟨by rfl, ?_⟩) ?_ ?_
               rotate_left
               ·
                intro w'
                go_simp
                with_reducible rfl
               rotate_left
               ·
                simp only [AP]
                rfl
               refine done_ (done_of HT_.out (by kernel_rfl)) ?_
               try go_wp2
               go_ret
               exact ⟨by first | rfl | (simp [errW_none, errW_some] <;> rfl) | (simp [*, errW_none, errW_some] <;> rfl), by repeat (first | (with_reducible first | exact HB.out | apply below_alloc | apply pw_below_drewN | apply below_drew1 | refine below_set ?_ GE416.out | refine below_set ?_ GE421.out) | exact HB.out)⟩
             ·
              rw [if_neg c35] at H
              have c35b0 : (t427 == (wrap64 (t428 + x12_2))) = false := beq_eq_false_iff_ne.mpr c35
              have c35b1 : (t427 != (wrap64 (t428 + x12_2))) = true := bne_iff_ne.mpr c35
              obtain rfl := Option.some.inj H
              obtain ⟨Ao55, co55, eo55⟩ := Kd.R_slice HO_15.out
              subst eo55
              try go_wp2
              have n0_ := Aside0.mk (Kd.R_drew HO_15.out)
              have n1_ := Aside0.mk (Kd.R_drew HO_417000.out)
              have n2_ := Aside0.mk (Kd.R_drew HO_422000.out)
              have n3_ := Aside0.mk (blk_drew BK416.out)
              have n4_ := Aside0.mk (blk_drew BK421.out)
              have n5_ := Aside0.mk (below_drew1 HB.out)
              clear HO_15
              clear HO_417000
              clear HO_422000
              clear BK416
              clear BK421
              clear HB
              have HO_15 := n0_
              have HO_417000 := n1_
              have HO_422000 := n2_
              have BK416 := n3_
              have BK421 := n4_
              have HB := n5_
              clear n0_ n1_ n2_ n3_ n4_ n5_
              refine start_ (n := 24) (S := fun w' => w'.cell? ⟨gb421, 0, none⟩ = some (.slice Ao21 t417.length co21) ∧ w'.cell? ⟨gb416, 0, none⟩ = some (.slice Ao17 t409.length co17)) (ds := []) #[false, false, false, false, false, false, false, false, false, false, false, false, false, false, false, false, false, false, false, false, false, false, false, false] (by kernel_rfl) rfl rfl ⟨(blk_cell BK421.out 0).trans rfl, (blk_cell BK416.out 0).trans rfl⟩ (fun hHeld => ?_); refine with_tabW tegulalaw34_RefcountSums.tab21 tegulalaw34_RefcountSums.bits21 (fun HT_ HW_ => ?_)
              generalize wr.drew = w56 at HO_15 HO_417000 HO_422000 BK416 BK421 HB hHeld ⊢
              refine pure_ (i := 4) (N := some 76) (v := ?_) (a' := ?_) #[false, false, false, false, true, false, false, false, false, false, false, false, false, false, false, false, false, false, false, false, false, false, false, false] rfl rfl (any_of HT_.out (by kernel_rfl)) (fun _ _ _ h => h) (Or.inl ⟨by rfl, ?_⟩) ?_ ?_
              rotate_left
              ·
               intro w'
               go_simp
               with_reducible rfl
              rotate_left
              ·
               simp only [AP]
               rfl
              refine take_ (i := 0) (N := some 72) (v := ?_) (a' := ?_) #[true, false, false, false, true, false, false, false, false, false, false, false, false, false, false, false, false, false, false, false, false, false, false, false] rfl rfl (take_ofW HT_.out HW_.out (by kernel_rfl)) (fun _ _ _ h => h) (Or.inl ⟨by rfl, ?_⟩) hHeld ?_ ?_
              rotate_left
              ·
               rintro w' ⟨s0, s1⟩
               go_simp
               with_reducible rfl
              rotate_left
              ·
               simp only [AP]
               rfl
              refine take_ (i := 2) (N := some 74) (v := ?_) (a' := ?_) #[true, false, true, false, true, false, false, false, false, false, false, false, false, false, false, false, false, false, false, false, false, false, false, false] rfl rfl (take_ofW HT_.out HW_.out (by kernel_rfl)) (fun _ _ _ h => h) (Or.inl ⟨by rfl, ?_⟩) hHeld ?_ ?_
              rotate_left
              ·
               rintro w' ⟨s0, s1⟩
               go_simp
               with_reducible rfl
              rotate_left
              ·
               simp only [AP]
               rfl
              refine one_ (i := 1) (N := some 73) #[true, true, true, false, true, false, false, false, false, false, false, false, false, false, false, false, false, false, false, false, false, false, false, false] rfl rfl (one_of HT_.out (by kernel_rfl)) (by decide) (fun K hK => ?_)
              refine goes_ Try.func19 (by kernel_rfl) rfl #[.agg #[.slice Ao21 t417.length co21]] (by rfl) rfl rfl (by (try simp only [List.map_toArray, List.map_cons, List.map_nil]); first | done | rfl | (simp only [List.length_drop, List.length_take]; rfl)) ?_
              with_reducible refine (refcount_Counts_Total.calls _ _ t417 t427 _ ?side1 ?side2 A33.out).mono ?_
              (case side1 => repeat (first | exact (Kd.R_reads' HO_422000.out).2.2 | (with_reducible refine Kd.C_alloc ?_ _) | (with_reducible refine Kd.C_drewN ?_ _) | (with_reducible refine Kd.C_drew ?_)))
              (case side2 => exact (Kd.R_reads' HO_422000.out).2.1)
              rintro e w57 ⟨rfl, hb⟩
              refine ⟨_, rfl, ?_⟩
              have n0_ := Aside0.mk (Kd.R_below (rU HO_15.out) hb)
              have n1_ := Aside0.mk (Kd.R_below (rU HO_417000.out) hb)
              have n2_ := Aside0.mk (Kd.R_below (rU HO_422000.out) hb)
              have n3_ := Aside0.mk (blk_below (g := gb416) (o := .cells #[.slice Ao17 t409.length co17] 27 (0, 0)) (kU BK416.out) hb)
              have n4_ := Aside0.mk (blk_below (g := gb421) (o := .cells #[.slice Ao21 t417.length co21] 27 (0, 0)) (kU BK421.out) hb)
              have n5_ := Aside0.mk (below_step (by repeat (first | (with_reducible first | exact HB.out | apply below_alloc | apply pw_below_drewN | apply below_drew1 | refine below_set ?_ GE416.out | refine below_set ?_ GE421.out) | exact HB.out)) hb)
              clear HO_15
              clear HO_417000
              clear HO_422000
              clear BK416
              clear BK421
              clear HB
              have HO_15 := n0_
              have HO_417000 := n1_
              have HO_422000 := n2_
              have BK416 := n3_
              have BK421 := n4_
              have HB := n5_
              clear n0_ n1_ n2_ n3_ n4_ n5_
              (try clear hb)
              (try clear hb2)
              (try clear hk)
              (try clear hi)
              refine hK.out _ _ ⟨(blk_cell BK421.out 0).trans rfl, (blk_cell BK416.out 0).trans rfl⟩ (fun hHeld => ?_)
              clear hK K
              refine norm_ (a' := ?_) ?_ ?_
              rotate_left
              ·
               show Act.put _ (some 73) _ = _
               simp only [AP]
               rfl
              refine one_ (i := 3) (N := some 75) #[true, true, true, true, true, false, false, false, false, false, false, false, false, false, false, false, false, false, false, false, false, false, false, false] rfl rfl (one_of HT_.out (by kernel_rfl)) (by decide) (fun K hK => ?_)
              refine goes_ Try.func19 (by kernel_rfl) rfl #[.agg #[.slice Ao17 t409.length co17]] (by rfl) rfl rfl (by (try simp only [List.map_toArray, List.map_cons, List.map_nil]); first | done | rfl | (simp only [List.length_drop, List.length_take]; rfl)) ?_
              with_reducible refine (refcount_Counts_Total.calls _ _ t409 t428 _ ?side1 ?side2 A34.out).mono ?_
              (case side1 => repeat (first | exact (Kd.R_reads' HO_417000.out).2.2 | (with_reducible refine Kd.C_alloc ?_ _) | (with_reducible refine Kd.C_drewN ?_ _) | (with_reducible refine Kd.C_drew ?_)))
              (case side2 => exact (Kd.R_reads' HO_417000.out).2.1)
              rintro e w58 ⟨rfl, hb⟩
              refine ⟨_, rfl, ?_⟩
              have n0_ := Aside0.mk (Kd.R_below (rU HO_15.out) hb)
              have n1_ := Aside0.mk (Kd.R_below (rU HO_417000.out) hb)
              have n2_ := Aside0.mk (Kd.R_below (rU HO_422000.out) hb)
              have n3_ := Aside0.mk (blk_below (g := gb416) (o := .cells #[.slice Ao17 t409.length co17] 27 (0, 0)) (kU BK416.out) hb)
              have n4_ := Aside0.mk (blk_below (g := gb421) (o := .cells #[.slice Ao21 t417.length co21] 27 (0, 0)) (kU BK421.out) hb)
              have n5_ := Aside0.mk (below_step (by repeat (first | (with_reducible first | exact HB.out | apply below_alloc | apply pw_below_drewN | apply below_drew1 | refine below_set ?_ GE416.out | refine below_set ?_ GE421.out) | exact HB.out)) hb)
              clear HO_15
              clear HO_417000
              clear HO_422000
              clear BK416
              clear BK421
              clear HB
              have HO_15 := n0_
              have HO_417000 := n1_
              have HO_422000 := n2_
              have BK416 := n3_
              have BK421 := n4_
              have HB := n5_
              clear n0_ n1_ n2_ n3_ n4_ n5_
              (try clear hb)
              (try clear hb2)
              (try clear hk)
              (try clear hi)
              refine hK.out _ _ ⟨(blk_cell BK421.out 0).trans rfl, (blk_cell BK416.out 0).trans rfl⟩ (fun hHeld => ?_)
              clear hK K
              refine norm_ (a' := ?_) ?_ ?_
              rotate_left
              ·
               show Act.put _ (some 75) _ = _
               simp only [AP]
               rfl
              refine pure_ (i := 5) (N := some 77) (v := ?_) (a' := ?_) #[true, true, true, true, true, true, false, false, false, false, false, false, false, false, false, false, false, false, false, false, false, false, false, false] rfl rfl (any_of HT_.out (by kernel_rfl)) (fun _ _ _ h => h) (Or.inl ⟨by rfl, ?_⟩) ?_ ?_
              rotate_left
              ·
               intro w'
               go_simp
               with_reducible rfl
              rotate_left
              ·
               simp only [AP]
               rfl
              refine pure_ (i := 6) (N := some 78) (v := ?_) (a' := ?_) #[true, true, true, true, true, true, true, false, false, false, false, false, false, false, false, false, false, false, false, false, false, false, false, false] rfl rfl (any_of HT_.out (by kernel_rfl)) (fun _ _ _ h => h) (Or.inl ⟨by rfl, ?_⟩) ?_ ?_
              rotate_left
              ·
               intro w'
               go_simp
               with_reducible rfl
              rotate_left
              ·
               simp only [AP]
               rfl
              refine pure_ (i := 7) (N := some 79) (v := ?_) (a' := ?_) #[true, true, true, true, true, true, true, true, false, false, false, false, false, false, false, false, false, false, false, false, false, false, false, false] rfl rfl (any_of HT_.out (by kernel_rfl)) (fun _ _ _ h => h) (Or.inl ⟨by rfl, ?_⟩) ?_ ?_
              rotate_left
              ·
               intro w'
               go_simp
               with_reducible rfl
              rotate_left
              ·
               simp only [AP]
               rfl
              refine pure_ (i := 8) (N := some 80) (v := undef) (a' := ?_) #[true, true, true, true, true, true, true, true, true, false, false, false, false, false, false, false, false, false, false, false, false, false, false, false] rfl rfl (any_of HT_.out (by kernel_rfl)) (fun _ _ _ h => h) (Or.inr ⟨by rfl, rfl⟩) ?_ ?_
              rotate_left
              ·
               simp only [AP]
               rfl
              refine pure_ (i := 9) (N := some 81) (v := undef) (a' := ?_) #[true, true, true, true, true, true, true, true, true, true, false, false, false, false, false, false, false, false, false, false, false, false, false, false] rfl rfl (any_of HT_.out (by kernel_rfl)) (fun _ _ _ h => h) (Or.inr ⟨by rfl, rfl⟩) ?_ ?_
              rotate_left
              ·
               simp only [AP]
               rfl
              refine pure_ (i := 10) (N := some 82) (v := undef) (a' := ?_) #[true, true, true, true, true, true, true, true, true, true, true, false, false, false, false, false, false, false, false, false, false, false, false, false] rfl rfl (any_of HT_.out (by kernel_rfl)) (fun _ _ _ h => h) (Or.inr ⟨by rfl, rfl⟩) ?_ ?_
              rotate_left
              ·
               simp only [AP]
               rfl
              refine pure_ (i := 11) (N := some 83) (v := undef) (a' := ?_) #[true, true, true, true, true, true, true, true, true, true, true, true, false, false, false, false, false, false, false, false, false, false, false, false] rfl rfl (any_of HT_.out (by kernel_rfl)) (fun _ _ _ h => h) (Or.inr ⟨by rfl, rfl⟩) ?_ ?_
              rotate_left
              ·
               simp only [AP]
               rfl
              refine pure_ (i := 12) (N := some 84) (v := undef) (a' := ?_) #[true, true, true, true, true, true, true, true, true, true, true, true, true, false, false, false, false, false, false, false, false, false, false, false] rfl rfl (any_of HT_.out (by kernel_rfl)) (fun _ _ _ h => h) (Or.inr ⟨by rfl, rfl⟩) ?_ ?_
              rotate_left
              ·
               simp only [AP]
               rfl
              refine pure_ (i := 13) (N := some 85) (v := undef) (a' := ?_) #[true, true, true, true, true, true, true, true, true, true, true, true, true, true, false, false, false, false, false, false, false, false, false, false] rfl rfl (any_of HT_.out (by kernel_rfl)) (fun _ _ _ h => h) (Or.inr ⟨by rfl, rfl⟩) ?_ ?_
              rotate_left
              ·
               simp only [AP]
               rfl
              refine pure_ (i := 14) (N := some 86) (v := undef) (a' := ?_) #[true, true, true, true, true, true, true, true, true, true, true, true, true, true, true, false, false, false, false, false, false, false, false, false] rfl rfl (any_of HT_.out (by kernel_rfl)) (fun _ _ _ h => h) (Or.inr ⟨by rfl, rfl⟩) ?_ ?_
              rotate_left
              ·
               simp only [AP]
               rfl
              refine pure_ (i := 15) (N := some 87) (v := ?_) (a' := ?_) #[true, true, true, true, true, true, true, true, true, true, true, true, true, true, true, true, false, false, false, false, false, false, false, false] rfl rfl (any_of HT_.out (by kernel_rfl)) (fun _ _ _ h => h) (Or.inl ⟨by rfl, ?_⟩) ?_ ?_
              rotate_left
              ·
               intro w'
               go_simp
               with_reducible rfl
              rotate_left
              ·
               simp only [AP]
               rfl
              refine pure_ (i := 16) (N := some 88) (v := ?_) (a' := ?_) #[true, true, true, true, true, true, true, true, true, true, true, true, true, true, true, true, true, false, false, false, false, false, false, false] rfl rfl (any_of HT_.out (by kernel_rfl)) (fun _ _ _ h => h) (Or.inl ⟨by rfl, ?_⟩) ?_ ?_
              rotate_left
              ·
               intro w'
               go_simp
               with_reducible rfl
              rotate_left
              ·
               simp only [AP]
               rfl
              refine pure_ (i := 17) (N := some 89) (v := undef) (a' := ?_) #[true, true, true, true, true, true, true, true, true, true, true, true, true, true, true, true, true, true, false, false, false, false, false, false] rfl rfl (any_of HT_.out (by kernel_rfl)) (fun _ _ _ h => h) (Or.inr ⟨by rfl, rfl⟩) ?_ ?_
              rotate_left
              ·
               simp only [AP]
               rfl
              refine pure_ (i := 18) (N := some 90) (v := undef) (a' := ?_) #[true, true, true, true, true, true, true, true, true, true, true, true, true, true, true, true, true, true, true, false, false, false, false, false] rfl rfl (any_of HT_.out (by kernel_rfl)) (fun _ _ _ h => h) (Or.inr ⟨by rfl, rfl⟩) ?_ ?_
              rotate_left
              ·
               simp only [AP]
               rfl
              refine pure_ (i := 19) (N := some 91) (v := undef) (a' := ?_) #[true, true, true, true, true, true, true, true, true, true, true, true, true, true, true, true, true, true, true, true, false, false, false, false] rfl rfl (any_of HT_.out (by kernel_rfl)) (fun _ _ _ h => h) (Or.inr ⟨by rfl, rfl⟩) ?_ ?_
              rotate_left
              ·
               simp only [AP]
               rfl
              refine pure_ (i := 20) (N := some 92) (v := undef) (a' := ?_) #[true, true, true, true, true, true, true, true, true, true, true, true, true, true, true, true, true, true, true, true, true, false, false, false] rfl rfl (any_of HT_.out (by kernel_rfl)) (fun _ _ _ h => h) (Or.inr ⟨by rfl, rfl⟩) ?_ ?_
              rotate_left
              ·
               simp only [AP]
               rfl
              refine pure_ (i := 21) (N := some 93) (v := undef) (a' := ?_) #[true, true, true, true, true, true, true, true, true, true, true, true, true, true, true, true, true, true, true, true, true, true, false, false] rfl rfl (any_of HT_.out (by kernel_rfl)) (fun _ _ _ h => h) (Or.inr ⟨by rfl, rfl⟩) ?_ ?_
              rotate_left
              ·
               simp only [AP]
               rfl
              refine pure_ (i := 22) (N := some 94) (v := ?_) (a' := ?_) #[true, true, true, true, true, true, true, true, true, true, true, true, true, true, true, true, true, true, true, true, true, true, true, false] rfl rfl (any_of HT_.out (by kernel_rfl)) (fun _ _ _ h => h) (Or.inl ⟨by rfl, ?_⟩) ?_ ?_
              rotate_left
              ·
               intro w'
               go_simp
               with_reducible rfl
              rotate_left
              ·
               simp only [AP]
               rfl
              refine pure_ (i := 23) (N := some 6) (v := ?_) (a' := ?_) #[true, true, true, true, true, true, true, true, true, true, true, true, true, true, true, true, true, true, true, true, true, true, true, true] rfl rfl (any_of HT_.out (by kernel_rfl)) (fun _ _ _ h => h) (Or.inl ⟨by rfl, ?_⟩) ?_ ?_
              rotate_left
              ·
               intro w'
               go_simp
               with_reducible rfl
              rotate_left
              ·
               simp only [AP]
               rfl
              refine done_ (done_of HT_.out (by kernel_rfl)) ?_
              try go_wp2
              go_ret
              exact ⟨by first | rfl | (simp [errW_none, errW_some] <;> rfl) | (simp [*, errW_none, errW_some] <;> rfl), by repeat (first | (with_reducible first | exact HB.out | apply below_alloc | apply pw_below_drewN | apply below_drew1 | refine below_set ?_ GE416.out | refine below_set ?_ GE421.out) | exact HB.out)⟩
      ·
       rw [if_neg c14] at H
       have c14b0 : (t420 == 0) = false := beq_eq_false_iff_ne.mpr c14
       have c14b1 : (t420 != 0) = true := bne_iff_ne.mpr c14
       obtain rfl := Option.some.inj H
       go_wp2_with (first | ((with_reducible refine gate_callee (f := 11) rfl ?_); refine goesL_ (some 30) rfl rfl Try.func11 (by kernel_rfl) rfl #[.int .u8 a0, .slice A1 l1.length c1] rfl (by (try simp only [List.map_toArray, List.map_cons, List.map_nil]); first | done | rfl | (simp only [List.length_drop, List.length_take]; rfl)) ?_; (with_reducible refine (tegulalaw34_build.calls kj5 a0 _ _ l1 t409 t412 true _ ?side1 ?side2 A11.out).mono ?_); (case side1 => exact cU (Kd.C_below HR1.out HB.out)); (case side2 => exact HC1.out); rintro e w59 ⟨v410, v413, rfl, ho0, ho1, hb⟩; refine ⟨_, rfl, ?_⟩; have n0_ := Aside0.mk (Kd.R_lower ho0 (below_size (bU HB.out))); have n1_ := Aside0.mk (Kd.R_lower ho1 (below_size (bU HB.out))); have n2_ := Aside0.mk (below_step (bU HB.out) hb); clear HB; have HO411 := n0_; have HO414 := n1_; have HB := n2_; clear n0_ n1_ n2_; (try clear hb); (try clear hb2); (try clear hk); (try clear hi); (try clear ho0); (try clear ho1)) | ((with_reducible refine gate_dst (N := 7) rfl ?_); (try (refine gate_guard (by rfl) ?_; dsimp only)); refine box_event ?hg (N := 7) ?hd (cs := #[.slice none 0 0]) (t := 27) ?hr ?_; (case hd => rfl); (case hg => rfl); (case hr => first | (go_simp; done) | (go_simp; rfl)); intro gb416 hg w60 hbox hb; have n0_ := Aside0.mk (Kd.R_below (rU HO411.out) hb); have n1_ := Aside0.mk (Kd.R_below (rU HO414.out) hb); have n2_ := Aside0.mk (below_step (bU HB.out) hb); have n3_ := Aside0.mk (hbox); have n4_ := Aside0.mk ((by rw [hg]; exact (below_size (bU HB.out)) : w.heap.size ≤ gb416)); have n5_ := Aside0.mk ((by rw [hg]; exact (below_size (bU HB.out)) : w.heap.size ≤ gb416)); clear HO411; clear HO414; clear HB; have HO411 := n0_; have HO414 := n1_; have HB := n2_; have BK416 := n3_; have GW416 := n4_; have GE416 := n5_; clear n0_ n1_ n2_ n3_ n4_ n5_; clear hb hbox hg; obtain ⟨Ao61, co61, eo61⟩ := Kd.R_slice HO411.out; subst eo61; have hcz62_0 : w60.cell? ⟨gb416, 0, none⟩ = some (.slice none 0 0) := (blk_cell BK416.out 0).trans rfl; have hfz62_0 := blk_frozen BK416.out 0) | ((with_reducible refine gate_callee (f := 12) rfl ?_); refine goesL_ (some 39) rfl rfl Try.func12 (by kernel_rfl) rfl #[.agg #[.slice Ao61 t409.length co61], .slice A2 l2.length c2] rfl (by (try simp only [List.map_toArray, List.map_cons, List.map_nil]); first | done | rfl | (simp only [List.length_drop, List.length_take]; rfl)) ?_; (with_reducible refine (refcount_Counts_Add.calls kj5 _ _ t409 _ _ l2 t417 t420 _ ?side1 ?side2 ?side3 ?side4 A13.out).mono ?_); (case side1 => refine (Kd.R_reads' (e := 3) (base := w.heap.size) (ok := fun k_ => some k_ ≠ (v413 : Value).ownBlock) (n := t409.length) (c := co61) ?_).2.2; exact (rU (Kd.R_mono (Kd.R_far (p := ⟨gb416, 0, none⟩) (Kd.R_types HO411.out BK416.out (by decide)) (fun _ hk => hk.2) (.slice Ao61 t409.length co61)) (fun _ h_ => h_.1)))); (case side2 => exact (Kd.R_reads' HO411.out).2.1); (case side3 => exact Kd.C_below HR2.out (by repeat (first | (with_reducible first | exact HB.out | apply below_alloc | apply pw_below_drewN | apply below_drew1 | refine below_set ?_ GE416.out) | exact HB.out))); (case side4 => exact HC2.out); rintro e w63 ⟨v418, rfl, ho0, hb⟩; refine ⟨_, rfl, ?_⟩; have n0_ := Aside0.mk (Kd.R_elder' (rU (Kd.R_mono (Kd.R_far (p := ⟨gb416, 0, none⟩) (Kd.R_types HO411.out BK416.out (by decide)) (fun _ hk => hk.2) (.slice Ao61 t409.length co61)) (fun _ h_ => h_.1))) (Kd.R_base ho0) hb); have n1_ := Aside0.mk (Kd.R_elder' (rU (Kd.R_mono (Kd.R_far (p := ⟨gb416, 0, none⟩) (Kd.R_types HO414.out BK416.out (by decide)) (fun _ hk => hk.2) (.slice Ao61 t409.length co61)) (fun _ h_ => h_.1))) (Kd.R_base ho0) hb); have n2_ := Aside0.mk (Kd.R_lower (Kd.R_new' (Kd.R_new' ho0 (Kd.R_lt (rU (Kd.R_mono (Kd.R_far (p := ⟨gb416, 0, none⟩) (Kd.R_types HO411.out BK416.out (by decide)) (fun _ hk => hk.2) (.slice Ao61 t409.length co61)) (fun _ h_ => h_.1))))) (Kd.R_lt (rU (Kd.R_mono (Kd.R_far (p := ⟨gb416, 0, none⟩) (Kd.R_types HO414.out BK416.out (by decide)) (fun _ hk => hk.2) (.slice Ao61 t409.length co61)) (fun _ h_ => h_.1))))) (below_size (by repeat (first | (with_reducible first | exact HB.out | apply below_alloc | apply pw_below_drewN | apply below_drew1 | refine below_set ?_ GE416.out) | exact HB.out)))); have n3_ := Aside0.mk (blk_below (g := gb416) (o := .cells #[.slice Ao61 t409.length co61] 27 (0, 0)) (by (with_reducible repeat (first | refine blk_drewN ?_ _ | refine blk_drew ?_ | refine blk_alloc ?_ _)); refine blk_put (cs := #[.slice none 0 0]) ?_ 0 _ rfl; (with_reducible repeat (first | refine blk_drewN ?_ _ | refine blk_drew ?_ | refine blk_alloc ?_ _)); exact BK416.out) hb); have n4_ := Aside0.mk (below_step (by repeat (first | (with_reducible first | exact HB.out | apply below_alloc | apply pw_below_drewN | apply below_drew1 | refine below_set ?_ GE416.out) | exact HB.out)) hb); clear HO411; clear HO414; clear BK416; clear HB; have HO411 := n0_; have HO414 := n1_; have HO419 := n2_; have BK416 := n3_; have HB := n4_; clear n0_ n1_ n2_ n3_ n4_; (try clear hb); (try clear hb2); (try clear hk); (try clear hi); (try clear ho0)) | ((with_reducible refine gate_dst (N := 10) rfl ?_); (try (refine gate_guard (by rfl) ?_; dsimp only)); refine box_event ?hg (N := 10) ?hd (cs := #[.slice none 0 0]) (t := 27) ?hr ?_; (case hd => rfl); (case hg => rfl); (case hr => first | (go_simp; done) | (go_simp; rfl)); intro gb421 hg w64 hbox hb; have n0_ := Aside0.mk (Kd.R_below (rU HO411.out) hb); have n1_ := Aside0.mk (Kd.R_below (rU HO414.out) hb); have n2_ := Aside0.mk (Kd.R_below (rU HO419.out) hb); have n3_ := Aside0.mk (blk_below (g := gb416) (o := .cells #[.slice Ao61 t409.length co61] 27 (0, 0)) (kU BK416.out) hb); have n4_ := Aside0.mk (below_step (by repeat (first | (with_reducible first | exact HB.out | apply below_alloc | apply pw_below_drewN | apply below_drew1 | refine below_set ?_ GE416.out) | exact HB.out)) hb); have n5_ := Aside0.mk (hbox); have n6_ := Aside0.mk ((by rw [hg]; exact (below_size (by repeat (first | (with_reducible first | exact HB.out | apply below_alloc | apply pw_below_drewN | apply below_drew1 | refine below_set ?_ GE416.out) | exact HB.out))) : w.heap.size ≤ gb421)); have n7_ := Aside0.mk ((by rw [hg]; exact (below_size (by repeat (first | (with_reducible first | exact HB.out | apply below_alloc | apply pw_below_drewN | apply below_drew1 | refine below_set ?_ GE416.out) | exact HB.out))) : w.heap.size ≤ gb421)); have n8_ := Aside0.mk ((by rw [hg]; exact Nat.ne_of_lt (blk_lt (g := gb416) (o := .cells #[.slice Ao61 t409.length co61] 27 (0, 0)) (kU BK416.out)) : gb416 ≠ gb421)); have n9_ := Aside0.mk ((by rw [hg]; exact Nat.ne_of_gt (blk_lt (g := gb416) (o := .cells #[.slice Ao61 t409.length co61] 27 (0, 0)) (kU BK416.out)) : gb421 ≠ gb416)); clear HO411; clear HO414; clear HO419; clear BK416; clear HB; have HO411 := n0_; have HO414 := n1_; have HO419 := n2_; have BK416 := n3_; have HB := n4_; have BK421 := n5_; have GW421 := n6_; have GE421 := n7_; have NB416_421 := n8_; have NB421_416 := n9_; clear n0_ n1_ n2_ n3_ n4_ n5_ n6_ n7_ n8_ n9_; clear hb hbox hg; obtain ⟨Ao65, co65, eo65⟩ := Kd.R_slice HO419.out; subst eo65; have hnb66 := NB421_416.out; have hnc66 := NB416_421.out; have hcz67_0 : w64.cell? ⟨gb421, 0, none⟩ = some (.slice none 0 0) := (blk_cell BK421.out 0).trans rfl; have hfz67_0 := blk_frozen BK421.out 0))
       go_ret
       exact ⟨by first | rfl | (simp [errW_none, errW_some] <;> rfl) | (simp [*, errW_none, errW_some] <;> rfl), by repeat (first | (with_reducible first | exact HB.out | apply below_alloc | apply pw_below_drewN | apply below_drew1 | refine below_set ?_ GE416.out | refine below_set ?_ GE421.out) | exact HB.out)⟩
     ·
      replace c12 := Bool.eq_false_iff.mpr c12
      subst c12
      have H1 : (some false) = some r := by rw [if_neg (show ¬ (false = true) by decide)] at H; exact H
      clear H
      have H := H1
      clear H1
      obtain rfl := Option.some.inj H
      go_wp2_with (first | ((with_reducible refine gate_callee (f := 11) rfl ?_); refine goesL_ (some 30) rfl rfl Try.func11 (by kernel_rfl) rfl #[.int .u8 a0, .slice A1 l1.length c1] rfl (by (try simp only [List.map_toArray, List.map_cons, List.map_nil]); first | done | rfl | (simp only [List.length_drop, List.length_take]; rfl)) ?_; (with_reducible refine (tegulalaw34_build.calls kj5 a0 _ _ l1 t409 t412 false _ ?side1 ?side2 A11.out).mono ?_); (case side1 => exact cU (Kd.C_below HR1.out HB.out)); (case side2 => exact HC1.out); rintro e w68 ⟨v410, v413, rfl, ho0, ho1, hb⟩; refine ⟨_, rfl, ?_⟩; have n0_ := Aside0.mk (Kd.R_lower ho0 (below_size (bU HB.out))); have n1_ := Aside0.mk (Kd.R_lower ho1 (below_size (bU HB.out))); have n2_ := Aside0.mk (below_step (bU HB.out) hb); clear HB; have HO411 := n0_; have HO414 := n1_; have HB := n2_; clear n0_ n1_ n2_; (try clear hb); (try clear hb2); (try clear hk); (try clear hi); (try clear ho0); (try clear ho1)) | ((with_reducible refine gate_dst (N := 7) rfl ?_); (try (refine gate_guard (by rfl) ?_; dsimp only)); refine box_event ?hg (N := 7) ?hd (cs := #[.slice none 0 0]) (t := 27) ?hr ?_; (case hd => rfl); (case hg => rfl); (case hr => first | (go_simp; done) | (go_simp; rfl)); intro gb416 hg w69 hbox hb; have n0_ := Aside0.mk (Kd.R_below (rU HO411.out) hb); have n1_ := Aside0.mk (Kd.R_below (rU HO414.out) hb); have n2_ := Aside0.mk (below_step (bU HB.out) hb); have n3_ := Aside0.mk (hbox); have n4_ := Aside0.mk ((by rw [hg]; exact (below_size (bU HB.out)) : w.heap.size ≤ gb416)); have n5_ := Aside0.mk ((by rw [hg]; exact (below_size (bU HB.out)) : w.heap.size ≤ gb416)); clear HO411; clear HO414; clear HB; have HO411 := n0_; have HO414 := n1_; have HB := n2_; have BK416 := n3_; have GW416 := n4_; have GE416 := n5_; clear n0_ n1_ n2_ n3_ n4_ n5_; clear hb hbox hg; obtain ⟨Ao70, co70, eo70⟩ := Kd.R_slice HO411.out; subst eo70; have hcz71_0 : w69.cell? ⟨gb416, 0, none⟩ = some (.slice none 0 0) := (blk_cell BK416.out 0).trans rfl; have hfz71_0 := blk_frozen BK416.out 0))
      go_ret
      exact ⟨by first | rfl | (simp [errW_none, errW_some] <;> rfl) | (simp [*, errW_none, errW_some] <;> rfl), by repeat (first | (with_reducible first | exact HB.out | apply below_alloc | apply pw_below_drewN | apply below_drew1 | refine below_set ?_ GE416.out) | exact HB.out)⟩
 ·
  replace c5 := Bool.eq_false_iff.mpr c5
  subst c5
  have H1 : (some false) = some r := by rw [if_neg (show ¬ (false = true) by decide)] at H; exact H
  clear H
  have H := H1
  clear H1
  obtain rfl := Option.some.inj H
  go_enter Try.func5, Try.ntmps5
  go_wp2_with (first | ((with_reducible refine gate_callee (f := 9) rfl ?_); refine goesL_ (some 17) rfl rfl Try.func9 (by kernel_rfl) rfl #[] rfl (by (try simp only [List.map_toArray, List.map_cons, List.map_nil]); first | done | rfl | (simp only [List.length_drop, List.length_take]; rfl)) ?_; (with_reducible refine (tegulalaw34_awake.calls k  false _ A4.out).mono ?_); rintro e w72 ⟨rfl, hb⟩; refine ⟨_, rfl, ?_⟩; have n0_ := Aside0.mk (below_step (bU HB.out) hb); clear HB; have HB := n0_; clear n0_; (try clear hb); (try clear hb2); (try clear hk); (try clear hi)))
  go_ret
  exact ⟨by first | rfl | (simp [errW_none, errW_some] <;> rfl) | (simp [*, errW_none, errW_some] <;> rfl), bU HB.out⟩

end Go.Proofs.Ytnloofhpdlggnaa.PRefcount
