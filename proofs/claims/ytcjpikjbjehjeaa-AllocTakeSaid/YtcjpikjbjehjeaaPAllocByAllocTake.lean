-- Written for this claim by a program of this session (wip/), out of the translation's own print: Lean checks it
import Derived.Test.YtcjpikjbjehjeaaPAllocBx0
import Derived.Test.YtcjpikjbjehjeaaPAllocBx9
import Derived.Test.YtcjpikjbjehjeaaPAllocBx10
import Derived.Test.YtcjpikjbjehjeaaPAllocBx11
import Derived.Test.YtcjpikjbjehjeaaPAllocBx14
import Derived.Test.YtcjpikjbjehjeaaPAllocBx17
import Derived.Test.YtcjpikjbjehjeaaPAllocBx20
namespace Go.Proofs.Ytcjpikjbjehjeaa.PAllocB
open Go.RowKit Go.Proofs.YtcjpikjbjehjeaaW.PrintWords Go.Proofs.YtcjpikjbjehjeaaW.PrintLast Go.Proofs.YtcjpikjbjehjeaaW.PrintMore
attribute [local go_sem] max2_int min2_int max_two min_two max_three min_three max_four min_four   -- for this text's walks alone
set_option linter.unusedVariables false
set_option linter.unusedSimpArgs false

/-! ### tegulalaw35_AllocTake: function 6 -/
def tegulalaw35_AllocTake.j0 : Nat → List Bool → Int → List Bool → Bool → Int → Int → Int → List (S53) → Option (Bool)
 | 0, _, _, _, _, _, _, _, _ => none
 | k + 1, x8, x12, x14, x60, x596000, x596001, x616000, x616001 => if x60 = true then (some false) else (if x12 = 0 then ((tegulalaw35_same.f k x616000 x616001 x14).bind fun t624 => (if t624 = true then ((tegularef35_Map_Free.f k x8).bind fun t625 => (some (decide (x596000 ≤ t625)))) else (some false))) else (if x12 = 1 then (some true) else ((tegularef35_Map_Free.f k x8).bind fun t626 => (some (decide (x596000 > t626))))))
def tegulalaw35_AllocTake.f (k : Nat) (a0 : Int) (l1 : List (S57)) (a2_0 : Int) (a2_1 : Int) : Option (Bool) := (tegulalaw35_awake.f k).bind fun t596 => (if t596 = true then ((tegulalaw35_few.f k l1).bind fun t597 => (if t597 = true then ((tegulalaw35_build.f k a0 l1).bind fun bt598 => ((alloc_Map_Take.f k bt598.1 bt598.2.1 a2_0 a2_1).bind fun bt607 => ((tegularef35_Map_Take.f k bt598.2.2.1 a2_0 a2_1).bind fun bt616 => (if bt598.2.2.2 = true then (if bt607.2.2.2 = bt616.2.2 then ((tegularef32_Same.f k bt607.1 bt616.1).bind fun t623 => (tegulalaw35_AllocTake.j0 k bt598.2.2.1 bt607.2.2.2 bt616.2.1 (!t623) a2_0 a2_1 bt607.2.1 bt607.2.2.1)) else (tegulalaw35_AllocTake.j0 k bt598.2.2.1 bt607.2.2.2 bt616.2.1 true a2_0 a2_1 bt607.2.1 bt607.2.2.1)) else (tegulalaw35_AllocTake.j0 k bt598.2.2.1 bt607.2.2.2 bt616.2.1 true a2_0 a2_1 bt607.2.1 bt607.2.2.1))))) else (some true))) else (some false))
theorem tegulalaw35_AllocTake.mono_l : ∀ k, (∀ y0 y1 y2 y3 y4 y5 y6 y7, LeO (tegulalaw35_AllocTake.j0 k y0 y1 y2 y3 y4 y5 y6 y7) (tegulalaw35_AllocTake.j0 (k + 1) y0 y1 y2 y3 y4 y5 y6 y7))
 | 0 => fun _ _ _ _ _ _ _ _ r h => by simp [tegulalaw35_AllocTake.j0] at h
 | k + 1 => by
  have ih0 := tegulalaw35_AllocTake.mono_l k
  ·
   intro y0 y1 y2 y3 y4 y5 y6 y7
   unfold tegulalaw35_AllocTake.j0
   repeat' first
   | (with_reducible exact ih0 _ _ _ _ _ _ _ _)
   | (with_reducible exact alloc_Map_Take.mono _ _ _ _ _)
   | (with_reducible exact tegulalaw35_awake.mono _)
   | (with_reducible exact tegulalaw35_build.mono _ _ _)
   | (with_reducible exact tegulalaw35_few.mono _ _)
   | (with_reducible exact tegulalaw35_same.mono _ _ _ _)
   | (with_reducible exact tegularef32_Same.mono _ _ _)
   | (with_reducible exact tegularef35_Map_Free.mono _ _)
   | (with_reducible exact tegularef35_Map_Take.mono _ _ _ _)
   | (with_reducible exact LeO.refl _)
   | (with_reducible exact LeO.none _)
   | (with_reducible refine LeO.ite ?_ ?_)
   | (with_reducible refine LeO.bind ?_ (fun _ => ?_))
   | exact ih0 _ _ _ _ _ _ _ _
   | exact alloc_Map_Take.mono _ _ _ _ _
   | exact tegulalaw35_awake.mono _
   | exact tegulalaw35_build.mono _ _ _
   | exact tegulalaw35_few.mono _ _
   | exact tegulalaw35_same.mono _ _ _ _
   | exact tegularef32_Same.mono _ _ _
   | exact tegularef35_Map_Free.mono _ _
   | exact tegularef35_Map_Take.mono _ _ _ _
   | exact LeO.none _
   | refine LeO.ite ?_ ?_
   | refine LeO.bind ?_ (fun _ => ?_)
theorem tegulalaw35_AllocTake.mono : ∀ a0 a1 a2 a3 k, LeO (tegulalaw35_AllocTake.f k a0 a1 a2 a3) (tegulalaw35_AllocTake.f (k + 1) a0 a1 a2 a3) := by
 intro a0 a1 a2 a3 k
 have ih0 := tegulalaw35_AllocTake.mono_l k
 unfold tegulalaw35_AllocTake.f
 repeat' first
   | (with_reducible exact ih0 _ _ _ _ _ _ _ _)
   | (with_reducible exact alloc_Map_Take.mono _ _ _ _ _)
   | (with_reducible exact tegulalaw35_awake.mono _)
   | (with_reducible exact tegulalaw35_build.mono _ _ _)
   | (with_reducible exact tegulalaw35_few.mono _ _)
   | (with_reducible exact tegulalaw35_same.mono _ _ _ _)
   | (with_reducible exact tegularef32_Same.mono _ _ _)
   | (with_reducible exact tegularef35_Map_Free.mono _ _)
   | (with_reducible exact tegularef35_Map_Take.mono _ _ _ _)
   | (with_reducible exact LeO.refl _)
   | (with_reducible exact LeO.none _)
   | (with_reducible refine LeO.ite ?_ ?_)
   | (with_reducible refine LeO.bind ?_ (fun _ => ?_))
   | exact ih0 _ _ _ _ _ _ _ _
   | exact alloc_Map_Take.mono _ _ _ _ _
   | exact tegulalaw35_awake.mono _
   | exact tegulalaw35_build.mono _ _ _
   | exact tegulalaw35_few.mono _ _
   | exact tegulalaw35_same.mono _ _ _ _
   | exact tegularef32_Same.mono _ _ _
   | exact tegularef35_Map_Free.mono _ _
   | exact tegularef35_Map_Take.mono _ _ _ _
   | exact LeO.none _
   | refine LeO.ite ?_ ?_
   | refine LeO.bind ?_ (fun _ => ?_)
def tegulalaw35_AllocTake.T11 : Bool × List (List Nat × List Nat) := (true, [([], []), ([0], [0]), ([1], [1]), ([2], [2]), ([3, 2], [2, 3]), ([2], [2]), ([5, 2, 2], [2, 5]), ([4, 6, 2], [2, 4, 6]), ([2, 7], [2, 7]), ([8, 6, 0, 1, 2, 3, 4, 5, 6, 7, 8], [8])])
def tegulalaw35_AllocTake.B11 : List Nat := [0, 1, 3, 7, 15, 7, 39, 127, 255, 511]
theorem tegulalaw35_AllocTake.tab11 : rtab .any (opsOf Try.f6 11) = tegulalaw35_AllocTake.T11 := by kernel_rfl
theorem tegulalaw35_AllocTake.bits11 : waitsOk tegulalaw35_AllocTake.T11.2 tegulalaw35_AllocTake.B11 = true := by kernel_rfl
def tegulalaw35_AllocTake.T12 : Bool × List (List Nat × List Nat) := (true, [([], []), ([], []), ([0, 1], [0, 1]), ([2, 2], [2]), ([3], [3]), ([4, 3], [3, 4]), ([3], [3]), ([6, 3, 3], [3, 6]), ([5, 7, 3], [3, 5, 7]), ([3, 8], [3, 8]), ([9, 7, 0, 1, 2, 3, 4, 5, 6, 7, 8, 9], [9])])
def tegulalaw35_AllocTake.B12 : List Nat := [0, 0, 3, 7, 15, 31, 15, 79, 255, 511, 1023]
theorem tegulalaw35_AllocTake.tab12 : rtab .any (opsOf Try.f6 12) = tegulalaw35_AllocTake.T12 := by kernel_rfl
theorem tegulalaw35_AllocTake.bits12 : waitsOk tegulalaw35_AllocTake.T12.2 tegulalaw35_AllocTake.B12 = true := by kernel_rfl
set_option maxHeartbeats 8000000 in
set_option maxRecDepth 100000 in
theorem tegulalaw35_AllocTake.calls (k : Nat) (a0 : Int) (A1 : Option Addr) (c1 : Nat) (l1 : List (S57)) (a2_0 : Int) (a2_1 : Int) (r : Bool) (w : World) (hr1 : Kd.C k57 w A1 l1.length l1) (hc1 : l1.length ≤ c1) (h : tegulalaw35_AllocTake.f k a0 l1 a2_0 a2_1 = some r) (h0 : r = true := by rfl) :
  Calls Try.prog 6 #[.int .u8 a0, .slice A1 l1.length c1, .agg #[.int .i64 a2_0, .int .i64 a2_1]] w fun e w' => e = .returned (.bool r) ∧ Below w.heap.size w w' := by
 have h0_ := Aa (h0)
 clear h0
 have hu46 := Try.underlying46
 have hu26 := Try.underlying26
 have HR1 := Aside0.mk hr1
 have HC1 := Aside0.mk hc1
 clear hr1 hc1
 have HB := Aa (Below.refl w.heap.size w)
 have H : ((tegulalaw35_awake.f k).bind fun t596 => (if t596 = true then ((tegulalaw35_few.f k l1).bind fun t597 => (if t597 = true then ((tegulalaw35_build.f k a0 l1).bind fun bt598 => ((alloc_Map_Take.f k bt598.1 bt598.2.1 a2_0 a2_1).bind fun bt607 => ((tegularef35_Map_Take.f k bt598.2.2.1 a2_0 a2_1).bind fun bt616 => (if bt598.2.2.2 = true then (if bt607.2.2.2 = bt616.2.2 then ((tegularef32_Same.f k bt607.1 bt616.1).bind fun t623 => (tegulalaw35_AllocTake.j0 k bt598.2.2.1 bt607.2.2.2 bt616.2.1 (!t623) a2_0 a2_1 bt607.2.1 bt607.2.2.1)) else (tegulalaw35_AllocTake.j0 k bt598.2.2.1 bt607.2.2.2 bt616.2.1 true a2_0 a2_1 bt607.2.1 bt607.2.2.1)) else (tegulalaw35_AllocTake.j0 k bt598.2.2.1 bt607.2.2.2 bt616.2.1 true a2_0 a2_1 bt607.2.1 bt607.2.2.1))))) else (some true))) else (some false))) = some r := h
 clear h
 replace H := Option.bind_eq_some_iff.mp H
 obtain ⟨t596, A40, H⟩ := H
 replace H : (if t596 = true then ((tegulalaw35_few.f k l1).bind fun t597 => (if t597 = true then ((tegulalaw35_build.f k a0 l1).bind fun bt598 => ((alloc_Map_Take.f k bt598.1 bt598.2.1 a2_0 a2_1).bind fun bt607 => ((tegularef35_Map_Take.f k bt598.2.2.1 a2_0 a2_1).bind fun bt616 => (if bt598.2.2.2 = true then (if bt607.2.2.2 = bt616.2.2 then ((tegularef32_Same.f k bt607.1 bt616.1).bind fun t623 => (tegulalaw35_AllocTake.j0 k bt598.2.2.1 bt607.2.2.2 bt616.2.1 (!t623) a2_0 a2_1 bt607.2.1 bt607.2.2.1)) else (tegulalaw35_AllocTake.j0 k bt598.2.2.1 bt607.2.2.2 bt616.2.1 true a2_0 a2_1 bt607.2.1 bt607.2.2.1)) else (tegulalaw35_AllocTake.j0 k bt598.2.2.1 bt607.2.2.2 bt616.2.1 true a2_0 a2_1 bt607.2.1 bt607.2.2.1))))) else (some true))) else (some false)) = some r := H
 have A4 := Aside0.mk A40
 clear A40
 by_cases c5 : t596 = true
 ·
  subst c5
  have H1 : ((tegulalaw35_few.f k l1).bind fun t597 => (if t597 = true then ((tegulalaw35_build.f k a0 l1).bind fun bt598 => ((alloc_Map_Take.f k bt598.1 bt598.2.1 a2_0 a2_1).bind fun bt607 => ((tegularef35_Map_Take.f k bt598.2.2.1 a2_0 a2_1).bind fun bt616 => (if bt598.2.2.2 = true then (if bt607.2.2.2 = bt616.2.2 then ((tegularef32_Same.f k bt607.1 bt616.1).bind fun t623 => (tegulalaw35_AllocTake.j0 k bt598.2.2.1 bt607.2.2.2 bt616.2.1 (!t623) a2_0 a2_1 bt607.2.1 bt607.2.2.1)) else (tegulalaw35_AllocTake.j0 k bt598.2.2.1 bt607.2.2.2 bt616.2.1 true a2_0 a2_1 bt607.2.1 bt607.2.2.1)) else (tegulalaw35_AllocTake.j0 k bt598.2.2.1 bt607.2.2.2 bt616.2.1 true a2_0 a2_1 bt607.2.1 bt607.2.2.1))))) else (some true))) = some r := by rw [if_pos rfl] at H; exact H
  clear H
  have H := H1
  clear H1
  replace H := Option.bind_eq_some_iff.mp H
  obtain ⟨t597, A60, H⟩ := H
  replace H : (if t597 = true then ((tegulalaw35_build.f k a0 l1).bind fun bt598 => ((alloc_Map_Take.f k bt598.1 bt598.2.1 a2_0 a2_1).bind fun bt607 => ((tegularef35_Map_Take.f k bt598.2.2.1 a2_0 a2_1).bind fun bt616 => (if bt598.2.2.2 = true then (if bt607.2.2.2 = bt616.2.2 then ((tegularef32_Same.f k bt607.1 bt616.1).bind fun t623 => (tegulalaw35_AllocTake.j0 k bt598.2.2.1 bt607.2.2.2 bt616.2.1 (!t623) a2_0 a2_1 bt607.2.1 bt607.2.2.1)) else (tegulalaw35_AllocTake.j0 k bt598.2.2.1 bt607.2.2.2 bt616.2.1 true a2_0 a2_1 bt607.2.1 bt607.2.2.1)) else (tegulalaw35_AllocTake.j0 k bt598.2.2.1 bt607.2.2.2 bt616.2.1 true a2_0 a2_1 bt607.2.1 bt607.2.2.1))))) else (some true)) = some r := H
  have A6 := Aside0.mk A60
  clear A60
  by_cases c7 : t597 = true
  ·
   subst c7
   have H1 : ((tegulalaw35_build.f k a0 l1).bind fun bt598 => ((alloc_Map_Take.f k bt598.1 bt598.2.1 a2_0 a2_1).bind fun bt607 => ((tegularef35_Map_Take.f k bt598.2.2.1 a2_0 a2_1).bind fun bt616 => (if bt598.2.2.2 = true then (if bt607.2.2.2 = bt616.2.2 then ((tegularef32_Same.f k bt607.1 bt616.1).bind fun t623 => (tegulalaw35_AllocTake.j0 k bt598.2.2.1 bt607.2.2.2 bt616.2.1 (!t623) a2_0 a2_1 bt607.2.1 bt607.2.2.1)) else (tegulalaw35_AllocTake.j0 k bt598.2.2.1 bt607.2.2.2 bt616.2.1 true a2_0 a2_1 bt607.2.1 bt607.2.2.1)) else (tegulalaw35_AllocTake.j0 k bt598.2.2.1 bt607.2.2.2 bt616.2.1 true a2_0 a2_1 bt607.2.1 bt607.2.2.1))))) = some r := by rw [if_pos rfl] at H; exact H
   clear H
   have H := H1
   clear H1
   replace H := Option.bind_eq_some_iff.mp H
   obtain ⟨⟨t598, t599, t602, t605⟩, A80, H⟩ := H
   replace H : ((alloc_Map_Take.f k t598 t599 a2_0 a2_1).bind fun bt607 => ((tegularef35_Map_Take.f k t602 a2_0 a2_1).bind fun bt616 => (if t605 = true then (if bt607.2.2.2 = bt616.2.2 then ((tegularef32_Same.f k bt607.1 bt616.1).bind fun t623 => (tegulalaw35_AllocTake.j0 k t602 bt607.2.2.2 bt616.2.1 (!t623) a2_0 a2_1 bt607.2.1 bt607.2.2.1)) else (tegulalaw35_AllocTake.j0 k t602 bt607.2.2.2 bt616.2.1 true a2_0 a2_1 bt607.2.1 bt607.2.2.1)) else (tegulalaw35_AllocTake.j0 k t602 bt607.2.2.2 bt616.2.1 true a2_0 a2_1 bt607.2.1 bt607.2.2.1)))) = some r := H
   have A8 := Aside0.mk A80
   clear A80
   replace H := Option.bind_eq_some_iff.mp H
   obtain ⟨⟨t607, t610, t611, t614⟩, A90, H⟩ := H
   replace H : ((tegularef35_Map_Take.f k t602 a2_0 a2_1).bind fun bt616 => (if t605 = true then (if t614 = bt616.2.2 then ((tegularef32_Same.f k t607 bt616.1).bind fun t623 => (tegulalaw35_AllocTake.j0 k t602 t614 bt616.2.1 (!t623) a2_0 a2_1 t610 t611)) else (tegulalaw35_AllocTake.j0 k t602 t614 bt616.2.1 true a2_0 a2_1 t610 t611)) else (tegulalaw35_AllocTake.j0 k t602 t614 bt616.2.1 true a2_0 a2_1 t610 t611))) = some r := H
   have A9 := Aside0.mk A90
   clear A90
   replace H := Option.bind_eq_some_iff.mp H
   obtain ⟨⟨t616, t617, t618⟩, A100, H⟩ := H
   replace H : (if t605 = true then (if t614 = t618 then ((tegularef32_Same.f k t607 t616).bind fun t623 => (tegulalaw35_AllocTake.j0 k t602 t614 t617 (!t623) a2_0 a2_1 t610 t611)) else (tegulalaw35_AllocTake.j0 k t602 t614 t617 true a2_0 a2_1 t610 t611)) else (tegulalaw35_AllocTake.j0 k t602 t614 t617 true a2_0 a2_1 t610 t611)) = some r := H
   have A10 := Aside0.mk A100
   clear A100
   have HC11 := Aside0.mk H
   clear H
   go_enter Try.func6, Try.ntmps6
   go_upto_region 8 with (first | ((with_reducible refine gD 5 ?_); refine bE #[.int .i64 a2_0, .int .i64 a2_1] 46 ?_; intro gb595 hg w12 hbox hb; have BK595 := Aa (hbox); have GW595 := gU HB hg; have GE595 := gU HB hg; have iE595 := Nonempty.intro GE595.1; replace HB := sU HB hb; clear hb hbox hg) | ((with_reducible refine gC 10 ?_); refine gL 16 Try.func10 #[] ?_; (with_reducible refine (tegulalaw35_awake.calls k  true _ A4.1).mono ?_); rintro e w13 ⟨rfl, hb⟩; refine ⟨_, rfl, ?_⟩; replace BK595 := kB BK595 hb; replace HB := sB HB hb; (try clear hb); (try clear hk)) | ((with_reducible refine gC 20 ?_); refine gL 19 Try.func20 #[.slice A1 l1.length c1] ?_; (with_reducible refine (tegulalaw35_few.calls k _ _ l1 true _ ?side1 ?side2 A6.1).mono ?_); (case side1 => exact cU (Kd.C_below HR1.1 HB.1)); (case side2 => exact HC1.1); rintro e w' ⟨rfl, ⟨nd, rfl⟩⟩; refine ⟨_, rfl, ?_⟩; (try (rw [drewN_self w13]; generalize hq_ : World.drewN w13 _ = w13; have n0_ : Aside0 (w13.heap[gb595]? = some (.cells #[.int .i64 a2_0, .int .i64 a2_1] 46 (0, 0))) := ⟨by rw [← hq_]; exact (kU BK595.1)⟩; have n1_ : Aside0 (Below w.heap.size w w13) := ⟨by rw [← hq_]; exact (bS HB.1)⟩; clear BK595 HB hq_; have BK595 := n0_; have HB := n1_; clear n0_ n1_))) | ((with_reducible refine gC 21 ?_); refine gL 24 Try.func21 #[.int .u8 a0, .slice A1 l1.length c1] ?_; (with_reducible refine (tegulalaw35_build.calls k a0 _ _ l1 t598 t599 t602 t605 _ ?side1 ?side2 A8.1).mono ?_); (case side1 => exact cU (Kd.C_below HR1.1 HB.1)); (case side2 => exact HC1.1); rintro e w14 ⟨v600, v603, rfl, ho0, ho1, hb⟩; refine ⟨_, rfl, ?_⟩; have HO601 := Aa (Kd.V_lower (Kd.V_mono (ok' := fun k_ => k_ ≠ gb595) ho0 (fun k_ hk_ => (Kd.freshB (g := gb595) (o := .cells #[.int .i64 a2_0, .int .i64 a2_1] 46 (0, 0)) (kU BK595.1) k_ hk_))) (below_size (bS HB.1))); have HO604 := Aa (Kd.V_lower (Kd.V_mono (ok' := fun k_ => k_ ≠ gb595) ho1 (fun k_ hk_ => (Kd.freshB (g := gb595) (o := .cells #[.int .i64 a2_0, .int .i64 a2_1] 46 (0, 0)) (kU BK595.1) k_ hk_))) (below_size (bS HB.1))); replace BK595 := kB BK595 hb; replace HB := sB HB hb; (try clear hb); (try clear hk); (try clear ho0); (try clear ho1)) | ((with_reducible refine gD 7 ?_); refine bE #[.int .i64 0, .slice none 0 0] 26 ?_; intro gb606 hg w15 hbox hb; replace HO601 := vG HO601 hg hb; replace HO604 := vG HO604 hg hb; have BK606 := Aa (hbox); have GW606 := gS HB hg; have GE606 := gS HB hg; have iE606 := Nonempty.intro GE606.1; replace HB := sB HB hb; have NB595_606 := nL BK595 hg; have NB606_595 := nG BK595 hg; replace BK595 := kB BK595 hb; clear hb hbox hg; have hnb16 := NB606_595.1; have hnc16 := NB595_606.1; have hcz17_0 : w15.cell? ⟨gb606, 0, none⟩ = some (.int .i64 0) := cC BK606 0; have hcz17_1 : w15.cell? ⟨gb606, 1, none⟩ = some (.slice none 0 0) := cC BK606 1; have hfz17_0 := fC BK606 0; have hfz17_1 := fC BK606 1; obtain ⟨Ao18, co18, eo18⟩ := Kd.V_slice HO601.1; subst eo18) | ((with_reducible refine gT 26 7 ?_); refine sE ((w15.setCell ⟨gb606, 0, none⟩ (.int .i64 t598)).setCell ⟨gb606, 1, none⟩ (.slice Ao18 t599.length co18)) ?_; intro w19 hw; have n0_ : Aside0 (Kd.V k53 53 w19 w.heap.size (fun k_ => k_ ≠ gb595 ∧ k_ ≠ gb606) (.slice Ao18 t599.length co18) t599) := ⟨(by rw [hw]; exact (vU (Kd.V_mono (Kd.V_far (p := ⟨gb606, 1, none⟩) (Kd.V_far (p := ⟨gb606, 0, none⟩) (Kd.V_mono HO601.1 (fun k_ hk => (⟨hk, hk.2⟩ : _ ∧ k_ ≠ gb606))) (fun _ hk => hk.2) (.int .i64 t598)) (fun _ hk => hk.2) (.slice Ao18 t599.length co18)) (fun _ hk => ⟨hk.1.1, hk.1.2⟩))))⟩; have n1_ : Aside0 (Kd.V Kd.bool 4 w19 w.heap.size (fun k_ => k_ ≠ gb595 ∧ k_ ≠ gb606) v603 t602) := ⟨(by rw [hw]; exact (vU (Kd.V_mono (Kd.V_far (p := ⟨gb606, 1, none⟩) (Kd.V_far (p := ⟨gb606, 0, none⟩) (Kd.V_mono HO604.1 (fun k_ hk => (⟨hk, hk.2⟩ : _ ∧ k_ ≠ gb606))) (fun _ hk => hk.2) (.int .i64 t598)) (fun _ hk => hk.2) (.slice Ao18 t599.length co18)) (fun _ hk => ⟨hk.1.1, hk.1.2⟩))))⟩; have n2_ : Aside0 (w19.heap[gb595]? = some (.cells #[.int .i64 a2_0, .int .i64 a2_1] 46 (0, 0))) := ⟨(by rw [hw]; exact (by refine kP ?_; refine blk_far ?_ NB595_606.1 _; refine kP ?_; refine blk_far ?_ NB595_606.1 _; refine kP ?_; exact BK595.1))⟩; have n3_ : Aside0 (w19.heap[gb606]? = some (.cells #[.int .i64 t598, .slice Ao18 t599.length co18] 26 (0, 0))) := ⟨(by rw [hw]; exact (by refine kP ?_; refine blk_put (cs := #[.int .i64 t598, .slice none 0 0]) ?_ 1 _ rfl; refine kP ?_; refine blk_put (cs := #[.int .i64 0, .slice none 0 0]) ?_ 0 _ rfl; refine kP ?_; exact BK606.1))⟩; have n4_ : Aside0 (Below w.heap.size w w19) := ⟨(by rw [hw]; exact (bS HB.1))⟩; clear hw; clear HO601; clear HO604; clear BK595; clear BK606; clear HB; have HO601 := n0_; have HO604 := n1_; have BK595 := n2_; have BK606 := n3_; have HB := n4_; clear n0_ n1_ n2_ n3_ n4_; have hcz20_0 : w19.cell? ⟨gb606, 0, none⟩ = some (.int .i64 t598) := cC BK606 0; have hcz20_1 : w19.cell? ⟨gb606, 1, none⟩ = some (.slice Ao18 t599.length co18) := cC BK606 1; have hfz20_0 := fC BK606 0; have hfz20_1 := fC BK606 1; have hcz21_0 : w19.cell? ⟨gb595, 0, none⟩ = some (.int .i64 a2_0) := cC BK595 0; have hcz21_1 : w19.cell? ⟨gb595, 1, none⟩ = some (.int .i64 a2_1) := cC BK595 1; have hfz21_0 := fC BK595 0; have hfz21_1 := fC BK595 1) | ((with_reducible refine gC 12 ?_); refine gL 34 Try.func12 #[.agg #[.int .i64 t598, .slice Ao18 t599.length co18], .int .i64 a2_0, .int .i64 a2_1] ?_; (with_reducible refine (alloc_Map_Take.calls k t598 (fun k_ => (k_ ≠ gb595 ∧ k_ ≠ gb606)) _ _ t599 a2_0 a2_1 t607 t610 t611 t614 _ ?side1 A9.1).mono ?_); (case side1 => exact HO601.1); rintro e w22 ⟨v608, v612, rfl, ho0, ho1, hb⟩; refine ⟨_, rfl, ?_⟩; replace HO601 := vE HO601 ho0 hb; replace HO604 := vE HO604 ho0 hb; have HO609 := Aa (Kd.R_lower (Kd.R_mono (ok' := fun k_ => True) ho0 (fun _ hk_ => trivial)) (below_size (bS HB.1))); have HO613 := Aa (Kd.V_lower (Kd.V_mono (ok' := fun k_ => some k_ ≠ (v608 : Value).ownBlock ∧ k_ ≠ gb595 ∧ k_ ≠ gb606) ho1 (fun k_ hk_ => ⟨hk_.2, Or.elim hk_.1 (fun hs_ => hs_.1) (fun hn_ => (Kd.freshB (g := gb595) (o := .cells #[.int .i64 a2_0, .int .i64 a2_1] 46 (0, 0)) (kU BK595.1) k_ hn_)), Or.elim hk_.1 (fun hs_ => hs_.2) (fun hn_ => (Kd.freshB (g := gb606) (o := .cells #[.int .i64 t598, .slice Ao18 t599.length co18] 26 (0, 0)) (kU BK606.1) k_ hn_))⟩)) (below_size (bS HB.1))); replace BK595 := kB BK595 hb; replace BK606 := kB BK606 hb; replace HB := sB HB hb; (try clear hb); (try clear hk); (try clear ho0); (try clear ho1)) | ((with_reducible refine gD 11 ?_); refine bE #[.int .i64 0, .slice none 0 0] 26 ?_; intro gb615 hg w23 hbox hb; replace HO601 := vG HO601 hg hb; replace HO604 := vG HO604 hg hb; replace HO609 := rB HO609 hb; replace HO613 := vG HO613 hg hb; have BK615 := Aa (hbox); have GW615 := gS HB hg; have GE615 := gS HB hg; have iE615 := Nonempty.intro GE615.1; replace HB := sB HB hb; have NB595_615 := nL BK595 hg; have NB615_595 := nG BK595 hg; replace BK595 := kB BK595 hb; have NB606_615 := nL BK606 hg; have NB615_606 := nG BK606 hg; replace BK606 := kB BK606 hb; clear hb hbox hg; have hnb24 := NB615_595.1; have hnc24 := NB595_615.1; have hnb25 := NB615_606.1; have hnc25 := NB606_615.1; have hcz26_0 : w23.cell? ⟨gb615, 0, none⟩ = some (.int .i64 0) := cC BK615 0; have hcz26_1 : w23.cell? ⟨gb615, 1, none⟩ = some (.slice none 0 0) := cC BK615 1; have hfz26_0 := fC BK615 0; have hfz26_1 := fC BK615 1; obtain ⟨Ao27, co27, eo27⟩ := Kd.V_slice HO613.1; subst eo27; have hcz28_0 : w23.cell? ⟨gb595, 0, none⟩ = some (.int .i64 a2_0) := cC BK595 0; have hcz28_1 : w23.cell? ⟨gb595, 1, none⟩ = some (.int .i64 a2_1) := cC BK595 1; have hfz28_0 := fC BK595 0; have hfz28_1 := fC BK595 1; obtain ⟨Ao29, co29, eo29⟩ := Kd.V_slice HO604.1; subst eo29) | ((with_reducible refine gC 22 ?_); refine gL 44 Try.func22 #[.slice Ao29 t602.length co29, .int .i64 a2_0, .int .i64 a2_1] ?_; (with_reducible refine (tegularef35_Map_Take.calls k _ _ t602 a2_0 a2_1 t616 t617 t618 _ ?side1 ?side2 A10.1).mono ?_); (case side1 => refine (Kd.V_reads' (e := 4) (base := w.heap.size) (ok := fun k_ => (((k_ ≠ gb595 ∧ k_ ≠ gb606) ∧ some k_ ≠ (v608 : Value).ownBlock) ∧ k_ ≠ gb615)) (n := t602.length) (c := co29) ?_).2.2; exact (vU (Kd.V_mono (Kd.V_far (p := ⟨gb615, 1, none⟩) (Kd.V_far (p := ⟨gb615, 0, none⟩) (Kd.V_mono HO604.1 (fun k_ hk => (⟨hk, hk.2⟩ : _ ∧ k_ ≠ gb615))) (fun _ hk => hk.2) (.int .i64 t610)) (fun _ hk => hk.2) (.slice Ao27 t611.length co27)) (fun _ h_ => h_.1)))); (case side2 => exact (Kd.V_reads' HO604.1).2.1); rintro e w30 ⟨v619, v621, rfl, ho0, ho1, hb⟩; refine ⟨_, rfl, ?_⟩; replace HO601 := Aa (Kd.V_mono (Kd.V_told (Kd.V_told (Kd.V_old (vU (Kd.V_mono (Kd.V_far (p := ⟨gb615, 1, none⟩) (Kd.V_far (p := ⟨gb615, 0, none⟩) (Kd.V_mono HO601.1 (fun k_ hk => (⟨hk, hk.2⟩ : _ ∧ k_ ≠ gb615))) (fun _ hk => hk.2) (.int .i64 t610)) (fun _ hk => hk.2) (.slice Ao27 t611.length co27)) (fun _ h_ => h_.1))) hb) (Kd.R_base ho0)) (Kd.R_base ho1)) (fun _ h_ => h_.1)); replace HO604 := Aa (Kd.V_mono (Kd.V_told (Kd.V_told (Kd.V_old (vU (Kd.V_mono (Kd.V_far (p := ⟨gb615, 1, none⟩) (Kd.V_far (p := ⟨gb615, 0, none⟩) (Kd.V_mono HO604.1 (fun k_ hk => (⟨hk, hk.2⟩ : _ ∧ k_ ≠ gb615))) (fun _ hk => hk.2) (.int .i64 t610)) (fun _ hk => hk.2) (.slice Ao27 t611.length co27)) (fun _ h_ => h_.1))) hb) (Kd.R_base ho0)) (Kd.R_base ho1)) (fun _ h_ => h_.1)); replace HO613 := Aa (Kd.V_mono (Kd.V_told (Kd.V_told (Kd.V_old (vU (Kd.V_mono (Kd.V_far (p := ⟨gb615, 1, none⟩) (Kd.V_far (p := ⟨gb615, 0, none⟩) (Kd.V_mono HO613.1 (fun k_ hk => (⟨hk, hk.2⟩ : _ ∧ k_ ≠ gb615))) (fun _ hk => hk.2) (.int .i64 t610)) (fun _ hk => hk.2) (.slice Ao27 t611.length co27)) (fun _ h_ => h_.1))) hb) (Kd.R_base ho0)) (Kd.R_base ho1)) (fun _ h_ => h_.1)); have HO620 := Aa (Kd.R_lower (Kd.R_new' ho0 (Kd.R_lt (rU (Kd.R_mono (Kd.R_far (p := ⟨gb615, 1, none⟩) (Kd.R_far (p := ⟨gb615, 0, none⟩) (Kd.R_types HO609.1 BK615.1 (by decide)) (fun _ hk => hk.2) (.int .i64 t610)) (fun _ hk => hk.2) (.slice Ao27 t611.length co27)) (fun _ h_ => h_.1))))) (below_size (bS HB.1))); replace HO609 := Aa (Kd.R_elder' (rU (Kd.R_mono (Kd.R_far (p := ⟨gb615, 1, none⟩) (Kd.R_far (p := ⟨gb615, 0, none⟩) (Kd.R_types HO609.1 BK615.1 (by decide)) (fun _ hk => hk.2) (.int .i64 t610)) (fun _ hk => hk.2) (.slice Ao27 t611.length co27)) (fun _ h_ => h_.1))) (Kd.R_base ho0) hb); have HO622 := Aa (Kd.R_lower ho1 (below_size (bS HB.1))); replace BK595 := Aa (blk_below (g := gb595) (o := .cells #[.int .i64 a2_0, .int .i64 a2_1] 46 (0, 0)) (by refine kP ?_; refine blk_far ?_ NB595_615.1 _; refine kP ?_; refine blk_far ?_ NB595_615.1 _; refine kP ?_; exact BK595.1) hb); replace BK606 := Aa (blk_below (g := gb606) (o := .cells #[.int .i64 t598, .slice Ao18 t599.length co18] 26 (0, 0)) (by refine kP ?_; refine blk_far ?_ NB606_615.1 _; refine kP ?_; refine blk_far ?_ NB606_615.1 _; refine kP ?_; exact BK606.1) hb); replace BK615 := Aa (blk_below (g := gb615) (o := .cells #[.int .i64 t610, .slice Ao27 t611.length co27] 26 (0, 0)) (by refine kP ?_; refine blk_put (cs := #[.int .i64 t610, .slice none 0 0]) ?_ 1 _ rfl; refine kP ?_; refine blk_put (cs := #[.int .i64 0, .slice none 0 0]) ?_ 0 _ rfl; refine kP ?_; exact BK615.1) hb); replace HB := sB HB hb; (try clear hb); (try clear hk); (try clear ho0); (try clear ho1)))
   (try simp only [Act.put, List.setIfInBounds_toArray, List.set_cons_zero, List.set_cons_succ])
   go_cut [60] (fun v60 wc => ∃ (kq : Nat) (x60_10 : Bool), v60 = .bool x60_10 ∧ Aside0 (tegulalaw35_AllocTake.j0 kq t602 t614 t617 x60_10 a2_0 a2_1 t610 t611 = some r) ∧ Aside0 (kq ≤ k) ∧ Aside0 (Kd.V Kd.bool 4 wc w.heap.size (fun k_ => some k_ ≠ (v621 : Value).ownBlock ∧ k_ ≠ gb595 ∧ k_ ≠ gb606 ∧ k_ ≠ gb615) (.slice Ao29 t602.length co29) t602) ∧ Aside0 (Kd.R Kd.bool 4 wc w.heap.size (fun _ => True) v621 t617) ∧ Aside0 (Kd.V k53 53 wc w.heap.size (fun k_ => some k_ ≠ (v621 : Value).ownBlock ∧ k_ ≠ gb595 ∧ k_ ≠ gb606 ∧ k_ ≠ gb615) (.slice Ao18 t599.length co18) t599) ∧ Aside0 (Kd.V k53 53 wc w.heap.size (fun k_ => some k_ ≠ (v621 : Value).ownBlock ∧ k_ ≠ gb595 ∧ k_ ≠ gb606 ∧ k_ ≠ gb615) (.slice Ao27 t611.length co27) t611) ∧ Aside0 (wc.heap[gb595]? = some (.cells #[.int .i64 a2_0, .int .i64 a2_1] 46 (0, 0))) ∧ Aside0 (wc.heap[gb606]? = some (.cells #[.int .i64 t598, (.slice Ao18 t599.length co18)] 26 (0, 0))) ∧ Aside0 (wc.heap[gb615]? = some (.cells #[.int .i64 t610, (.slice Ao27 t611.length co27)] 26 (0, 0))) ∧ Aside0 (Below w.heap.size w wc))
   case first =>
    have H := HC11.1
    clear HC11
    by_cases c31 : t605 = true
    ·
     subst c31
     have H1 : (if t614 = t618 then ((tegularef32_Same.f k t607 t616).bind fun t623 => (tegulalaw35_AllocTake.j0 k t602 t614 t617 (!t623) a2_0 a2_1 t610 t611)) else (tegulalaw35_AllocTake.j0 k t602 t614 t617 true a2_0 a2_1 t610 t611)) = some r := by rw [if_pos rfl] at H; exact H
     clear H
     have H := H1
     clear H1
     by_cases c32 : t614 = t618
     ·
      rw [if_pos c32] at H
      have c32b0 : (t614 == t618) = true := beq_iff_eq.mpr c32
      have c32b1 : (t614 != t618) = false := bne_eq_false_iff_eq.mpr c32
      clear c32
      (first | rw [c32b0] | (simp only [i64_w, i32_w]; rw [c32b0]) | skip)
      replace H := Option.bind_eq_some_iff.mp H
      obtain ⟨t623, A330, H⟩ := H
      replace H : (tegulalaw35_AllocTake.j0 k t602 t614 t617 (!t623) a2_0 a2_1 t610 t611) = some r := H
      have A33 := Aside0.mk A330
      clear A330
      have H' := Aside0.mk H
      clear H
      obtain ⟨Ao34, co34, eo34⟩ := Kd.R_slice HO609.1
      subst eo34
      obtain ⟨Ao35, co35, eo35⟩ := Kd.R_slice HO620.1
      subst eo35
      go_wp2_with (first | (go_at_call 13; (with_reducible refine (tegularef32_Same.calls k _ _ t607 _ _ t616 t623 _ ?side1 ?side2 ?side3 ?side4 A33.1).mono ?_); (case side1 => repeat (first | exact (Kd.R_reads' HO609.1).2.2 | (with_reducible refine Kd.C_alloc ?_ _) | (with_reducible refine Kd.C_drewN ?_ _) | (with_reducible refine Kd.C_drew ?_))); (case side2 => exact (Kd.R_reads' HO609.1).2.1); (case side3 => repeat (first | exact (Kd.R_reads' HO620.1).2.2 | (with_reducible refine Kd.C_alloc ?_ _) | (with_reducible refine Kd.C_drewN ?_ _) | (with_reducible refine Kd.C_drew ?_))); (case side4 => exact (Kd.R_reads' HO620.1).2.1); rintro e w' ⟨rfl, ⟨nd, rfl⟩⟩))
      go_meet
      case rel => exact ⟨_, (!t623), (by first | rfl | (simp; done) | (simp [*]; done)), H', ⟨by first | omega | exact Nat.le_refl _⟩, ⟨vU (Kd.V_mono HO604.1 (fun _ hk => ⟨hk.2, ⟨hk.1.1.1.1.1, ⟨hk.1.1.1.1.2, hk.1.1.2⟩⟩⟩))⟩, ⟨rU HO622.1⟩, ⟨vU (Kd.V_mono HO601.1 (fun _ hk => ⟨hk.2, ⟨hk.1.1.1.1.1, ⟨hk.1.1.1.1.2, hk.1.1.2⟩⟩⟩))⟩, ⟨vU (Kd.V_mono HO613.1 (fun _ hk => ⟨hk.2, ⟨hk.1.1.1.2.1, ⟨hk.1.1.1.2.2, hk.1.1.2⟩⟩⟩))⟩, ⟨by refine kP ?_; exact BK595.1⟩, ⟨by refine kP ?_; exact BK606.1⟩, ⟨by refine kP ?_; exact BK615.1⟩, ⟨bS HB.1⟩⟩
     ·
      rw [if_neg c32] at H
      have c32b0 : (t614 == t618) = false := beq_eq_false_iff_ne.mpr c32
      have c32b1 : (t614 != t618) = true := bne_iff_ne.mpr c32
      (first | rw [c32b0] | (simp only [i64_w, i32_w]; rw [c32b0]) | skip)
      have H' := Aside0.mk H
      clear H
      go_wp2
      go_meet
      case rel => exact ⟨_, (true), (by first | rfl | (simp; done) | (simp [*]; done)), H', ⟨by first | omega | exact Nat.le_refl _⟩, ⟨vU (Kd.V_mono HO604.1 (fun _ hk => ⟨hk.2, ⟨hk.1.1.1.1.1, ⟨hk.1.1.1.1.2, hk.1.1.2⟩⟩⟩))⟩, ⟨rU HO622.1⟩, ⟨vU (Kd.V_mono HO601.1 (fun _ hk => ⟨hk.2, ⟨hk.1.1.1.1.1, ⟨hk.1.1.1.1.2, hk.1.1.2⟩⟩⟩))⟩, ⟨vU (Kd.V_mono HO613.1 (fun _ hk => ⟨hk.2, ⟨hk.1.1.1.2.1, ⟨hk.1.1.1.2.2, hk.1.1.2⟩⟩⟩))⟩, ⟨by refine kP ?_; exact BK595.1⟩, ⟨by refine kP ?_; exact BK606.1⟩, ⟨by refine kP ?_; exact BK615.1⟩, ⟨bS HB.1⟩⟩
    ·
     replace c31 := Bool.eq_false_iff.mpr c31
     subst c31
     have H1 : (tegulalaw35_AllocTake.j0 k t602 t614 t617 true a2_0 a2_1 t610 t611) = some r := by rw [if_neg (show ¬ (false = true) by decide)] at H; exact H
     clear H
     have H := H1
     clear H1
     have H' := Aside0.mk H
     clear H
     go_wp2
     go_meet
     case rel => exact ⟨_, (true), (by first | rfl | (simp; done) | (simp [*]; done)), H', ⟨by first | omega | exact Nat.le_refl _⟩, ⟨vU (Kd.V_mono HO604.1 (fun _ hk => ⟨hk.2, ⟨hk.1.1.1.1.1, ⟨hk.1.1.1.1.2, hk.1.1.2⟩⟩⟩))⟩, ⟨rU HO622.1⟩, ⟨vU (Kd.V_mono HO601.1 (fun _ hk => ⟨hk.2, ⟨hk.1.1.1.1.1, ⟨hk.1.1.1.1.2, hk.1.1.2⟩⟩⟩))⟩, ⟨vU (Kd.V_mono HO613.1 (fun _ hk => ⟨hk.2, ⟨hk.1.1.1.2.1, ⟨hk.1.1.1.2.2, hk.1.1.2⟩⟩⟩))⟩, ⟨by refine kP ?_; exact BK595.1⟩, ⟨by refine kP ?_; exact BK606.1⟩, ⟨by refine kP ?_; exact BK615.1⟩, ⟨bS HB.1⟩⟩
   case rest =>
    clear HC11
    try clear c1
    try clear c2
    try clear p2
    try clear c3
    try clear c5
    try clear c6
    try clear c7
    try clear c10
    try clear c12
    try clear c16
    try clear c20
    try clear c21
    try clear c22
    try clear c24
    try clear c25
    try clear c31
    try clear c32
    try clear c32b0
    try clear c32b1
    try clear hcz17_0
    try clear hcz17_1
    try clear hcz20_0
    try clear hcz20_1
    try clear hcz21_0
    try clear hcz21_1
    try clear hcz26_0
    try clear hcz26_1
    try clear hcz28_0
    try clear hcz28_1
    try clear hfz17_0
    try clear hfz17_1
    try clear hfz20_0
    try clear hfz20_1
    try clear hfz21_0
    try clear hfz21_1
    try clear hfz26_0
    try clear hfz26_1
    try clear hfz28_0
    try clear hfz28_1
    obtain ⟨kq, x60_10, rfl, HA, HJ10, HO_8, HO_14, HO_607001, HO_616001, BK595, BK606, BK615, HB⟩ := hcut
    cases kq with
    | zero => exact absurd HA.1 (by simp [tegulalaw35_AllocTake.j0])
    | succ kj10 =>
     have H := HA.1
     clear HA
     simp only [tegulalaw35_AllocTake.j0] at H
     by_cases c36 : x60_10 = true
     ·
      subst c36
      have H1 : (some false) = some r := by rw [if_pos rfl] at H; exact H
      clear H
      have H := H1
      clear H1
      obtain rfl := Option.some.inj H
      exact Bool.noConfusion h0_.1
     ·
      replace c36 := Bool.eq_false_iff.mpr c36
      subst c36
      have H1 : (if t614 = 0 then ((tegulalaw35_same.f kj10 t610 t611 t617).bind fun t624 => (if t624 = true then ((tegularef35_Map_Free.f kj10 t602).bind fun t625 => (some (decide (a2_0 ≤ t625)))) else (some false))) else (if t614 = 1 then (some true) else ((tegularef35_Map_Free.f kj10 t602).bind fun t626 => (some (decide (a2_0 > t626)))))) = some r := by rw [if_neg (show ¬ (false = true) by decide)] at H; exact H
      clear H
      have H := H1
      clear H1
      by_cases c37 : t614 = 0
      ·
       rw [if_pos c37] at H
       have c37b0 : (t614 == 0) = true := beq_iff_eq.mpr c37
       have c37b1 : (t614 != 0) = false := bne_eq_false_iff_eq.mpr c37
       clear c37
       replace H := Option.bind_eq_some_iff.mp H
       obtain ⟨t624, A380, H⟩ := H
       replace H : (if t624 = true then ((tegularef35_Map_Free.f kj10 t602).bind fun t625 => (some (decide (a2_0 ≤ t625)))) else (some false)) = some r := H
       have A38 := Aside0.mk A380
       clear A380
       by_cases c39 : t624 = true
       ·
        subst c39
        have H1 : ((tegularef35_Map_Free.f kj10 t602).bind fun t625 => (some (decide (a2_0 ≤ t625)))) = some r := by rw [if_pos rfl] at H; exact H
        clear H
        have H := H1
        clear H1
        replace H := Option.bind_eq_some_iff.mp H
        obtain ⟨t625, A400, H⟩ := H
        replace H : (some (decide (a2_0 ≤ t625))) = some r := H
        have A40 := Aside0.mk A400
        clear A400
        obtain rfl := Option.some.inj H
        try go_wp2
        replace HO_8 := Aa (Kd.V_drew HO_8.1)
        replace HO_14 := Aa (Kd.R_drew HO_14.1)
        replace HO_607001 := Aa (Kd.V_drew HO_607001.1)
        replace HO_616001 := Aa (Kd.V_drew HO_616001.1)
        replace BK595 := Aa (blk_drew BK595.1)
        replace BK606 := Aa (blk_drew BK606.1)
        replace BK615 := Aa (blk_drew BK615.1)
        replace HB := Aa (below_drew1 HB.1)
        obtain ⟨Ao42, co42, eo42⟩ := Kd.R_slice HO_14.1
        (first | subst eo42 | (injection eo42 with f1_ f2_ f3_; have f4_ := f1_.symm; have f5_ := f3_.symm; clear f1_ f2_ f3_; subst f4_; subst f5_))
        refine start_ (n := 11) (S := fun w' => w'.cell? ⟨gb615, 0, none⟩ = some (.int .i64 t610) ∧ w'.cell? ⟨gb615, 1, none⟩ = some (.slice Ao27 t611.length co27) ∧ w'.cell? ⟨gb595, 0, none⟩ = some (.int .i64 a2_0) ∧ w'.cell? ⟨gb595, 1, none⟩ = some (.int .i64 a2_1)) (ds := []) (bm 11 0) (by kernel_rfl) rfl (bm0 _) ⟨cC BK615 0, cC BK615 1, cC BK595 0, cC BK595 1⟩ (fun hHeld => ?_); refine with_tabW tegulalaw35_AllocTake.tab12 tegulalaw35_AllocTake.bits12 (fun HT_ HW_ => ?_)
        generalize wc.drew = w41 at HO_8 HO_14 HO_607001 HO_616001 BK595 BK606 BK615 HB hHeld ⊢
        refine pA 2 1 73 ?_
        refine tA 3 0 72 hHeld ?_
        refine oA 7 2 74 (fun K hK => ?_)
        refine gR Try.func24 #[.agg #[.int .i64 t610, .slice Ao27 t611.length co27], .slice Ao42 t617.length co42] ?_
        with_reducible refine (tegulalaw35_same.calls kj10 t610 _ _ t611 _ _ t617 true _ ?side1 ?side2 ?side3 ?side4 A38.1).mono ?_
        (case side1 => repeat (first | exact (Kd.V_reads' HO_616001.1).2.2 | (with_reducible refine Kd.C_alloc ?_ _) | (with_reducible refine Kd.C_drewN ?_ _) | (with_reducible refine Kd.C_drew ?_)))
        (case side2 => exact (Kd.V_reads' HO_616001.1).2.1)
        (case side3 => repeat (first | exact (Kd.R_reads' HO_14.1).2.2 | (with_reducible refine Kd.C_alloc ?_ _) | (with_reducible refine Kd.C_drewN ?_ _) | (with_reducible refine Kd.C_drew ?_)))
        (case side4 => exact (Kd.R_reads' HO_14.1).2.1)
        rintro e w43 ⟨rfl, hb⟩
        refine ⟨_, rfl, ?_⟩
        replace HO_8 := vB HO_8 hb
        replace HO_14 := rB HO_14 hb
        replace HO_607001 := vB HO_607001 hb
        replace HO_616001 := vB HO_616001 hb
        replace BK595 := kB BK595 hb
        replace BK606 := kB BK606 hb
        replace BK615 := kB BK615 hb
        replace HB := sB HB hb
        (try clear hb)
        (try clear hb2)
        (try clear hk)
        (try clear hi)
        refine hK.out _ _ ⟨cC BK615 0, cC BK615 1, cC BK595 0, cC BK595 1⟩ (fun hHeld => ?_)
        clear hK K
        refine nA ?_
        refine pA 15 3 75 ?_
        refine pA 31 4 76 ?_
        refine pA 95 6 78 ?_
        refine tA 127 5 77 hHeld ?_
        refine oA 255 7 79 (fun K hK => ?_)
        refine gR Try.func23 #[.slice Ao29 t602.length co29] ?_
        with_reducible refine (tegularef35_Map_Free.calls kj10 _ _ t602 t625 _ ?side1 ?side2 A40.1).mono ?_
        (case side1 => repeat (first | exact (Kd.V_reads' HO_8.1).2.2 | (with_reducible refine Kd.C_alloc ?_ _) | (with_reducible refine Kd.C_drewN ?_ _) | (with_reducible refine Kd.C_drew ?_)))
        (case side2 => exact (Kd.V_reads' HO_8.1).2.1)
        rintro e w' ⟨rfl, ⟨nd, rfl⟩⟩
        refine ⟨_, rfl, ?_⟩
        refine hK.out _ _ ⟨cC BK615 0, cC BK615 1, cC BK595 0, cC BK595 1⟩ (fun hHeld => ?_)
        clear hK K
        refine nA ?_
        refine pA 511 8 80 ?_
        refine pA 1023 9 81 ?_
        refine pA 2047 10 6 ?_
        refine done_ (done_of HT_.1 (by kernel_rfl)) ?_
        try go_wp2
        go_ret
        exact ⟨fT, bS HB.1⟩
       ·
        replace c39 := Bool.eq_false_iff.mpr c39
        subst c39
        have H1 : (some false) = some r := by rw [if_neg (show ¬ (false = true) by decide)] at H; exact H
        clear H
        have H := H1
        clear H1
        obtain rfl := Option.some.inj H
        exact Bool.noConfusion h0_.1
      ·
       rw [if_neg c37] at H
       have c37b0 : (t614 == 0) = false := beq_eq_false_iff_ne.mpr c37
       have c37b1 : (t614 != 0) = true := bne_iff_ne.mpr c37
       by_cases c47 : t614 = 1
       ·
        rw [if_pos c47] at H
        have c47b0 : (t614 == 1) = true := beq_iff_eq.mpr c47
        have c47b1 : (t614 != 1) = false := bne_eq_false_iff_eq.mpr c47
        clear c47
        obtain rfl := Option.some.inj H
        try go_wp2
        replace HO_8 := Aa (Kd.V_drew HO_8.1)
        replace HO_14 := Aa (Kd.R_drew HO_14.1)
        replace HO_607001 := Aa (Kd.V_drew HO_607001.1)
        replace HO_616001 := Aa (Kd.V_drew HO_616001.1)
        replace BK595 := Aa (blk_drew BK595.1)
        replace BK606 := Aa (blk_drew BK606.1)
        replace BK615 := Aa (blk_drew BK615.1)
        replace HB := Aa (below_drew1 HB.1)
        refine start_ (n := 10) (S := fun w' => True) (ds := []) (bm 10 0) (by kernel_rfl) rfl (bm0 _) trivial (fun hHeld => ?_); refine with_tabW tegulalaw35_AllocTake.tab11 tegulalaw35_AllocTake.bits11 (fun HT_ HW_ => ?_)
        generalize wc.drew = w48 at HO_8 HO_14 HO_607001 HO_616001 BK595 BK606 BK615 HB hHeld ⊢
        refine pA 1 0 63 ?_
        refine pA 3 1 64 ?_
        refine pA 7 2 65 ?_
        refine pU 15 3 66 ?_
        refine pU 31 4 67 ?_
        refine pU 63 5 68 ?_
        refine pU 127 6 69 ?_
        refine pU 255 7 70 ?_
        refine pA 511 8 71 ?_
        refine pA 1023 9 6 ?_
        refine done_ (done_of HT_.1 (by kernel_rfl)) ?_
        try go_wp2
        go_ret
        exact ⟨fT, bS HB.1⟩
       ·
        rw [if_neg c47] at H
        have c47b0 : (t614 == 1) = false := beq_eq_false_iff_ne.mpr c47
        have c47b1 : (t614 != 1) = true := bne_iff_ne.mpr c47
        replace H := Option.bind_eq_some_iff.mp H
        obtain ⟨t626, A490, H⟩ := H
        replace H : (some (decide (a2_0 > t626))) = some r := H
        have A49 := Aside0.mk A490
        clear A490
        obtain rfl := Option.some.inj H
        try go_wp2
        replace HO_8 := Aa (Kd.V_drew HO_8.1)
        replace HO_14 := Aa (Kd.R_drew HO_14.1)
        replace HO_607001 := Aa (Kd.V_drew HO_607001.1)
        replace HO_616001 := Aa (Kd.V_drew HO_616001.1)
        replace BK595 := Aa (blk_drew BK595.1)
        replace BK606 := Aa (blk_drew BK606.1)
        replace BK615 := Aa (blk_drew BK615.1)
        replace HB := Aa (below_drew1 HB.1)
        refine start_ (n := 10) (S := fun w' => w'.cell? ⟨gb595, 0, none⟩ = some (.int .i64 a2_0) ∧ w'.cell? ⟨gb595, 1, none⟩ = some (.int .i64 a2_1)) (ds := []) (bm 10 0) (by kernel_rfl) rfl (bm0 _) ⟨cC BK595 0, cC BK595 1⟩ (fun hHeld => ?_); refine with_tabW tegulalaw35_AllocTake.tab11 tegulalaw35_AllocTake.bits11 (fun HT_ HW_ => ?_)
        generalize wc.drew = w50 at HO_8 HO_14 HO_607001 HO_616001 BK595 BK606 BK615 HB hHeld ⊢
        refine pA 1 0 63 ?_
        refine pA 3 1 64 ?_
        refine pA 7 2 65 ?_
        refine pA 15 3 66 ?_
        refine pA 47 5 68 ?_
        refine tA 63 4 67 hHeld ?_
        refine oA 127 6 69 (fun K hK => ?_)
        refine gR Try.func23 #[.slice Ao29 t602.length co29] ?_
        with_reducible refine (tegularef35_Map_Free.calls kj10 _ _ t602 t626 _ ?side1 ?side2 A49.1).mono ?_
        (case side1 => repeat (first | exact (Kd.V_reads' HO_8.1).2.2 | (with_reducible refine Kd.C_alloc ?_ _) | (with_reducible refine Kd.C_drewN ?_ _) | (with_reducible refine Kd.C_drew ?_)))
        (case side2 => exact (Kd.V_reads' HO_8.1).2.1)
        rintro e w' ⟨rfl, ⟨nd, rfl⟩⟩
        refine ⟨_, rfl, ?_⟩
        refine hK.out _ _ ⟨cC BK595 0, cC BK595 1⟩ (fun hHeld => ?_)
        clear hK K
        refine nA ?_
        refine pA 255 7 70 ?_
        refine pA 511 8 71 ?_
        refine pA 1023 9 6 ?_
        refine done_ (done_of HT_.1 (by kernel_rfl)) ?_
        try go_wp2
        go_ret
        exact ⟨fT, bS HB.1⟩
  ·
   replace c7 := Bool.eq_false_iff.mpr c7
   subst c7
   have H1 : (some true) = some r := by rw [if_neg (show ¬ (false = true) by decide)] at H; exact H
   clear H
   have H := H1
   clear H1
   obtain rfl := Option.some.inj H
   go_enter Try.func6, Try.ntmps6
   go_wp2_with (first | ((with_reducible refine gD 5 ?_); refine bE #[.int .i64 a2_0, .int .i64 a2_1] 46 ?_; intro gb595 hg w51 hbox hb; have BK595 := Aa (hbox); have GW595 := gU HB hg; have GE595 := gU HB hg; have iE595 := Nonempty.intro GE595.1; replace HB := sU HB hb; clear hb hbox hg) | ((with_reducible refine gC 10 ?_); refine gL 16 Try.func10 #[] ?_; (with_reducible refine (tegulalaw35_awake.calls k  true _ A4.1).mono ?_); rintro e w52 ⟨rfl, hb⟩; refine ⟨_, rfl, ?_⟩; replace BK595 := kB BK595 hb; replace HB := sB HB hb; (try clear hb)) | ((with_reducible refine gC 20 ?_); refine gL 19 Try.func20 #[.slice A1 l1.length c1] ?_; (with_reducible refine (tegulalaw35_few.calls k _ _ l1 false _ ?side1 ?side2 A6.1).mono ?_); (case side1 => exact cU (Kd.C_below HR1.1 HB.1)); (case side2 => exact HC1.1); rintro e w' ⟨rfl, ⟨nd, rfl⟩⟩; refine ⟨_, rfl, ?_⟩))
   go_ret
   exact ⟨fT, bS HB.1⟩
 ·
  replace c5 := Bool.eq_false_iff.mpr c5
  subst c5
  have H1 : (some false) = some r := by rw [if_neg (show ¬ (false = true) by decide)] at H; exact H
  clear H
  have H := H1
  clear H1
  obtain rfl := Option.some.inj H
  exact Bool.noConfusion h0_.1
end Go.Proofs.Ytcjpikjbjehjeaa.PAllocB
