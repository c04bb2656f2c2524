-- Written for this claim by a program of this session (wip/), out of the translation's own print: Lean checks it
import Derived.Test.YtcjpikjbjehjeaaPAllocBx0
import Derived.Test.YtcjpikjbjehjeaaWGuard
import Derived.Test.YtcjpikjbjehjeaaPAllocBx2
import Derived.Test.YtcjpikjbjehjeaaPAllocBx9
import Derived.Test.YtcjpikjbjehjeaaPAllocBx10
import Derived.Test.YtcjpikjbjehjeaaPAllocBx11
import Derived.Test.YtcjpikjbjehjeaaPAllocBx14
import Derived.Test.YtcjpikjbjehjeaaPAllocBx18
import Derived.Test.YtcjpikjbjehjeaaPAllocBx20
namespace Go.Proofs.Ytcjpikjbjehjeaa.PAllocB
open Go.RowKit Go.Proofs.YtcjpikjbjehjeaaW.PrintWords Go.Proofs.YtcjpikjbjehjeaaW.PrintLast Go.Proofs.YtcjpikjbjehjeaaW.PrintMore
attribute [local go_sem] max2_int min2_int max_two min_two max_three min_three max_four min_four   -- for this text's walks alone
set_option linter.unusedVariables false
set_option linter.unusedSimpArgs false

/-! ### tegulalaw35_AllocRestores: function 7 -/
mutual
def tegulalaw35_AllocRestores.l0 : Nat → List Bool → List (S53) → Int → Int → Int → Int → Int → List (S53) → Int → List (S53) → Option (Bool)
 | 0, _, _, _, _, _, _, _, _, _, _ => none
 | k + 1, x8, x10, x13, x14, x628000, x628001, x639000, x639001, x648000, x648001 => if x14 < (x10.length : Int) then (if 0 ≤ x14 then (tegulalaw35_AllocRestores.l1 k x8 x10 x13 x14 ((rd_T53 x10 x14).f2) x628000 x628001 x639000 x639001 x648000 x648001) else (none)) else ((alloc_Map_Give.f k x648000 x648001 x10).bind fun bt653 => (if bt653.2.2 = 0 then (if x13 = (wrap64 (x628000)) then ((tegulalaw35_same.f k bt653.1 bt653.2.1 x8).bind fun t659 => (if t659 = true then ((alloc_Map_Free.f k x648000 x648001).bind fun t660 => ((alloc_Map_Free.f k x639000 x639001).bind fun t661 => (some (t660 == (wrap64 (t661 - x13)))))) else (some false))) else (some false)) else (some false)))
def tegulalaw35_AllocRestores.l1 : Nat → List Bool → List (S53) → Int → Int → Int → Int → Int → Int → List (S53) → Int → List (S53) → Option (Bool)
 | 0, _, _, _, _, _, _, _, _, _, _, _ => none
 | k + 1, x8, x10, x13, x14, x15, x628000, x628001, x639000, x639001, x648000, x648001 => if 0 ≤ x14 then (if x14 < (x10.length : Int) then (if x15 < (wrap64 (((rd_T53 x10 x14).f2) + ((rd_T53 x10 x14).f1))) then (if x15 < 0 then (some false) else (if x15 ≥ (x8.length : Int) then (some false) else (if 0 ≤ x15 then (if x15 < (x8.length : Int) then (if rdOf false x8 x15 = true then (some false) else ((alloc_Map_Is.f k x648000 x648001 x15).bind fun t652 => (if t652 = true then (some false) else (if (wrap64 (x13 + 1)) > 100 then (some false) else (tegulalaw35_AllocRestores.l1 k x8 x10 (wrap64 (x13 + 1)) x14 (wrap64 (x15 + 1)) x628000 x628001 x639000 x639001 x648000 x648001))))) else (none)) else (none)))) else (tegulalaw35_AllocRestores.l0 k x8 x10 x13 (wrap64 (x14 + 1)) x628000 x628001 x639000 x639001 x648000 x648001)) else (none)) else (none)
end
def tegulalaw35_AllocRestores.f (k : Nat) (a0 : Int) (l1 : List (S57)) (a2_0 : Int) (a2_1 : Int) : Option (Bool) := (tegulalaw35_awake.f k).bind fun t628 => (if t628 = true then ((tegulalaw35_few.f k l1).bind fun t629 => (if t629 = true then ((tegulalaw35_build.f k a0 l1).bind fun bt630 => (if bt630.2.2.2 = true then ((alloc_Map_Take.f k bt630.1 bt630.2.1 (wrap64 (a2_0)) (wrap64 (a2_1))).bind fun bt639 => (if bt639.2.2.2 = 0 then (tegulalaw35_AllocRestores.l0 k bt630.2.2.1 bt639.1 0 0 a2_0 a2_1 bt630.1 bt630.2.1 bt639.2.1 bt639.2.2.1) else (some true))) else (some false))) else (some true))) else (some false))
theorem tegulalaw35_AllocRestores.mono_l : ∀ k, (∀ y0 y1 y2 y3 y4 y5 y6 y7 y8 y9, LeO (tegulalaw35_AllocRestores.l0 k y0 y1 y2 y3 y4 y5 y6 y7 y8 y9) (tegulalaw35_AllocRestores.l0 (k + 1) y0 y1 y2 y3 y4 y5 y6 y7 y8 y9)) ∧ (∀ y0 y1 y2 y3 y4 y5 y6 y7 y8 y9 y10, LeO (tegulalaw35_AllocRestores.l1 k y0 y1 y2 y3 y4 y5 y6 y7 y8 y9 y10) (tegulalaw35_AllocRestores.l1 (k + 1) y0 y1 y2 y3 y4 y5 y6 y7 y8 y9 y10))
 | 0 => ⟨fun _ _ _ _ _ _ _ _ _ _ r h => by simp [tegulalaw35_AllocRestores.l0] at h, fun _ _ _ _ _ _ _ _ _ _ _ r h => by simp [tegulalaw35_AllocRestores.l1] at h⟩
 | k + 1 => by
  obtain ⟨ih0, ih1⟩ := tegulalaw35_AllocRestores.mono_l k
  refine ⟨?_, ?_⟩
  all_goals (intros; (first | unfold tegulalaw35_AllocRestores.l0 | unfold tegulalaw35_AllocRestores.l1))
  all_goals repeat' first
  | (with_reducible exact ih0 _ _ _ _ _ _ _ _ _ _)
  | (with_reducible exact ih1 _ _ _ _ _ _ _ _ _ _ _)
  | (with_reducible exact alloc_Map_Free.mono _ _ _)
  | (with_reducible exact alloc_Map_Give.mono _ _ _ _)
  | (with_reducible exact alloc_Map_Is.mono _ _ _ _)
  | (with_reducible exact alloc_Map_Take.mono _ _ _ _ _)
  | (with_reducible exact tegulalaw35_awake.mono _)
  | (with_reducible exact tegulalaw35_build.mono _ _ _)
  | (with_reducible exact tegulalaw35_few.mono _ _)
  | (with_reducible exact tegulalaw35_same.mono _ _ _ _)
  | (with_reducible exact LeO.refl _)
  | (with_reducible exact LeO.none _)
  | (with_reducible refine LeO.ite ?_ ?_)
  | (with_reducible refine LeO.bind ?_ (fun _ => ?_))
  | exact ih0 _ _ _ _ _ _ _ _ _ _
  | exact ih1 _ _ _ _ _ _ _ _ _ _ _
  | exact alloc_Map_Free.mono _ _ _
  | exact alloc_Map_Give.mono _ _ _ _
  | exact alloc_Map_Is.mono _ _ _ _
  | exact alloc_Map_Take.mono _ _ _ _ _
  | exact tegulalaw35_awake.mono _
  | exact tegulalaw35_build.mono _ _ _
  | exact tegulalaw35_few.mono _ _
  | exact tegulalaw35_same.mono _ _ _ _
  | exact LeO.none _
  | refine LeO.ite ?_ ?_
  | refine LeO.bind ?_ (fun _ => ?_)
theorem tegulalaw35_AllocRestores.mono : ∀ a0 a1 a2 a3 k, LeO (tegulalaw35_AllocRestores.f k a0 a1 a2 a3) (tegulalaw35_AllocRestores.f (k + 1) a0 a1 a2 a3) := by
 intro a0 a1 a2 a3 k
 obtain ⟨ih0, ih1⟩ := tegulalaw35_AllocRestores.mono_l k
 unfold tegulalaw35_AllocRestores.f
 repeat' first
   | (with_reducible exact ih0 _ _ _ _ _ _ _ _ _ _)
   | (with_reducible exact ih1 _ _ _ _ _ _ _ _ _ _ _)
   | (with_reducible exact alloc_Map_Free.mono _ _ _)
   | (with_reducible exact alloc_Map_Give.mono _ _ _ _)
   | (with_reducible exact alloc_Map_Is.mono _ _ _ _)
   | (with_reducible exact alloc_Map_Take.mono _ _ _ _ _)
   | (with_reducible exact tegulalaw35_awake.mono _)
   | (with_reducible exact tegulalaw35_build.mono _ _ _)
   | (with_reducible exact tegulalaw35_few.mono _ _)
   | (with_reducible exact tegulalaw35_same.mono _ _ _ _)
   | (with_reducible exact LeO.refl _)
   | (with_reducible exact LeO.none _)
   | (with_reducible refine LeO.ite ?_ ?_)
   | (with_reducible refine LeO.bind ?_ (fun _ => ?_))
   | exact ih0 _ _ _ _ _ _ _ _ _ _
   | exact ih1 _ _ _ _ _ _ _ _ _ _ _
   | exact alloc_Map_Free.mono _ _ _
   | exact alloc_Map_Give.mono _ _ _ _
   | exact alloc_Map_Is.mono _ _ _ _
   | exact alloc_Map_Take.mono _ _ _ _ _
   | exact tegulalaw35_awake.mono _
   | exact tegulalaw35_build.mono _ _ _
   | exact tegulalaw35_few.mono _ _
   | exact tegulalaw35_same.mono _ _ _ _
   | exact LeO.none _
   | refine LeO.ite ?_ ?_
   | refine LeO.bind ?_ (fun _ => ?_)
def tegulalaw35_AllocRestores.T16 : Bool × List (List Nat × List Nat) := (true, [([], []), ([], []), ([], []), ([1, 2], [1, 2]), ([3], [3]), ([4], [4]), ([], []), ([], []), ([6, 7], [6, 7]), ([8], [8]), ([9], [9]), ([5, 10], [5, 10]), ([0, 11], [0, 11])])
def tegulalaw35_AllocRestores.B16 : List Nat := [0, 0, 0, 6, 14, 30, 0, 0, 192, 448, 960, 2046, 4095]
theorem tegulalaw35_AllocRestores.tab16 : rtab .any (opsOf Try.f7 16) = tegulalaw35_AllocRestores.T16 := by kernel_rfl
theorem tegulalaw35_AllocRestores.bits16 : waitsOk tegulalaw35_AllocRestores.T16.2 tegulalaw35_AllocRestores.B16 = true := by kernel_rfl
def tegulalaw35_AllocRestores.T22 : Bool × List (List Nat × List Nat) := (true, [([], []), ([0], [0]), ([1], [1]), ([2], [2]), ([2], [2]), ([4, 2], [2, 4]), ([5, 2], [2, 5]), ([3, 6, 2], [2, 3, 6]), ([2, 7], [2, 7]), ([8, 2], [8]), ([9], [9]), ([9], [9]), ([10, 11, 9, 9], [9, 10, 11]), ([9, 12], [9, 12]), ([13, 12], [13]), ([14], [14]), ([15, 14, 14], [14, 15]), ([14], [14]), ([17, 16, 14], [14, 17]), ([14], [14]), ([18, 19, 14], [14, 18, 19]), ([16, 20, 14], [14, 16, 20]), ([14, 21], [14, 21]), ([22, 18, 0, 1, 2, 3, 4, 5, 6, 7, 8, 9, 10, 11, 12, 13, 14, 15, 16, 17, 18, 19, 20, 21, 22], [22])])
def tegulalaw35_AllocRestores.B22 : List Nat := [0, 1, 3, 7, 7, 23, 55, 127, 255, 511, 1023, 1023, 4095, 8191, 16383, 32767, 65535, 32767, 262143, 32767, 1048575, 2097151, 4194303, 8388607]
theorem tegulalaw35_AllocRestores.tab22 : rtab .any (opsOf Try.f7 22) = tegulalaw35_AllocRestores.T22 := by kernel_rfl
theorem tegulalaw35_AllocRestores.bits22 : waitsOk tegulalaw35_AllocRestores.T22.2 tegulalaw35_AllocRestores.B22 = true := by kernel_rfl
set_option maxHeartbeats 8000000 in
set_option maxRecDepth 100000 in
theorem tegulalaw35_AllocRestores.calls (k : Nat) (a0 : Int) (A1 : Option Addr) (c1 : Nat) (l1 : List (S57)) (a2_0 : Int) (a2_1 : Int) (r : Bool) (w : World) (hr1 : Kd.C k57 w A1 l1.length l1) (hc1 : l1.length ≤ c1) (h : tegulalaw35_AllocRestores.f k a0 l1 a2_0 a2_1 = some r) (h0 : r = true := by rfl) :
  Calls Try.prog 7 #[.int .u8 a0, .slice A1 l1.length c1, .agg #[.int .u8 a2_0, .int .u8 a2_1]] w fun e w' => e = .returned (.bool r) ∧ Below w.heap.size w w' := by
 have h0_ := Aa (h0)
 clear h0
 have hu51 := Try.underlying51
 have hu26 := Try.underlying26
 have HR1 := Aside0.mk hr1
 have HC1 := Aside0.mk hc1
 clear hr1 hc1
 have HB := Aa (Below.refl w.heap.size w)
 have H : ((tegulalaw35_awake.f k).bind fun t628 => (if t628 = true then ((tegulalaw35_few.f k l1).bind fun t629 => (if t629 = true then ((tegulalaw35_build.f k a0 l1).bind fun bt630 => (if bt630.2.2.2 = true then ((alloc_Map_Take.f k bt630.1 bt630.2.1 (wrap64 (a2_0)) (wrap64 (a2_1))).bind fun bt639 => (if bt639.2.2.2 = 0 then (tegulalaw35_AllocRestores.l0 k bt630.2.2.1 bt639.1 0 0 a2_0 a2_1 bt630.1 bt630.2.1 bt639.2.1 bt639.2.2.1) else (some true))) else (some false))) else (some true))) else (some false))) = some r := h
 clear h
 replace H := Option.bind_eq_some_iff.mp H
 obtain ⟨t628, A40, H⟩ := H
 replace H : (if t628 = true then ((tegulalaw35_few.f k l1).bind fun t629 => (if t629 = true then ((tegulalaw35_build.f k a0 l1).bind fun bt630 => (if bt630.2.2.2 = true then ((alloc_Map_Take.f k bt630.1 bt630.2.1 (wrap64 (a2_0)) (wrap64 (a2_1))).bind fun bt639 => (if bt639.2.2.2 = 0 then (tegulalaw35_AllocRestores.l0 k bt630.2.2.1 bt639.1 0 0 a2_0 a2_1 bt630.1 bt630.2.1 bt639.2.1 bt639.2.2.1) else (some true))) else (some false))) else (some true))) else (some false)) = some r := H
 have A4 := Aside0.mk A40
 clear A40
 by_cases c5 : t628 = true
 ·
  subst c5
  have H1 : ((tegulalaw35_few.f k l1).bind fun t629 => (if t629 = true then ((tegulalaw35_build.f k a0 l1).bind fun bt630 => (if bt630.2.2.2 = true then ((alloc_Map_Take.f k bt630.1 bt630.2.1 (wrap64 (a2_0)) (wrap64 (a2_1))).bind fun bt639 => (if bt639.2.2.2 = 0 then (tegulalaw35_AllocRestores.l0 k bt630.2.2.1 bt639.1 0 0 a2_0 a2_1 bt630.1 bt630.2.1 bt639.2.1 bt639.2.2.1) else (some true))) else (some false))) else (some true))) = some r := by rw [if_pos rfl] at H; exact H
  clear H
  have H := H1
  clear H1
  replace H := Option.bind_eq_some_iff.mp H
  obtain ⟨t629, A60, H⟩ := H
  replace H : (if t629 = true then ((tegulalaw35_build.f k a0 l1).bind fun bt630 => (if bt630.2.2.2 = true then ((alloc_Map_Take.f k bt630.1 bt630.2.1 (wrap64 (a2_0)) (wrap64 (a2_1))).bind fun bt639 => (if bt639.2.2.2 = 0 then (tegulalaw35_AllocRestores.l0 k bt630.2.2.1 bt639.1 0 0 a2_0 a2_1 bt630.1 bt630.2.1 bt639.2.1 bt639.2.2.1) else (some true))) else (some false))) else (some true)) = some r := H
  have A6 := Aside0.mk A60
  clear A60
  by_cases c7 : t629 = true
  ·
   subst c7
   have H1 : ((tegulalaw35_build.f k a0 l1).bind fun bt630 => (if bt630.2.2.2 = true then ((alloc_Map_Take.f k bt630.1 bt630.2.1 (wrap64 (a2_0)) (wrap64 (a2_1))).bind fun bt639 => (if bt639.2.2.2 = 0 then (tegulalaw35_AllocRestores.l0 k bt630.2.2.1 bt639.1 0 0 a2_0 a2_1 bt630.1 bt630.2.1 bt639.2.1 bt639.2.2.1) else (some true))) else (some false))) = some r := by rw [if_pos rfl] at H; exact H
   clear H
   have H := H1
   clear H1
   replace H := Option.bind_eq_some_iff.mp H
   obtain ⟨⟨t630, t631, t634, t637⟩, A80, H⟩ := H
   replace H : (if t637 = true then ((alloc_Map_Take.f k t630 t631 (wrap64 (a2_0)) (wrap64 (a2_1))).bind fun bt639 => (if bt639.2.2.2 = 0 then (tegulalaw35_AllocRestores.l0 k t634 bt639.1 0 0 a2_0 a2_1 t630 t631 bt639.2.1 bt639.2.2.1) else (some true))) else (some false)) = some r := H
   have A8 := Aside0.mk A80
   clear A80
   by_cases c9 : t637 = true
   ·
    subst c9
    have H1 : ((alloc_Map_Take.f k t630 t631 (wrap64 (a2_0)) (wrap64 (a2_1))).bind fun bt639 => (if bt639.2.2.2 = 0 then (tegulalaw35_AllocRestores.l0 k t634 bt639.1 0 0 a2_0 a2_1 t630 t631 bt639.2.1 bt639.2.2.1) else (some true))) = some r := by rw [if_pos rfl] at H; exact H
    clear H
    have H := H1
    clear H1
    replace H := Option.bind_eq_some_iff.mp H
    obtain ⟨⟨t639, t642, t643, t646⟩, A100, H⟩ := H
    replace H : (if t646 = 0 then (tegulalaw35_AllocRestores.l0 k t634 t639 0 0 a2_0 a2_1 t630 t631 t642 t643) else (some true)) = some r := H
    have A10 := Aside0.mk A100
    clear A100
    by_cases c11 : t646 = 0
    ·
     rw [if_pos c11] at H
     have c11b0 : (t646 == 0) = true := beq_iff_eq.mpr c11
     have c11b1 : (t646 != 0) = false := bne_eq_false_iff_eq.mpr c11
     clear c11
     have H' := Aside0.mk H
     clear H
     go_enter Try.func7, Try.ntmps7
     go_wp2_with (first | ((with_reducible refine gD 5 ?_); (try (refine gate_guard (by rfl) ?_; dsimp only)); refine bE #[.int .u8 a2_0, .int .u8 a2_1] 51 ?_; intro gb627 hg w12 hbox hb; have BK627 := Aa (hbox); have GW627 := gU HB hg; have GE627 := gU HB hg; have iE627 := Nonempty.intro GE627.1; replace HB := sU HB hb; clear hb hbox hg) | ((with_reducible refine gC 10 ?_); refine gL 18 Try.func10 #[] ?_; (with_reducible refine (tegulalaw35_awake.calls k  true _ A4.1).mono ?_); rintro e w13 ⟨rfl, hb⟩; refine ⟨_, rfl, ?_⟩; replace BK627 := kB BK627 hb; replace HB := sB HB hb; (try clear hb); (try clear hk)) | ((with_reducible refine gC 20 ?_); refine gL 21 Try.func20 #[.slice A1 l1.length c1] ?_; (with_reducible refine (tegulalaw35_few.calls k _ _ l1 true _ ?side1 ?side2 A6.1).mono ?_); (case side1 => exact cU (Kd.C_below HR1.1 HB.1)); (case side2 => exact HC1.1); rintro e w' ⟨rfl, ⟨nd, rfl⟩⟩; refine ⟨_, rfl, ?_⟩; (try (rw [drewN_self w13]; generalize hq_ : World.drewN w13 _ = w13; have n0_ : Aside0 (w13.heap[gb627]? = some (.cells #[.int .u8 a2_0, .int .u8 a2_1] 51 (0, 0))) := ⟨by rw [← hq_]; exact (kU BK627.1)⟩; have n1_ : Aside0 (Below w.heap.size w w13) := ⟨by rw [← hq_]; exact (bS HB.1)⟩; clear BK627 HB hq_; have BK627 := n0_; have HB := n1_; clear n0_ n1_))) | ((with_reducible refine gC 21 ?_); refine gL 26 Try.func21 #[.int .u8 a0, .slice A1 l1.length c1] ?_; (with_reducible refine (tegulalaw35_build.calls k a0 _ _ l1 t630 t631 t634 true _ ?side1 ?side2 A8.1).mono ?_); (case side1 => exact cU (Kd.C_below HR1.1 HB.1)); (case side2 => exact HC1.1); rintro e w14 ⟨v632, v635, rfl, ho0, ho1, hb⟩; refine ⟨_, rfl, ?_⟩; have HO633 := Aa (Kd.V_lower (Kd.V_mono (ok' := fun k_ => k_ ≠ gb627) ho0 (fun k_ hk_ => (Kd.freshB (g := gb627) (o := .cells #[.int .u8 a2_0, .int .u8 a2_1] 51 (0, 0)) (kU BK627.1) k_ hk_))) (below_size (bS HB.1))); have HO636 := Aa (Kd.V_lower (Kd.V_mono (ok' := fun k_ => k_ ≠ gb627) ho1 (fun k_ hk_ => (Kd.freshB (g := gb627) (o := .cells #[.int .u8 a2_0, .int .u8 a2_1] 51 (0, 0)) (kU BK627.1) k_ hk_))) (below_size (bS HB.1))); replace BK627 := kB BK627 hb; replace HB := sB HB hb; (try clear hb); (try clear hk); (try clear ho0); (try clear ho1)) | ((with_reducible refine gD 7 ?_); (try (refine gate_guard (by rfl) ?_; dsimp only)); refine bE #[.int .i64 0, .slice none 0 0] 26 ?_; intro gb638 hg w15 hbox hb; replace HO633 := vG HO633 hg hb; replace HO636 := vG HO636 hg hb; have BK638 := Aa (hbox); have GW638 := gS HB hg; have GE638 := gS HB hg; have iE638 := Nonempty.intro GE638.1; replace HB := sB HB hb; have NB627_638 := nL BK627 hg; have NB638_627 := nG BK627 hg; replace BK627 := kB BK627 hb; clear hb hbox hg; have hnb16 := NB638_627.1; have hnc16 := NB627_638.1; have hcz17_0 : w15.cell? ⟨gb638, 0, none⟩ = some (.int .i64 0) := cC BK638 0; have hcz17_1 : w15.cell? ⟨gb638, 1, none⟩ = some (.slice none 0 0) := cC BK638 1; have hfz17_0 := fC BK638 0; have hfz17_1 := fC BK638 1; obtain ⟨Ao18, co18, eo18⟩ := Kd.V_slice HO633.1; subst eo18) | ((with_reducible refine gT 26 7 ?_); refine sE ((w15.setCell ⟨gb638, 0, none⟩ (.int .i64 t630)).setCell ⟨gb638, 1, none⟩ (.slice Ao18 t631.length co18)) ?_; intro w19 hw; have n0_ : Aside0 (Kd.V k53 53 w19 w.heap.size (fun k_ => k_ ≠ gb627 ∧ k_ ≠ gb638) (.slice Ao18 t631.length co18) t631) := ⟨(by rw [hw]; exact (vU (Kd.V_mono (Kd.V_far (p := ⟨gb638, 1, none⟩) (Kd.V_far (p := ⟨gb638, 0, none⟩) (Kd.V_mono HO633.1 (fun k_ hk => (⟨hk, hk.2⟩ : _ ∧ k_ ≠ gb638))) (fun _ hk => hk.2) (.int .i64 t630)) (fun _ hk => hk.2) (.slice Ao18 t631.length co18)) (fun _ hk => ⟨hk.1.1, hk.1.2⟩))))⟩; have n1_ : Aside0 (Kd.V Kd.bool 4 w19 w.heap.size (fun k_ => k_ ≠ gb627 ∧ k_ ≠ gb638) v635 t634) := ⟨(by rw [hw]; exact (vU (Kd.V_mono (Kd.V_far (p := ⟨gb638, 1, none⟩) (Kd.V_far (p := ⟨gb638, 0, none⟩) (Kd.V_mono HO636.1 (fun k_ hk => (⟨hk, hk.2⟩ : _ ∧ k_ ≠ gb638))) (fun _ hk => hk.2) (.int .i64 t630)) (fun _ hk => hk.2) (.slice Ao18 t631.length co18)) (fun _ hk => ⟨hk.1.1, hk.1.2⟩))))⟩; have n2_ : Aside0 (w19.heap[gb627]? = some (.cells #[.int .u8 a2_0, .int .u8 a2_1] 51 (0, 0))) := ⟨(by rw [hw]; exact (by refine kP ?_; refine blk_far ?_ NB627_638.1 _; refine kP ?_; refine blk_far ?_ NB627_638.1 _; refine kP ?_; exact BK627.1))⟩; have n3_ : Aside0 (w19.heap[gb638]? = some (.cells #[.int .i64 t630, .slice Ao18 t631.length co18] 26 (0, 0))) := ⟨(by rw [hw]; exact (by refine kP ?_; refine blk_put (cs := #[.int .i64 t630, .slice none 0 0]) ?_ 1 _ rfl; refine kP ?_; refine blk_put (cs := #[.int .i64 0, .slice none 0 0]) ?_ 0 _ rfl; refine kP ?_; exact BK638.1))⟩; have n4_ : Aside0 (Below w.heap.size w w19) := ⟨(by rw [hw]; exact (bS HB.1))⟩; clear hw; clear HO633; clear HO636; clear BK627; clear BK638; clear HB; have HO633 := n0_; have HO636 := n1_; have BK627 := n2_; have BK638 := n3_; have HB := n4_; clear n0_ n1_ n2_ n3_ n4_; have hcz20_0 : w19.cell? ⟨gb638, 0, none⟩ = some (.int .i64 t630) := cC BK638 0; have hcz20_1 : w19.cell? ⟨gb638, 1, none⟩ = some (.slice Ao18 t631.length co18) := cC BK638 1; have hfz20_0 := fC BK638 0; have hfz20_1 := fC BK638 1; have hcz21_0 : w19.cell? ⟨gb627, 0, none⟩ = some (.int .u8 a2_0) := cC BK627 0; have hcz21_1 : w19.cell? ⟨gb627, 1, none⟩ = some (.int .u8 a2_1) := cC BK627 1; have hfz21_0 := fC BK627 0; have hfz21_1 := fC BK627 1) | ((with_reducible refine gC 12 ?_); refine gL 40 Try.func12 #[.agg #[.int .i64 t630, .slice Ao18 t631.length co18], .int .i64 (wrap64 (a2_0)), .int .i64 (wrap64 (a2_1))] ?_; (with_reducible refine (alloc_Map_Take.calls k t630 (fun k_ => (k_ ≠ gb627 ∧ k_ ≠ gb638)) _ _ t631 (wrap64 (a2_0)) (wrap64 (a2_1)) t639 t642 t643 t646 _ ?side1 A10.1).mono ?_); (case side1 => exact HO633.1); rintro e w22 ⟨v640, v644, rfl, ho0, ho1, hb⟩; refine ⟨_, rfl, ?_⟩; replace HO633 := vE HO633 ho0 hb; replace HO636 := vE HO636 ho0 hb; have HO641 := Aa (Kd.R_lower (Kd.R_mono (ok' := fun k_ => True) ho0 (fun _ hk_ => trivial)) (below_size (bS HB.1))); have HO645 := Aa (Kd.V_lower (Kd.V_mono (ok' := fun k_ => some k_ ≠ (v640 : Value).ownBlock ∧ k_ ≠ gb627 ∧ k_ ≠ gb638) ho1 (fun k_ hk_ => ⟨hk_.2, Or.elim hk_.1 (fun hs_ => hs_.1) (fun hn_ => (Kd.freshB (g := gb627) (o := .cells #[.int .u8 a2_0, .int .u8 a2_1] 51 (0, 0)) (kU BK627.1) k_ hn_)), Or.elim hk_.1 (fun hs_ => hs_.2) (fun hn_ => (Kd.freshB (g := gb638) (o := .cells #[.int .i64 t630, .slice Ao18 t631.length co18] 26 (0, 0)) (kU BK638.1) k_ hn_))⟩)) (below_size (bS HB.1))); replace BK627 := kB BK627 hb; replace BK638 := kB BK638 hb; replace HB := sB HB hb; (try clear hb); (try clear hk); (try clear ho0); (try clear ho1)) | ((with_reducible refine gD 11 ?_); (try (refine gate_guard (by rfl) ?_; dsimp only)); refine bE #[.int .i64 0, .slice none 0 0] 26 ?_; intro gb647 hg w23 hbox hb; replace HO633 := vG HO633 hg hb; replace HO636 := vG HO636 hg hb; replace HO641 := rB HO641 hb; replace HO645 := vG HO645 hg hb; have BK647 := Aa (hbox); have GW647 := gS HB hg; have GE647 := gS HB hg; have iE647 := Nonempty.intro GE647.1; replace HB := sB HB hb; have NB627_647 := nL BK627 hg; have NB647_627 := nG BK627 hg; replace BK627 := kB BK627 hb; have NB638_647 := nL BK638 hg; have NB647_638 := nG BK638 hg; replace BK638 := kB BK638 hb; clear hb hbox hg; have hnb24 := NB647_627.1; have hnc24 := NB627_647.1; have hnb25 := NB647_638.1; have hnc25 := NB638_647.1; have hcz26_0 : w23.cell? ⟨gb647, 0, none⟩ = some (.int .i64 0) := cC BK647 0; have hcz26_1 : w23.cell? ⟨gb647, 1, none⟩ = some (.slice none 0 0) := cC BK647 1; have hfz26_0 := fC BK647 0; have hfz26_1 := fC BK647 1; obtain ⟨Ao27, co27, eo27⟩ := Kd.V_slice HO645.1; subst eo27))
     go_loopg [13, 14] k (fun kq v13 v14 w' => ∃ (x13_1 : Int) (x14_1 : Int), v13 = .int .i64 x13_1 ∧ v14 = .int .i64 x14_1 ∧ Aside0 (tegulalaw35_AllocRestores.l0 kq t634 t639 x13_1 x14_1 a2_0 a2_1 t630 t631 t642 t643 = some r) ∧ Aside0 (kq ≤ k) ∧ Aside0 (Kd.V Kd.bool 4 w' w.heap.size (fun k_ => some k_ ≠ (v640 : Value).ownBlock ∧ k_ ≠ gb627 ∧ k_ ≠ gb638 ∧ k_ ≠ gb647) v635 t634) ∧ Aside0 (Kd.R k53 53 w' w.heap.size (fun _ => True) v640 t639) ∧ Aside0 (Kd.V k53 53 w' w.heap.size (fun k_ => some k_ ≠ (v640 : Value).ownBlock ∧ k_ ≠ gb627 ∧ k_ ≠ gb638 ∧ k_ ≠ gb647) (.slice Ao18 t631.length co18) t631) ∧ Aside0 (Kd.V k53 53 w' w.heap.size (fun k_ => some k_ ≠ (v640 : Value).ownBlock ∧ k_ ≠ gb627 ∧ k_ ≠ gb638 ∧ k_ ≠ gb647) (.slice Ao27 t643.length co27) t643) ∧ Aside0 (w'.heap[gb627]? = some (.cells #[.int .u8 a2_0, .int .u8 a2_1] 51 (0, 0))) ∧ Aside0 (w'.heap[gb638]? = some (.cells #[.int .i64 t630, (.slice Ao18 t631.length co18)] 26 (0, 0))) ∧ Aside0 (w'.heap[gb647]? = some (.cells #[.int .i64 t642, (.slice Ao27 t643.length co27)] 26 (0, 0))) ∧ Aside0 (Below w.heap.size w w'))
     case atStart => exact ⟨(0), (0), (by first | rfl | (simp; done) | (simp [*]; done)), (by first | rfl | (simp; done) | (simp [*]; done)), H', ⟨Nat.le_refl _⟩, ⟨vU (Kd.V_mono (Kd.V_far (p := ⟨gb647, 1, none⟩) (Kd.V_far (p := ⟨gb647, 0, none⟩) (Kd.V_mono HO636.1 (fun k_ hk => (⟨hk, hk.2⟩ : _ ∧ k_ ≠ gb647))) (fun _ hk => hk.2) (.int .i64 t642)) (fun _ hk => hk.2) (.slice Ao27 t643.length co27)) (fun _ hk => ⟨hk.1.1.2, ⟨hk.1.1.1.1, ⟨hk.1.1.1.2, hk.1.2⟩⟩⟩))⟩, ⟨rU (Kd.R_mono (Kd.R_far (p := ⟨gb647, 1, none⟩) (Kd.R_far (p := ⟨gb647, 0, none⟩) (Kd.R_types HO641.1 BK647.1 (by decide)) (fun _ hk => hk.2) (.int .i64 t642)) (fun _ hk => hk.2) (.slice Ao27 t643.length co27)) (fun _ hk => trivial))⟩, ⟨vU (Kd.V_mono (Kd.V_far (p := ⟨gb647, 1, none⟩) (Kd.V_far (p := ⟨gb647, 0, none⟩) (Kd.V_mono HO633.1 (fun k_ hk => (⟨hk, hk.2⟩ : _ ∧ k_ ≠ gb647))) (fun _ hk => hk.2) (.int .i64 t642)) (fun _ hk => hk.2) (.slice Ao27 t643.length co27)) (fun _ hk => ⟨hk.1.1.2, ⟨hk.1.1.1.1, ⟨hk.1.1.1.2, hk.1.2⟩⟩⟩))⟩, ⟨vU (Kd.V_mono (Kd.V_far (p := ⟨gb647, 1, none⟩) (Kd.V_far (p := ⟨gb647, 0, none⟩) (Kd.V_mono HO645.1 (fun k_ hk => (⟨hk, hk.2⟩ : _ ∧ k_ ≠ gb647))) (fun _ hk => hk.2) (.int .i64 t642)) (fun _ hk => hk.2) (.slice Ao27 t643.length co27)) (fun _ hk => ⟨hk.1.1.1, ⟨hk.1.1.2.1, ⟨hk.1.1.2.2, hk.1.2⟩⟩⟩))⟩, ⟨by refine kP ?_; refine blk_far ?_ NB627_647.1 _; refine kP ?_; refine blk_far ?_ NB627_647.1 _; refine kP ?_; exact BK627.1⟩, ⟨by refine kP ?_; refine blk_far ?_ NB638_647.1 _; refine kP ?_; refine blk_far ?_ NB638_647.1 _; refine kP ?_; exact BK638.1⟩, ⟨by refine kP ?_; refine blk_put (cs := #[.int .i64 t642, .slice none 0 0]) ?_ 1 _ rfl; refine kP ?_; refine blk_put (cs := #[.int .i64 0, .slice none 0 0]) ?_ 0 _ rfl; refine kP ?_; exact BK647.1⟩, ⟨bS HB.1⟩⟩
     case round =>
      clear H'
      try clear c1
      try clear c2
      try clear p2
      try clear c5
      try clear p6
      try clear c7
      try clear c9
      try clear c10
      try clear c11
      try clear c11b0
      try clear c11b1
      try clear c12
      try clear c16
      try clear c20
      try clear c21
      try clear c24
      try clear c25
      try clear hcz17_0
      try clear hcz17_1
      try clear hcz20_0
      try clear hcz20_1
      try clear hcz21_0
      try clear hcz21_1
      try clear hcz26_0
      try clear hcz26_1
      try clear hfz17_0
      try clear hfz17_1
      try clear hfz20_0
      try clear hfz20_1
      try clear hfz21_0
      try clear hfz21_1
      try clear hfz26_0
      try clear hfz26_1
      obtain ⟨x13_1, x14_1, rfl, rfl, HA, HK1, HO_8, HO_10, HO_639001, HO_648001, BK627, BK638, BK647, HB⟩ := hrel
      cases gk with
      | zero => exact absurd HA.1 (by simp [tegulalaw35_AllocRestores.l0])
      | succ k1 =>
       have H := HA.1
       clear HA
       simp only [tegulalaw35_AllocRestores.l0] at H
       by_cases c28 : x14_1 < (t639.length : Int)
       ·
        rw [if_pos c28] at H
        have c28b0 := decide_eq_true c28
        clear c28
        by_cases c29 : 0 ≤ x14_1
        ·
         rw [if_pos c29] at H
         have c29b0 := decide_eq_true c29
         clear c29
         have H' := Aside0.mk H
         clear H
         obtain ⟨Ao30, co30, eo30⟩ := Kd.R_slice HO_10.1
         subst eo30
         have p648 : 0 ≤ (x14_1 : Int) := dT
         have q648 : x14_1 < (t639.length : Int) := dT
         obtain ⟨ad648, e648, hx648_0, hx648_1, hx648_2⟩ := at_T53 (Kd.R_reads' HO_10.1).2.2 x14_1 p648 q648
         cases e648
         replace p648 := eq_true p648
         replace q648 := eq_true q648
         go_wp2
         go_loopg [13, 15] k1 (fun kq v13 v15 w' => ∃ (x13_2 : Int) (x15_2 : Int), v13 = .int .i64 x13_2 ∧ v15 = .int .i64 x15_2 ∧ Aside0 (tegulalaw35_AllocRestores.l1 kq t634 t639 x13_2 x14_1 x15_2 a2_0 a2_1 t630 t631 t642 t643 = some r) ∧ Aside0 (kq ≤ k1) ∧ Aside0 (Kd.V Kd.bool 4 w' w.heap.size (fun k_ => some k_ ≠ ((.slice (some ad648) t639.length co30) : Value).ownBlock ∧ k_ ≠ gb627 ∧ k_ ≠ gb638 ∧ k_ ≠ gb647) v635 t634) ∧ Aside0 (Kd.R k53 53 w' w.heap.size (fun _ => True) (.slice (some ad648) t639.length co30) t639) ∧ Aside0 (Kd.V k53 53 w' w.heap.size (fun k_ => some k_ ≠ ((.slice (some ad648) t639.length co30) : Value).ownBlock ∧ k_ ≠ gb627 ∧ k_ ≠ gb638 ∧ k_ ≠ gb647) (.slice Ao18 t631.length co18) t631) ∧ Aside0 (Kd.V k53 53 w' w.heap.size (fun k_ => some k_ ≠ ((.slice (some ad648) t639.length co30) : Value).ownBlock ∧ k_ ≠ gb627 ∧ k_ ≠ gb638 ∧ k_ ≠ gb647) (.slice Ao27 t643.length co27) t643) ∧ Aside0 (w'.heap[gb627]? = some (.cells #[.int .u8 a2_0, .int .u8 a2_1] 51 (0, 0))) ∧ Aside0 (w'.heap[gb638]? = some (.cells #[.int .i64 t630, (.slice Ao18 t631.length co18)] 26 (0, 0))) ∧ Aside0 (w'.heap[gb647]? = some (.cells #[.int .i64 t642, (.slice Ao27 t643.length co27)] 26 (0, 0))) ∧ Aside0 (Below w.heap.size w w'))
         case atStart => exact ⟨(x13_1), ((rd_T53 t639 x14_1).f2), (by first | rfl | (simp; done) | (simp [*]; done)), (by first | rfl | (simp; done) | (simp [*]; done)), H', ⟨Nat.le_refl _⟩, ⟨vU HO_8.1⟩, ⟨rU HO_10.1⟩, ⟨vU HO_639001.1⟩, ⟨vU HO_648001.1⟩, ⟨by refine kP ?_; exact BK627.1⟩, ⟨by refine kP ?_; exact BK638.1⟩, ⟨by refine kP ?_; exact BK647.1⟩, ⟨bS HB.1⟩⟩
         case round =>
          clear H'
          try clear c1
          try clear c2
          try clear p2
          try clear c5
          try clear p6
          try clear q6
          try clear hx6
          try clear c7
          try clear c9
          try clear c10
          try clear c11
          try clear c11b0
          try clear c11b1
          try clear c12
          try clear c16
          try clear c20
          try clear c21
          try clear c24
          try clear c25
          try clear c28
          try clear c28b0
          try clear c29
          try clear c29b0
          try clear hcz17_0
          try clear hcz17_1
          try clear hcz20_0
          try clear hcz20_1
          try clear hcz21_0
          try clear hcz21_1
          try clear hcz26_0
          try clear hcz26_1
          try clear hfz17_0
          try clear hfz17_1
          try clear hfz20_0
          try clear hfz20_1
          try clear hfz21_0
          try clear hfz21_1
          try clear hfz26_0
          try clear hfz26_1
          try clear hx648_0
          try clear hx648_1
          try clear hx648_2
          try clear p2
          try clear p6
          try clear p648
          try clear q648
          obtain ⟨x13_2, x15_2, rfl, rfl, HA, HK2, HO_8, HO_10, HO_639001, HO_648001, BK627, BK638, BK647, HB⟩ := hrel
          cases gk with
          | zero => exact absurd HA.1 (by simp [tegulalaw35_AllocRestores.l1])
          | succ k2 =>
           have H := HA.1
           clear HA
           simp only [tegulalaw35_AllocRestores.l1] at H
           by_cases c31 : 0 ≤ x14_1
           ·
            rw [if_pos c31] at H
            have c31b0 := decide_eq_true c31
            clear c31
            by_cases c32 : x14_1 < (t639.length : Int)
            ·
             rw [if_pos c32] at H
             have c32b0 := decide_eq_true c32
             clear c32
             by_cases c33 : x15_2 < (wrap64 (((rd_T53 t639 x14_1).f2) + ((rd_T53 t639 x14_1).f1)))
             ·
              rw [if_pos c33] at H
              have c33b0 := decide_eq_true c33
              clear c33
              by_cases c34 : x15_2 < 0
              ·
               rw [if_pos c34] at H
               have c34b0 := decide_eq_true c34
               clear c34
               obtain rfl := Option.some.inj H
               exact Bool.noConfusion h0_.1
              ·
               rw [if_neg c34] at H
               have c34b0 := decide_eq_false c34
               clear c34
               by_cases c36 : x15_2 ≥ (t634.length : Int)
               ·
                rw [if_pos c36] at H
                have c36b0 := decide_eq_true c36
                clear c36
                obtain rfl := Option.some.inj H
                exact Bool.noConfusion h0_.1
               ·
                rw [if_neg c36] at H
                have c36b0 := decide_eq_false c36
                clear c36
                by_cases c39 : 0 ≤ x15_2
                ·
                 rw [if_pos c39] at H
                 have c39b0 := decide_eq_true c39
                 clear c39
                 by_cases c40 : x15_2 < (t634.length : Int)
                 ·
                  rw [if_pos c40] at H
                  have c40b0 := decide_eq_true c40
                  clear c40
                  obtain ⟨bq41, hbq41⟩ : ∃ b_ : Bool, b_ = (rdOf false t634 x15_2) := ⟨_, rfl⟩
                  replace H : (if bq41 = true then (some false) else ((alloc_Map_Is.f k2 t642 t643 x15_2).bind fun t652 => (if t652 = true then (some false) else (if (wrap64 (x13_2 + 1)) > 100 then (some false) else (tegulalaw35_AllocRestores.l1 k2 t634 t639 (wrap64 (x13_2 + 1)) x14_1 (wrap64 (x15_2 + 1)) a2_0 a2_1 t630 t631 t642 t643))))) = some r := by rw [← hbq41] at H; exact H
                  have Nbq41 := Aside0.mk hbq41
                  clear hbq41
                  by_cases c42 : bq41 = true
                  ·
                   subst c42
                   have H1 : (some false) = some r := by rw [if_pos rfl] at H; exact H
                   clear H
                   have H := H1
                   clear H1
                   obtain rfl := Option.some.inj H
                   exact Bool.noConfusion h0_.1
                  ·
                   replace c42 := Bool.eq_false_iff.mpr c42
                   subst c42
                   have H1 : ((alloc_Map_Is.f k2 t642 t643 x15_2).bind fun t652 => (if t652 = true then (some false) else (if (wrap64 (x13_2 + 1)) > 100 then (some false) else (tegulalaw35_AllocRestores.l1 k2 t634 t639 (wrap64 (x13_2 + 1)) x14_1 (wrap64 (x15_2 + 1)) a2_0 a2_1 t630 t631 t642 t643)))) = some r := by rw [if_neg (show ¬ (false = true) by decide)] at H; exact H
                   clear H
                   have H := H1
                   clear H1
                   replace H := Option.bind_eq_some_iff.mp H
                   obtain ⟨t652, A450, H⟩ := H
                   replace H : (if t652 = true then (some false) else (if (wrap64 (x13_2 + 1)) > 100 then (some false) else (tegulalaw35_AllocRestores.l1 k2 t634 t639 (wrap64 (x13_2 + 1)) x14_1 (wrap64 (x15_2 + 1)) a2_0 a2_1 t630 t631 t642 t643))) = some r := H
                   have A45 := Aside0.mk A450
                   clear A450
                   by_cases c46 : t652 = true
                   ·
                    subst c46
                    have H1 : (some false) = some r := by rw [if_pos rfl] at H; exact H
                    clear H
                    have H := H1
                    clear H1
                    obtain rfl := Option.some.inj H
                    exact Bool.noConfusion h0_.1
                   ·
                    replace c46 := Bool.eq_false_iff.mpr c46
                    subst c46
                    have H1 : (if (wrap64 (x13_2 + 1)) > 100 then (some false) else (tegulalaw35_AllocRestores.l1 k2 t634 t639 (wrap64 (x13_2 + 1)) x14_1 (wrap64 (x15_2 + 1)) a2_0 a2_1 t630 t631 t642 t643)) = some r := by rw [if_neg (show ¬ (false = true) by decide)] at H; exact H
                    clear H
                    have H := H1
                    clear H1
                    by_cases c53 : (wrap64 (x13_2 + 1)) > 100
                    ·
                     rw [if_pos c53] at H
                     have c53b0 := decide_eq_true c53
                     clear c53
                     obtain rfl := Option.some.inj H
                     exact Bool.noConfusion h0_.1
                    ·
                     rw [if_neg c53] at H
                     have c53b0 := decide_eq_false c53
                     clear c53
                     have H' := Aside0.mk H
                     clear H
                     try go_wp2
                     replace HO_8 := Aa (Kd.V_drew HO_8.1)
                     replace HO_10 := Aa (Kd.R_drew HO_10.1)
                     replace HO_639001 := Aa (Kd.V_drew HO_639001.1)
                     replace HO_648001 := Aa (Kd.V_drew HO_648001.1)
                     replace BK627 := Aa (blk_drew BK627.1)
                     replace BK638 := Aa (blk_drew BK638.1)
                     replace BK647 := Aa (blk_drew BK647.1)
                     replace HB := Aa (below_drew1 HB.1)
                     have p649 : 0 ≤ (x14_1 : Int) := dT
                     have q649 : x14_1 < (t639.length : Int) := dT
                     obtain ⟨ad649, e649, hx649_0, hx649_1, hx649_2⟩ := at_T53 (Kd.R_reads' HO_10.1).2.2 x14_1 p649 q649
                     obtain rfl : ad648 = ad649 := (by injection e649)
                     replace p649 := eq_true p649
                     replace q649 := eq_true q649
                     have p650 : 0 ≤ (x14_1 : Int) := dT
                     have q650 : x14_1 < (t639.length : Int) := dT
                     obtain ⟨ad650, e650, hx650_0, hx650_1, hx650_2⟩ := at_T53 (Kd.R_reads' HO_10.1).2.2 x14_1 p650 q650
                     obtain rfl : ad648 = ad650 := (by injection e650)
                     replace p650 := eq_true p650
                     replace q650 := eq_true q650
                     refine start_ (n := 13) (S := fun w' => w'.cell? (ad648.add ((x14_1).toNat * 3)) = some (.int .i64 ((rd_T53 t639 x14_1).f0)) ∧ w'.cell? ⟨(ad648.add ((x14_1).toNat * 3)).block, (ad648.add ((x14_1).toNat * 3)).off + 1, none⟩ = some (.int .i64 ((rd_T53 t639 x14_1).f1)) ∧ w'.cell? ⟨(ad648.add ((x14_1).toNat * 3)).block, (ad648.add ((x14_1).toNat * 3)).off + 2, none⟩ = some (.int .i64 ((rd_T53 t639 x14_1).f2)) ∧ w'.cell? (ad648.add ((x14_1).toNat * 3)) = some (.int .i64 ((rd_T53 t639 x14_1).f0)) ∧ w'.cell? ⟨(ad648.add ((x14_1).toNat * 3)).block, (ad648.add ((x14_1).toNat * 3)).off + 1, none⟩ = some (.int .i64 ((rd_T53 t639 x14_1).f1)) ∧ w'.cell? ⟨(ad648.add ((x14_1).toNat * 3)).block, (ad648.add ((x14_1).toNat * 3)).off + 2, none⟩ = some (.int .i64 ((rd_T53 t639 x14_1).f2))) (ds := []) (bm 13 0) (by kernel_rfl) rfl (bm0 _) ⟨hx649_0, hx649_1, hx649_2, hx650_0, hx650_1, hx650_2⟩ (fun hHeld => ?_); refine with_tabW tegulalaw35_AllocRestores.tab16 tegulalaw35_AllocRestores.bits16 (fun HT_ HW_ => ?_)
                     generalize wr.drew = w60 at HO_8 HO_10 HO_639001 HO_648001 BK627 BK638 BK647 HB hx649_0 hx649_1 hx649_2 hx650_0 hx650_1 hx650_2 hHeld ⊢
                     refine pA 1 0 57 ?_
                     refine pA 3 1 58 ?_
                     refine pA 7 2 59 ?_
                     refine pA 15 3 60 ?_
                     refine pA 31 4 61 ?_
                     refine pA 95 6 63 ?_
                     refine pA 223 7 64 ?_
                     refine pA 479 8 65 ?_
                     refine pA 991 9 66 ?_
                     refine tA 1023 5 62 hHeld ?_
                     refine tA 2047 10 67 hHeld ?_
                     refine pA 4095 11 68 ?_
                     refine pA 8191 12 69 ?_
                     refine done_ (done_of HT_.1 (by kernel_rfl)) ?_
                     obtain ⟨Ao61, co61, eo61⟩ := Kd.V_slice HO_8.1
                     subst eo61
                     have p651 : 0 ≤ (x15_2 : Int) := dT
                     have q651 : x15_2 < (t634.length : Int) := dT
                     obtain ⟨ad651, e651, hx651_0⟩ := Kd.at_bool (Kd.V_reads' HO_8.1).2.2 x15_2 p651 q651
                     (try rw [← Nbq41.1] at hx651_0)
                     cases e651
                     replace p651 := eq_true p651
                     replace q651 := eq_true q651
                     have hnb62 := NB647_627.1
                     have hnc62 := NB627_647.1
                     have hnb63 := NB647_638.1
                     have hnc63 := NB638_647.1
                     have hcz64_0 : w60.cell? ⟨gb647, 0, none⟩ = some (.int .i64 t642) := cC BK647 0
                     have hcz64_1 : w60.cell? ⟨gb647, 1, none⟩ = some (.slice Ao27 t643.length co27) := cC BK647 1
                     have hfz64_0 := fC BK647 0
                     have hfz64_1 := fC BK647 1
                     try go_wp2_with (first | (go_at_call 19; (with_reducible refine (alloc_Map_Is.calls k2 t642 _ _ t643 x15_2 false _ ?side1 ?side2 A45.1).mono ?_); (case side1 => repeat (first | exact (Kd.V_reads' HO_648001.1).2.2 | (with_reducible refine Kd.C_alloc ?_ _) | (with_reducible refine Kd.C_drewN ?_ _) | (with_reducible refine Kd.C_drew ?_))); (case side2 => exact (Kd.V_reads' HO_648001.1).2.1); rintro e w65 ⟨rfl, hb⟩; replace HO_8 := vB HO_8 hb; replace HO_10 := rB HO_10 hb; replace HO_639001 := vB HO_639001 hb; replace HO_648001 := vB HO_648001 hb; replace BK627 := kB BK627 hb; replace BK638 := kB BK638 hb; replace BK647 := kB BK647 hb; replace HB := sB HB hb; (try clear hb)))
                     go_roundg k2
                     case measure => have := HK1.1; have := HK2.1; omega
                     case rel => exact ⟨(wrap64 (x13_2 + 1)), (wrap64 (x15_2 + 1)), (by first | rfl | (simp; done) | (simp [*]; done)), (by first | rfl | (simp; done) | (simp [*]; done)), H', ⟨by have := HK1.1; have := HK2.1; omega⟩, ⟨vU HO_8.1⟩, ⟨rU HO_10.1⟩, ⟨vU HO_639001.1⟩, ⟨vU HO_648001.1⟩, ⟨by refine kP ?_; exact BK627.1⟩, ⟨by refine kP ?_; exact BK638.1⟩, ⟨by refine kP ?_; exact BK647.1⟩, ⟨bS HB.1⟩⟩
                 ·
                  rw [if_neg c40] at H
                  exact absurd H (by simp)
                ·
                 rw [if_neg c39] at H
                 exact absurd H (by simp)
             ·
              rw [if_neg c33] at H
              have c33b0 := decide_eq_false c33
              clear c33
              have H' := Aside0.mk H
              clear H
              try go_wp2
              replace HO_8 := Aa (Kd.V_drew HO_8.1)
              replace HO_10 := Aa (Kd.R_drew HO_10.1)
              replace HO_639001 := Aa (Kd.V_drew HO_639001.1)
              replace HO_648001 := Aa (Kd.V_drew HO_648001.1)
              replace BK627 := Aa (blk_drew BK627.1)
              replace BK638 := Aa (blk_drew BK638.1)
              replace BK647 := Aa (blk_drew BK647.1)
              replace HB := Aa (below_drew1 HB.1)
              have p649 : 0 ≤ (x14_1 : Int) := dT
              have q649 : x14_1 < (t639.length : Int) := dT
              obtain ⟨ad649, e649, hx649_0, hx649_1, hx649_2⟩ := at_T53 (Kd.R_reads' HO_10.1).2.2 x14_1 p649 q649
              obtain rfl : ad648 = ad649 := (by injection e649)
              replace p649 := eq_true p649
              replace q649 := eq_true q649
              have p650 : 0 ≤ (x14_1 : Int) := dT
              have q650 : x14_1 < (t639.length : Int) := dT
              obtain ⟨ad650, e650, hx650_0, hx650_1, hx650_2⟩ := at_T53 (Kd.R_reads' HO_10.1).2.2 x14_1 p650 q650
              obtain rfl : ad648 = ad650 := (by injection e650)
              replace p650 := eq_true p650
              replace q650 := eq_true q650
              refine start_ (n := 13) (S := fun w' => w'.cell? (ad648.add ((x14_1).toNat * 3)) = some (.int .i64 ((rd_T53 t639 x14_1).f0)) ∧ w'.cell? ⟨(ad648.add ((x14_1).toNat * 3)).block, (ad648.add ((x14_1).toNat * 3)).off + 1, none⟩ = some (.int .i64 ((rd_T53 t639 x14_1).f1)) ∧ w'.cell? ⟨(ad648.add ((x14_1).toNat * 3)).block, (ad648.add ((x14_1).toNat * 3)).off + 2, none⟩ = some (.int .i64 ((rd_T53 t639 x14_1).f2)) ∧ w'.cell? (ad648.add ((x14_1).toNat * 3)) = some (.int .i64 ((rd_T53 t639 x14_1).f0)) ∧ w'.cell? ⟨(ad648.add ((x14_1).toNat * 3)).block, (ad648.add ((x14_1).toNat * 3)).off + 1, none⟩ = some (.int .i64 ((rd_T53 t639 x14_1).f1)) ∧ w'.cell? ⟨(ad648.add ((x14_1).toNat * 3)).block, (ad648.add ((x14_1).toNat * 3)).off + 2, none⟩ = some (.int .i64 ((rd_T53 t639 x14_1).f2))) (ds := []) (bm 13 0) (by kernel_rfl) rfl (bm0 _) ⟨hx649_0, hx649_1, hx649_2, hx650_0, hx650_1, hx650_2⟩ (fun hHeld => ?_); refine with_tabW tegulalaw35_AllocRestores.tab16 tegulalaw35_AllocRestores.bits16 (fun HT_ HW_ => ?_)
              generalize wr.drew = w66 at HO_8 HO_10 HO_639001 HO_648001 BK627 BK638 BK647 HB hx649_0 hx649_1 hx649_2 hx650_0 hx650_1 hx650_2 hHeld ⊢
              refine pA 1 0 57 ?_
              refine pA 3 1 58 ?_
              refine pA 7 2 59 ?_
              refine pA 15 3 60 ?_
              refine pA 31 4 61 ?_
              refine pA 95 6 63 ?_
              refine pA 223 7 64 ?_
              refine pA 479 8 65 ?_
              refine pA 991 9 66 ?_
              refine tA 1023 5 62 hHeld ?_
              refine tA 2047 10 67 hHeld ?_
              refine pA 4095 11 68 ?_
              refine pA 8191 12 69 ?_
              refine done_ (done_of HT_.1 (by kernel_rfl)) ?_
              try go_wp2
              go_roundg k2
              case measure => have := HK1.1; have := HK2.1; omega
              case rel => exact ⟨(x13_2), (wrap64 (x14_1 + 1)), (by first | rfl | (simp; done) | (simp [*]; done)), (by first | rfl | (simp; done) | (simp [*]; done)), H', ⟨by have := HK1.1; have := HK2.1; omega⟩, ⟨vU HO_8.1⟩, ⟨rU HO_10.1⟩, ⟨vU HO_639001.1⟩, ⟨vU HO_648001.1⟩, ⟨by refine kP ?_; exact BK627.1⟩, ⟨by refine kP ?_; exact BK638.1⟩, ⟨by refine kP ?_; exact BK647.1⟩, ⟨bS HB.1⟩⟩
            ·
             rw [if_neg c32] at H
             exact absurd H (by simp)
           ·
            rw [if_neg c31] at H
            exact absurd H (by simp)
        ·
         rw [if_neg c29] at H
         exact absurd H (by simp)
       ·
        rw [if_neg c28] at H
        have c28b0 := decide_eq_false c28
        clear c28
        replace H := Option.bind_eq_some_iff.mp H
        obtain ⟨⟨t653, t654, t657⟩, A670, H⟩ := H
        replace H : (if t657 = 0 then (if x13_1 = (wrap64 (a2_0)) then ((tegulalaw35_same.f k1 t653 t654 t634).bind fun t659 => (if t659 = true then ((alloc_Map_Free.f k1 t642 t643).bind fun t660 => ((alloc_Map_Free.f k1 t630 t631).bind fun t661 => (some (t660 == (wrap64 (t661 - x13_1)))))) else (some false))) else (some false)) else (some false)) = some r := H
        have A67 := Aside0.mk A670
        clear A670
        by_cases c68 : t657 = 0
        ·
         rw [if_pos c68] at H
         have c68b0 : (t657 == 0) = true := beq_iff_eq.mpr c68
         have c68b1 : (t657 != 0) = false := bne_eq_false_iff_eq.mpr c68
         clear c68
         by_cases c69 : x13_1 = (wrap64 (a2_0))
         ·
          rw [if_pos c69] at H
          have c69b0 : (x13_1 == (wrap64 (a2_0))) = true := beq_iff_eq.mpr c69
          have c69b1 : (x13_1 != (wrap64 (a2_0))) = false := bne_eq_false_iff_eq.mpr c69
          clear c69
          replace H := Option.bind_eq_some_iff.mp H
          obtain ⟨t659, A700, H⟩ := H
          replace H : (if t659 = true then ((alloc_Map_Free.f k1 t642 t643).bind fun t660 => ((alloc_Map_Free.f k1 t630 t631).bind fun t661 => (some (t660 == (wrap64 (t661 - x13_1)))))) else (some false)) = some r := H
          have A70 := Aside0.mk A700
          clear A700
          by_cases c71 : t659 = true
          ·
           subst c71
           have H1 : ((alloc_Map_Free.f k1 t642 t643).bind fun t660 => ((alloc_Map_Free.f k1 t630 t631).bind fun t661 => (some (t660 == (wrap64 (t661 - x13_1)))))) = some r := by rw [if_pos rfl] at H; exact H
           clear H
           have H := H1
           clear H1
           replace H := Option.bind_eq_some_iff.mp H
           obtain ⟨t660, A720, H⟩ := H
           replace H : ((alloc_Map_Free.f k1 t630 t631).bind fun t661 => (some (t660 == (wrap64 (t661 - x13_1))))) = some r := H
           have A72 := Aside0.mk A720
           clear A720
           replace H := Option.bind_eq_some_iff.mp H
           obtain ⟨t661, A730, H⟩ := H
           replace H : (some (t660 == (wrap64 (t661 - x13_1)))) = some r := H
           have A73 := Aside0.mk A730
           clear A730
           obtain rfl := Option.some.inj H
           obtain ⟨Ao74, co74, eo74⟩ := Kd.R_slice HO_10.1
           subst eo74
           have hnb75 := NB647_627.1
           have hnc75 := NB627_647.1
           have hnb76 := NB647_638.1
           have hnc76 := NB638_647.1
           have hcz77_0 : wr.cell? ⟨gb647, 0, none⟩ = some (.int .i64 t642) := cC BK647 0
           have hcz77_1 : wr.cell? ⟨gb647, 1, none⟩ = some (.slice Ao27 t643.length co27) := cC BK647 1
           have hfz77_0 := fC BK647 0
           have hfz77_1 := fC BK647 1
           try go_wp2_with (first | ((with_reducible refine gC 25 ?_); refine gL 100 Try.func25 #[.agg #[.int .i64 t642, .slice Ao27 t643.length co27], .slice Ao74 t639.length co74] ?_; (with_reducible refine (alloc_Map_Give.calls k1 t642 (fun k_ => (nb k_ Ao74 t639.length co74 ∧ (k_ ≠ gb627 ∧ (k_ ≠ gb638 ∧ k_ ≠ gb647)))) _ _ t643 _ _ t639 t653 t654 t657 _ ?side1 ?side2 ?side3 A67.1).mono ?_); (case side1 => exact HO_648001.1); (case side2 => repeat (first | exact (Kd.R_reads' HO_10.1).2.2 | (with_reducible refine Kd.C_alloc ?_ _) | (with_reducible refine Kd.C_drewN ?_ _) | (with_reducible refine Kd.C_drew ?_))); (case side3 => exact (Kd.R_reads' HO_10.1).2.1); rintro e w78 ⟨v655, rfl, ho0, hb⟩; refine ⟨_, rfl, ?_⟩; replace HO_8 := vE HO_8 ho0 hb; replace HO_639001 := vE HO_639001 ho0 hb; replace HO_648001 := vE HO_648001 ho0 hb; have HO656 := Aa (Kd.R_lower (Kd.R_new' (Kd.R_mono (ok' := fun k_ => True) ho0 (fun _ hk_ => trivial)) (Kd.R_lt (rU HO_10.1))) (below_size (bS HB.1))); replace HO_10 := rE HO_10 ho0 hb; replace BK627 := kB BK627 hb; replace BK638 := kB BK638 hb; replace BK647 := kB BK647 hb; replace HB := sB HB hb; (try clear hb); (try clear ho0)) | ((with_reducible refine gD 16 ?_); (try (refine gate_guard (by rfl) ?_; dsimp only)); refine bE #[.int .i64 0, .slice none 0 0] 26 ?_; intro gb658 hg w79 hbox hb; replace HO_8 := vG HO_8 hg hb; replace HO_10 := rB HO_10 hb; replace HO_639001 := vG HO_639001 hg hb; replace HO_648001 := vG HO_648001 hg hb; replace HO656 := rB HO656 hb; have BK658 := Aa (hbox); have GW658 := gS HB hg; have GE658 := gS HB hg; have iE658 := Nonempty.intro GE658.1; replace HB := sB HB hb; have NB627_658 := nL BK627 hg; have NB658_627 := nG BK627 hg; replace BK627 := kB BK627 hb; have NB638_658 := nL BK638 hg; have NB658_638 := nG BK638 hg; replace BK638 := kB BK638 hb; have NB647_658 := nL BK647 hg; have NB658_647 := nG BK647 hg; replace BK647 := kB BK647 hb; clear hb hbox hg; have hnb80 := NB658_627.1; have hnc80 := NB627_658.1; have hnb81 := NB658_638.1; have hnc81 := NB638_658.1; have hnb82 := NB658_647.1; have hnc82 := NB647_658.1; have hcz83_0 : w79.cell? ⟨gb658, 0, none⟩ = some (.int .i64 0) := cC BK658 0; have hcz83_1 : w79.cell? ⟨gb658, 1, none⟩ = some (.slice none 0 0) := cC BK658 1; have hfz83_0 := fC BK658 0; have hfz83_1 := fC BK658 1; obtain ⟨Ao84, co84, eo84⟩ := Kd.R_slice HO656.1; subst eo84))
           have n0_ : Aside0 (Kd.V Kd.bool 4 ((w79.setCell ⟨gb658, 0, none⟩ (.int .i64 t653)).setCell ⟨gb658, 1, none⟩ (.slice Ao84 t654.length co84)) w.heap.size (fun k_ => nb k_ Ao74 t639.length co74 ∧ nb k_ Ao84 t654.length co84 ∧ k_ ≠ gb627 ∧ k_ ≠ gb638 ∧ k_ ≠ gb647 ∧ k_ ≠ gb658) v635 t634) := ⟨vU (Kd.V_mono (Kd.V_far (p := ⟨gb658, 1, none⟩) (Kd.V_far (p := ⟨gb658, 0, none⟩) (Kd.V_mono HO_8.1 (fun k_ hk => (⟨hk, hk.2⟩ : _ ∧ k_ ≠ gb658))) (fun _ hk => hk.2) (.int .i64 t653)) (fun _ hk => hk.2) (.slice Ao84 t654.length co84)) (fun _ hk => ⟨hk.1.1.1.1, ⟨hk.1.1.2, ⟨hk.1.1.1.2.1, ⟨hk.1.1.1.2.2.1, ⟨hk.1.1.1.2.2.2, hk.1.2⟩⟩⟩⟩⟩))⟩
           have n1_ : Aside0 (Kd.R k53 53 ((w79.setCell ⟨gb658, 0, none⟩ (.int .i64 t653)).setCell ⟨gb658, 1, none⟩ (.slice Ao84 t654.length co84)) w.heap.size (fun k_ => nb k_ Ao84 t654.length co84) (.slice Ao74 t639.length co74) t639) := ⟨rU (Kd.R_mono (Kd.R_far (p := ⟨gb658, 1, none⟩) (Kd.R_far (p := ⟨gb658, 0, none⟩) (Kd.R_types HO_10.1 BK658.1 (by decide)) (fun _ hk => hk.2) (.int .i64 t653)) (fun _ hk => hk.2) (.slice Ao84 t654.length co84)) (fun _ hk => hk.1.2))⟩
           have n2_ : Aside0 (Kd.V k53 53 ((w79.setCell ⟨gb658, 0, none⟩ (.int .i64 t653)).setCell ⟨gb658, 1, none⟩ (.slice Ao84 t654.length co84)) w.heap.size (fun k_ => nb k_ Ao74 t639.length co74 ∧ nb k_ Ao84 t654.length co84 ∧ k_ ≠ gb627 ∧ k_ ≠ gb638 ∧ k_ ≠ gb647 ∧ k_ ≠ gb658) (.slice Ao18 t631.length co18) t631) := ⟨vU (Kd.V_mono (Kd.V_far (p := ⟨gb658, 1, none⟩) (Kd.V_far (p := ⟨gb658, 0, none⟩) (Kd.V_mono HO_639001.1 (fun k_ hk => (⟨hk, hk.2⟩ : _ ∧ k_ ≠ gb658))) (fun _ hk => hk.2) (.int .i64 t653)) (fun _ hk => hk.2) (.slice Ao84 t654.length co84)) (fun _ hk => ⟨hk.1.1.1.1, ⟨hk.1.1.2, ⟨hk.1.1.1.2.1, ⟨hk.1.1.1.2.2.1, ⟨hk.1.1.1.2.2.2, hk.1.2⟩⟩⟩⟩⟩))⟩
           have n3_ : Aside0 (Kd.V k53 53 ((w79.setCell ⟨gb658, 0, none⟩ (.int .i64 t653)).setCell ⟨gb658, 1, none⟩ (.slice Ao84 t654.length co84)) w.heap.size (fun k_ => nb k_ Ao74 t639.length co74 ∧ nb k_ Ao84 t654.length co84 ∧ k_ ≠ gb627 ∧ k_ ≠ gb638 ∧ k_ ≠ gb647 ∧ k_ ≠ gb658) (.slice Ao27 t643.length co27) t643) := ⟨vU (Kd.V_mono (Kd.V_far (p := ⟨gb658, 1, none⟩) (Kd.V_far (p := ⟨gb658, 0, none⟩) (Kd.V_mono HO_648001.1 (fun k_ hk => (⟨hk, hk.2⟩ : _ ∧ k_ ≠ gb658))) (fun _ hk => hk.2) (.int .i64 t653)) (fun _ hk => hk.2) (.slice Ao84 t654.length co84)) (fun _ hk => ⟨hk.1.1.1.1, ⟨hk.1.1.2, ⟨hk.1.1.1.2.1, ⟨hk.1.1.1.2.2.1, ⟨hk.1.1.1.2.2.2, hk.1.2⟩⟩⟩⟩⟩))⟩
           have n4_ : Aside0 (Kd.R k53 53 ((w79.setCell ⟨gb658, 0, none⟩ (.int .i64 t653)).setCell ⟨gb658, 1, none⟩ (.slice Ao84 t654.length co84)) w.heap.size (fun k_ => nb k_ Ao74 t639.length co74) (.slice Ao84 t654.length co84) t654) := ⟨rU (Kd.R_mono (Kd.R_far (p := ⟨gb658, 1, none⟩) (Kd.R_far (p := ⟨gb658, 0, none⟩) (Kd.R_types HO656.1 BK658.1 (by decide)) (fun _ hk => hk.2) (.int .i64 t653)) (fun _ hk => hk.2) (.slice Ao84 t654.length co84)) (fun _ hk => hk.1.2))⟩
           have n5_ : Aside0 (((w79.setCell ⟨gb658, 0, none⟩ (.int .i64 t653)).setCell ⟨gb658, 1, none⟩ (.slice Ao84 t654.length co84)).heap[gb627]? = some (.cells #[.int .u8 a2_0, .int .u8 a2_1] 51 (0, 0))) := ⟨by refine kP ?_; refine blk_far ?_ NB627_658.1 _; refine kP ?_; refine blk_far ?_ NB627_658.1 _; refine kP ?_; exact BK627.1⟩
           have n6_ : Aside0 (((w79.setCell ⟨gb658, 0, none⟩ (.int .i64 t653)).setCell ⟨gb658, 1, none⟩ (.slice Ao84 t654.length co84)).heap[gb638]? = some (.cells #[.int .i64 t630, .slice Ao18 t631.length co18] 26 (0, 0))) := ⟨by refine kP ?_; refine blk_far ?_ NB638_658.1 _; refine kP ?_; refine blk_far ?_ NB638_658.1 _; refine kP ?_; exact BK638.1⟩
           have n7_ : Aside0 (((w79.setCell ⟨gb658, 0, none⟩ (.int .i64 t653)).setCell ⟨gb658, 1, none⟩ (.slice Ao84 t654.length co84)).heap[gb647]? = some (.cells #[.int .i64 t642, .slice Ao27 t643.length co27] 26 (0, 0))) := ⟨by refine kP ?_; refine blk_far ?_ NB647_658.1 _; refine kP ?_; refine blk_far ?_ NB647_658.1 _; refine kP ?_; exact BK647.1⟩
           have n8_ : Aside0 (((w79.setCell ⟨gb658, 0, none⟩ (.int .i64 t653)).setCell ⟨gb658, 1, none⟩ (.slice Ao84 t654.length co84)).heap[gb658]? = some (.cells #[.int .i64 t653, .slice Ao84 t654.length co84] 26 (0, 0))) := ⟨by refine kP ?_; refine blk_put (cs := #[.int .i64 t653, .slice none 0 0]) ?_ 1 _ rfl; refine kP ?_; refine blk_put (cs := #[.int .i64 0, .slice none 0 0]) ?_ 0 _ rfl; refine kP ?_; exact BK658.1⟩
           have n9_ : Aside0 (Below w.heap.size w ((w79.setCell ⟨gb658, 0, none⟩ (.int .i64 t653)).setCell ⟨gb658, 1, none⟩ (.slice Ao84 t654.length co84))) := ⟨bS HB.1⟩
           (try clear HO_8)
           (try clear HO_10)
           (try clear HO_639001)
           (try clear HO_648001)
           (try clear HO656)
           (try clear BK627)
           (try clear BK638)
           (try clear BK647)
           (try clear BK658)
           (try clear HB)
           generalize ((w79.setCell ⟨gb658, 0, none⟩ (.int .i64 t653)).setCell ⟨gb658, 1, none⟩ (.slice Ao84 t654.length co84)) = w85 at n0_ n1_ n2_ n3_ n4_ n5_ n6_ n7_ n8_ n9_ ⊢
           have HO_8 := n0_
           have HO_10 := n1_
           have HO_639001 := n2_
           have HO_648001 := n3_
           have HO656 := n4_
           have BK627 := n5_
           have BK638 := n6_
           have BK647 := n7_
           have BK658 := n8_
           have HB := n9_
           clear n0_ n1_ n2_ n3_ n4_ n5_ n6_ n7_ n8_ n9_
           replace HO_8 := Aa (Kd.V_drew HO_8.1)
           replace HO_10 := Aa (Kd.R_drew HO_10.1)
           replace HO_639001 := Aa (Kd.V_drew HO_639001.1)
           replace HO_648001 := Aa (Kd.V_drew HO_648001.1)
           replace HO656 := Aa (Kd.R_drew HO656.1)
           replace BK627 := Aa (blk_drew BK627.1)
           replace BK638 := Aa (blk_drew BK638.1)
           replace BK647 := Aa (blk_drew BK647.1)
           replace BK658 := Aa (blk_drew BK658.1)
           replace HB := Aa (below_drew1 HB.1)
           obtain ⟨Ao87, co87, eo87⟩ := Kd.V_slice HO_8.1
           (first | subst eo87 | (injection eo87 with f1_ f2_ f3_; have f4_ := f1_.symm; have f5_ := f3_.symm; clear f1_ f2_ f3_; subst f4_; subst f5_))
           refine start_ (n := 24) (S := fun w' => w'.cell? ⟨gb627, 0, none⟩ = some (.int .u8 a2_0) ∧ w'.cell? ⟨gb627, 1, none⟩ = some (.int .u8 a2_1) ∧ w'.cell? ⟨gb658, 0, none⟩ = some (.int .i64 t653) ∧ w'.cell? ⟨gb658, 1, none⟩ = some (.slice Ao84 t654.length co84) ∧ w'.cell? ⟨gb647, 0, none⟩ = some (.int .i64 t642) ∧ w'.cell? ⟨gb647, 1, none⟩ = some (.slice Ao27 t643.length co27) ∧ w'.cell? ⟨gb638, 0, none⟩ = some (.int .i64 t630) ∧ w'.cell? ⟨gb638, 1, none⟩ = some (.slice Ao18 t631.length co18)) (ds := []) (bm 24 0) (by kernel_rfl) rfl (bm0 _) ⟨cC BK627 0, cC BK627 1, cC BK658 0, cC BK658 1, cC BK647 0, cC BK647 1, cC BK638 0, cC BK638 1⟩ (fun hHeld => ?_); refine with_tabW tegulalaw35_AllocRestores.tab22 tegulalaw35_AllocRestores.bits22 (fun HT_ HW_ => ?_)
           generalize w85.drew = w86 at HO_8 HO_10 HO_639001 HO_648001 HO656 BK627 BK638 BK647 BK658 HB hHeld ⊢
           refine pA 1 0 103 ?_
           refine pA 3 1 104 ?_
           refine pA 7 2 105 ?_
           refine pA 15 3 106 ?_
           refine pA 31 4 107 ?_
           refine tA 63 5 108 hHeld ?_
           refine pA 127 6 109 ?_
           refine pA 255 7 110 ?_
           refine pA 511 8 111 ?_
           refine pA 1023 9 112 ?_
           refine pA 3071 11 114 ?_
           refine tA 4095 10 113 hHeld ?_
           refine oA 8191 12 115 (fun K hK => ?_)
           refine gR Try.func24 #[.agg #[.int .i64 t653, .slice Ao84 t654.length co84], .slice Ao87 t634.length co87] ?_
           with_reducible refine (tegulalaw35_same.calls k1 t653 _ _ t654 _ _ t634 true _ ?side1 ?side2 ?side3 ?side4 A70.1).mono ?_
           (case side1 => repeat (first | exact (Kd.R_reads' HO656.1).2.2 | (with_reducible refine Kd.C_alloc ?_ _) | (with_reducible refine Kd.C_drewN ?_ _) | (with_reducible refine Kd.C_drew ?_)))
           (case side2 => exact (Kd.R_reads' HO656.1).2.1)
           (case side3 => repeat (first | exact (Kd.V_reads' HO_8.1).2.2 | (with_reducible refine Kd.C_alloc ?_ _) | (with_reducible refine Kd.C_drewN ?_ _) | (with_reducible refine Kd.C_drew ?_)))
           (case side4 => exact (Kd.V_reads' HO_8.1).2.1)
           rintro e w88 ⟨rfl, hb⟩
           refine ⟨_, rfl, ?_⟩
           replace HO_8 := vB HO_8 hb
           replace HO_10 := rB HO_10 hb
           replace HO_639001 := vB HO_639001 hb
           replace HO_648001 := vB HO_648001 hb
           replace HO656 := rB HO656 hb
           replace BK627 := kB BK627 hb
           replace BK638 := kB BK638 hb
           replace BK647 := kB BK647 hb
           replace BK658 := kB BK658 hb
           replace HB := sB HB hb
           (try clear hb)
           (try clear hb2)
           (try clear hk)
           (try clear hi)
           refine hK.out _ _ ⟨cC BK627 0, cC BK627 1, cC BK658 0, cC BK658 1, cC BK647 0, cC BK647 1, cC BK638 0, cC BK638 1⟩ (fun hHeld => ?_)
           clear hK K
           refine nA ?_
           refine pA 16383 13 116 ?_
           refine pA 32767 14 117 ?_
           refine pA 557055 19 122 ?_
           refine tA 589823 15 118 hHeld ?_
           refine tA 720895 17 120 hHeld ?_
           refine oA 786431 16 119 (fun K hK => ?_)
           refine gR Try.func15 #[.agg #[.int .i64 t642, .slice Ao27 t643.length co27]] ?_
           with_reducible refine (alloc_Map_Free.calls k1 t642 _ _ t643 t660 _ ?side1 ?side2 A72.1).mono ?_
           (case side1 => repeat (first | exact (Kd.V_reads' HO_648001.1).2.2 | (with_reducible refine Kd.C_alloc ?_ _) | (with_reducible refine Kd.C_drewN ?_ _) | (with_reducible refine Kd.C_drew ?_)))
           (case side2 => exact (Kd.V_reads' HO_648001.1).2.1)
           rintro e w89 ⟨rfl, hb⟩
           refine ⟨_, rfl, ?_⟩
           replace HO_8 := vB HO_8 hb
           replace HO_10 := rB HO_10 hb
           replace HO_639001 := vB HO_639001 hb
           replace HO_648001 := vB HO_648001 hb
           replace HO656 := rB HO656 hb
           replace BK627 := kB BK627 hb
           replace BK638 := kB BK638 hb
           replace BK647 := kB BK647 hb
           replace BK658 := kB BK658 hb
           replace HB := sB HB hb
           (try clear hb)
           (try clear hb2)
           (try clear hk)
           (try clear hi)
           refine hK.out _ _ ⟨cC BK627 0, cC BK627 1, cC BK658 0, cC BK658 1, cC BK647 0, cC BK647 1, cC BK638 0, cC BK638 1⟩ (fun hHeld => ?_)
           clear hK K
           refine nA ?_
           refine oA 1048575 18 121 (fun K hK => ?_)
           refine gR Try.func15 #[.agg #[.int .i64 t630, .slice Ao18 t631.length co18]] ?_
           with_reducible refine (alloc_Map_Free.calls k1 t630 _ _ t631 t661 _ ?side1 ?side2 A73.1).mono ?_
           (case side1 => repeat (first | exact (Kd.V_reads' HO_639001.1).2.2 | (with_reducible refine Kd.C_alloc ?_ _) | (with_reducible refine Kd.C_drewN ?_ _) | (with_reducible refine Kd.C_drew ?_)))
           (case side2 => exact (Kd.V_reads' HO_639001.1).2.1)
           rintro e w90 ⟨rfl, hb⟩
           refine ⟨_, rfl, ?_⟩
           replace HO_8 := vB HO_8 hb
           replace HO_10 := rB HO_10 hb
           replace HO_639001 := vB HO_639001 hb
           replace HO_648001 := vB HO_648001 hb
           replace HO656 := rB HO656 hb
           replace BK627 := kB BK627 hb
           replace BK638 := kB BK638 hb
           replace BK647 := kB BK647 hb
           replace BK658 := kB BK658 hb
           replace HB := sB HB hb
           (try clear hb)
           (try clear hb2)
           (try clear hk)
           (try clear hi)
           refine hK.out _ _ ⟨cC BK627 0, cC BK627 1, cC BK658 0, cC BK658 1, cC BK647 0, cC BK647 1, cC BK638 0, cC BK638 1⟩ (fun hHeld => ?_)
           clear hK K
           refine nA ?_
           refine pA 2097151 20 123 ?_
           refine pA 4194303 21 124 ?_
           refine pA 8388607 22 125 ?_
           refine pA 16777215 23 6 ?_
           refine done_ (done_of HT_.1 (by kernel_rfl)) ?_
           try go_wp2
           go_ret
           exact ⟨fT, bS HB.1⟩
          ·
           replace c71 := Bool.eq_false_iff.mpr c71
           subst c71
           have H1 : (some false) = some r := by rw [if_neg (show ¬ (false = true) by decide)] at H; exact H
           clear H
           have H := H1
           clear H1
           obtain rfl := Option.some.inj H
           exact Bool.noConfusion h0_.1
         ·
          rw [if_neg c69] at H
          have c69b0 : (x13_1 == (wrap64 (a2_0))) = false := beq_eq_false_iff_ne.mpr c69
          have c69b1 : (x13_1 != (wrap64 (a2_0))) = true := bne_iff_ne.mpr c69
          obtain rfl := Option.some.inj H
          exact Bool.noConfusion h0_.1
        ·
         rw [if_neg c68] at H
         have c68b0 : (t657 == 0) = false := beq_eq_false_iff_ne.mpr c68
         have c68b1 : (t657 != 0) = true := bne_iff_ne.mpr c68
         obtain rfl := Option.some.inj H
         exact Bool.noConfusion h0_.1
    ·
     rw [if_neg c11] at H
     have c11b0 : (t646 == 0) = false := beq_eq_false_iff_ne.mpr c11
     have c11b1 : (t646 != 0) = true := bne_iff_ne.mpr c11
     obtain rfl := Option.some.inj H
     go_enter Try.func7, Try.ntmps7
     go_wp2_with (first | ((with_reducible refine gD 5 ?_); (try (refine gate_guard (by rfl) ?_; dsimp only)); refine bE #[.int .u8 a2_0, .int .u8 a2_1] 51 ?_; intro gb627 hg w132 hbox hb; have BK627 := Aa (hbox); have GW627 := gU HB hg; have GE627 := gU HB hg; have iE627 := Nonempty.intro GE627.1; replace HB := sU HB hb; clear hb hbox hg) | ((with_reducible refine gC 10 ?_); refine gL 18 Try.func10 #[] ?_; (with_reducible refine (tegulalaw35_awake.calls k  true _ A4.1).mono ?_); rintro e w133 ⟨rfl, hb⟩; refine ⟨_, rfl, ?_⟩; replace BK627 := kB BK627 hb; replace HB := sB HB hb; (try clear hb); (try clear hk)) | ((with_reducible refine gC 20 ?_); refine gL 21 Try.func20 #[.slice A1 l1.length c1] ?_; (with_reducible refine (tegulalaw35_few.calls k _ _ l1 true _ ?side1 ?side2 A6.1).mono ?_); (case side1 => exact cU (Kd.C_below HR1.1 HB.1)); (case side2 => exact HC1.1); rintro e w' ⟨rfl, ⟨nd, rfl⟩⟩; refine ⟨_, rfl, ?_⟩; (try (rw [drewN_self w133]; generalize hq_ : World.drewN w133 _ = w133; have n0_ : Aside0 (w133.heap[gb627]? = some (.cells #[.int .u8 a2_0, .int .u8 a2_1] 51 (0, 0))) := ⟨by rw [← hq_]; exact (kU BK627.1)⟩; have n1_ : Aside0 (Below w.heap.size w w133) := ⟨by rw [← hq_]; exact (bS HB.1)⟩; clear BK627 HB hq_; have BK627 := n0_; have HB := n1_; clear n0_ n1_))) | ((with_reducible refine gC 21 ?_); refine gL 26 Try.func21 #[.int .u8 a0, .slice A1 l1.length c1] ?_; (with_reducible refine (tegulalaw35_build.calls k a0 _ _ l1 t630 t631 t634 true _ ?side1 ?side2 A8.1).mono ?_); (case side1 => exact cU (Kd.C_below HR1.1 HB.1)); (case side2 => exact HC1.1); rintro e w134 ⟨v632, v635, rfl, ho0, ho1, hb⟩; refine ⟨_, rfl, ?_⟩; have HO633 := Aa (Kd.V_lower (Kd.V_mono (ok' := fun k_ => k_ ≠ gb627) ho0 (fun k_ hk_ => (Kd.freshB (g := gb627) (o := .cells #[.int .u8 a2_0, .int .u8 a2_1] 51 (0, 0)) (kU BK627.1) k_ hk_))) (below_size (bS HB.1))); have HO636 := Aa (Kd.V_lower (Kd.V_mono (ok' := fun k_ => k_ ≠ gb627) ho1 (fun k_ hk_ => (Kd.freshB (g := gb627) (o := .cells #[.int .u8 a2_0, .int .u8 a2_1] 51 (0, 0)) (kU BK627.1) k_ hk_))) (below_size (bS HB.1))); replace BK627 := kB BK627 hb; replace HB := sB HB hb; (try clear hb); (try clear hk); (try clear ho0); (try clear ho1)) | ((with_reducible refine gD 7 ?_); (try (refine gate_guard (by rfl) ?_; dsimp only)); refine bE #[.int .i64 0, .slice none 0 0] 26 ?_; intro gb638 hg w135 hbox hb; replace HO633 := vG HO633 hg hb; replace HO636 := vG HO636 hg hb; have BK638 := Aa (hbox); have GW638 := gS HB hg; have GE638 := gS HB hg; have iE638 := Nonempty.intro GE638.1; replace HB := sB HB hb; have NB627_638 := nL BK627 hg; have NB638_627 := nG BK627 hg; replace BK627 := kB BK627 hb; clear hb hbox hg; have hnb136 := NB638_627.1; have hnc136 := NB627_638.1; have hcz137_0 : w135.cell? ⟨gb638, 0, none⟩ = some (.int .i64 0) := cC BK638 0; have hcz137_1 : w135.cell? ⟨gb638, 1, none⟩ = some (.slice none 0 0) := cC BK638 1; have hfz137_0 := fC BK638 0; have hfz137_1 := fC BK638 1; obtain ⟨Ao138, co138, eo138⟩ := Kd.V_slice HO633.1; subst eo138) | ((with_reducible refine gT 26 7 ?_); refine sE ((w135.setCell ⟨gb638, 0, none⟩ (.int .i64 t630)).setCell ⟨gb638, 1, none⟩ (.slice Ao138 t631.length co138)) ?_; intro w139 hw; have n0_ : Aside0 (Kd.V k53 53 w139 w.heap.size (fun k_ => k_ ≠ gb627 ∧ k_ ≠ gb638) (.slice Ao138 t631.length co138) t631) := ⟨(by rw [hw]; exact (vU (Kd.V_mono (Kd.V_far (p := ⟨gb638, 1, none⟩) (Kd.V_far (p := ⟨gb638, 0, none⟩) (Kd.V_mono HO633.1 (fun k_ hk => (⟨hk, hk.2⟩ : _ ∧ k_ ≠ gb638))) (fun _ hk => hk.2) (.int .i64 t630)) (fun _ hk => hk.2) (.slice Ao138 t631.length co138)) (fun _ hk => ⟨hk.1.1, hk.1.2⟩))))⟩; have n1_ : Aside0 (Kd.V Kd.bool 4 w139 w.heap.size (fun k_ => k_ ≠ gb627 ∧ k_ ≠ gb638) v635 t634) := ⟨(by rw [hw]; exact (vU (Kd.V_mono (Kd.V_far (p := ⟨gb638, 1, none⟩) (Kd.V_far (p := ⟨gb638, 0, none⟩) (Kd.V_mono HO636.1 (fun k_ hk => (⟨hk, hk.2⟩ : _ ∧ k_ ≠ gb638))) (fun _ hk => hk.2) (.int .i64 t630)) (fun _ hk => hk.2) (.slice Ao138 t631.length co138)) (fun _ hk => ⟨hk.1.1, hk.1.2⟩))))⟩; have n2_ : Aside0 (w139.heap[gb627]? = some (.cells #[.int .u8 a2_0, .int .u8 a2_1] 51 (0, 0))) := ⟨(by rw [hw]; exact (by refine kP ?_; refine blk_far ?_ NB627_638.1 _; refine kP ?_; refine blk_far ?_ NB627_638.1 _; refine kP ?_; exact BK627.1))⟩; have n3_ : Aside0 (w139.heap[gb638]? = some (.cells #[.int .i64 t630, .slice Ao138 t631.length co138] 26 (0, 0))) := ⟨(by rw [hw]; exact (by refine kP ?_; refine blk_put (cs := #[.int .i64 t630, .slice none 0 0]) ?_ 1 _ rfl; refine kP ?_; refine blk_put (cs := #[.int .i64 0, .slice none 0 0]) ?_ 0 _ rfl; refine kP ?_; exact BK638.1))⟩; have n4_ : Aside0 (Below w.heap.size w w139) := ⟨(by rw [hw]; exact (bS HB.1))⟩; clear hw; clear HO633; clear HO636; clear BK627; clear BK638; clear HB; have HO633 := n0_; have HO636 := n1_; have BK627 := n2_; have BK638 := n3_; have HB := n4_; clear n0_ n1_ n2_ n3_ n4_; have hcz140_0 : w139.cell? ⟨gb638, 0, none⟩ = some (.int .i64 t630) := cC BK638 0; have hcz140_1 : w139.cell? ⟨gb638, 1, none⟩ = some (.slice Ao138 t631.length co138) := cC BK638 1; have hfz140_0 := fC BK638 0; have hfz140_1 := fC BK638 1; have hcz141_0 : w139.cell? ⟨gb627, 0, none⟩ = some (.int .u8 a2_0) := cC BK627 0; have hcz141_1 : w139.cell? ⟨gb627, 1, none⟩ = some (.int .u8 a2_1) := cC BK627 1; have hfz141_0 := fC BK627 0; have hfz141_1 := fC BK627 1) | ((with_reducible refine gC 12 ?_); refine gL 40 Try.func12 #[.agg #[.int .i64 t630, .slice Ao138 t631.length co138], .int .i64 (wrap64 (a2_0)), .int .i64 (wrap64 (a2_1))] ?_; (with_reducible refine (alloc_Map_Take.calls k t630 (fun k_ => (k_ ≠ gb627 ∧ k_ ≠ gb638)) _ _ t631 (wrap64 (a2_0)) (wrap64 (a2_1)) t639 t642 t643 t646 _ ?side1 A10.1).mono ?_); (case side1 => exact HO633.1); rintro e w142 ⟨v640, v644, rfl, ho0, ho1, hb⟩; refine ⟨_, rfl, ?_⟩; replace HO633 := vE HO633 ho0 hb; replace HO636 := vE HO636 ho0 hb; have HO641 := Aa (Kd.R_lower (Kd.R_mono (ok' := fun k_ => True) ho0 (fun _ hk_ => trivial)) (below_size (bS HB.1))); have HO645 := Aa (Kd.V_lower (Kd.V_mono (ok' := fun k_ => some k_ ≠ (v640 : Value).ownBlock ∧ k_ ≠ gb627 ∧ k_ ≠ gb638) ho1 (fun k_ hk_ => ⟨hk_.2, Or.elim hk_.1 (fun hs_ => hs_.1) (fun hn_ => (Kd.freshB (g := gb627) (o := .cells #[.int .u8 a2_0, .int .u8 a2_1] 51 (0, 0)) (kU BK627.1) k_ hn_)), Or.elim hk_.1 (fun hs_ => hs_.2) (fun hn_ => (Kd.freshB (g := gb638) (o := .cells #[.int .i64 t630, .slice Ao138 t631.length co138] 26 (0, 0)) (kU BK638.1) k_ hn_))⟩)) (below_size (bS HB.1))); replace BK627 := kB BK627 hb; replace BK638 := kB BK638 hb; replace HB := sB HB hb; (try clear hb); (try clear hk); (try clear ho0); (try clear ho1)) | ((with_reducible refine gD 11 ?_); (try (refine gate_guard (by rfl) ?_; dsimp only)); refine bE #[.int .i64 0, .slice none 0 0] 26 ?_; intro gb647 hg w143 hbox hb; replace HO633 := vG HO633 hg hb; replace HO636 := vG HO636 hg hb; replace HO641 := rB HO641 hb; replace HO645 := vG HO645 hg hb; have BK647 := Aa (hbox); have GW647 := gS HB hg; have GE647 := gS HB hg; have iE647 := Nonempty.intro GE647.1; replace HB := sB HB hb; have NB627_647 := nL BK627 hg; have NB647_627 := nG BK627 hg; replace BK627 := kB BK627 hb; have NB638_647 := nL BK638 hg; have NB647_638 := nG BK638 hg; replace BK638 := kB BK638 hb; clear hb hbox hg; have hnb144 := NB647_627.1; have hnc144 := NB627_647.1; have hnb145 := NB647_638.1; have hnc145 := NB638_647.1; have hcz146_0 : w143.cell? ⟨gb647, 0, none⟩ = some (.int .i64 0) := cC BK647 0; have hcz146_1 : w143.cell? ⟨gb647, 1, none⟩ = some (.slice none 0 0) := cC BK647 1; have hfz146_0 := fC BK647 0; have hfz146_1 := fC BK647 1; obtain ⟨Ao147, co147, eo147⟩ := Kd.V_slice HO645.1; subst eo147))
     go_ret
     exact ⟨fT, bS HB.1⟩
   ·
    replace c9 := Bool.eq_false_iff.mpr c9
    subst c9
    have H1 : (some false) = some r := by rw [if_neg (show ¬ (false = true) by decide)] at H; exact H
    clear H
    have H := H1
    clear H1
    obtain rfl := Option.some.inj H
    exact Bool.noConfusion h0_.1
  ·
   replace c7 := Bool.eq_false_iff.mpr c7
   subst c7
   have H1 : (some true) = some r := by rw [if_neg (show ¬ (false = true) by decide)] at H; exact H
   clear H
   have H := H1
   clear H1
   obtain rfl := Option.some.inj H
   go_enter Try.func7, Try.ntmps7
   go_wp2_with (first | ((with_reducible refine gD 5 ?_); (try (refine gate_guard (by rfl) ?_; dsimp only)); refine bE #[.int .u8 a2_0, .int .u8 a2_1] 51 ?_; intro gb627 hg w155 hbox hb; have BK627 := Aa (hbox); have GW627 := gU HB hg; have GE627 := gU HB hg; have iE627 := Nonempty.intro GE627.1; replace HB := sU HB hb; clear hb hbox hg) | ((with_reducible refine gC 10 ?_); refine gL 18 Try.func10 #[] ?_; (with_reducible refine (tegulalaw35_awake.calls k  true _ A4.1).mono ?_); rintro e w156 ⟨rfl, hb⟩; refine ⟨_, rfl, ?_⟩; replace BK627 := kB BK627 hb; replace HB := sB HB hb; (try clear hb)) | ((with_reducible refine gC 20 ?_); refine gL 21 Try.func20 #[.slice A1 l1.length c1] ?_; (with_reducible refine (tegulalaw35_few.calls k _ _ l1 false _ ?side1 ?side2 A6.1).mono ?_); (case side1 => exact cU (Kd.C_below HR1.1 HB.1)); (case side2 => exact HC1.1); rintro e w' ⟨rfl, ⟨nd, rfl⟩⟩; refine ⟨_, rfl, ?_⟩))
   go_ret
   exact ⟨fT, bS HB.1⟩
 ·
  replace c5 := Bool.eq_false_iff.mpr c5
  subst c5
  have H1 : (some false) = some r := by rw [if_neg (show ¬ (false = true) by decide)] at H; exact H
  clear H
  have H := H1
  clear H1
  obtain rfl := Option.some.inj H
  exact Bool.noConfusion h0_.1
end Go.Proofs.Ytcjpikjbjehjeaa.PAllocB
