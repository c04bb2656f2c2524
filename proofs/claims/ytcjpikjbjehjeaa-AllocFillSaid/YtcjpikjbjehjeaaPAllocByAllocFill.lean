-- Written for this claim by a program of this session (wip/), out of the translation's own print: Lean checks it
import Derived.Test.YtcjpikjbjehjeaaPAllocBx0
import Derived.Test.YtcjpikjbjehjeaaWGuard
import Derived.Test.YtcjpikjbjehjeaaPAllocBx2
import Derived.Test.YtcjpikjbjehjeaaPAllocBx9
import Derived.Test.YtcjpikjbjehjeaaPAllocBx10
import Derived.Test.YtcjpikjbjehjeaaPAllocBx11
import Derived.Test.YtcjpikjbjehjeaaPAllocBx20
namespace Go.Proofs.Ytcjpikjbjehjeaa.PAllocB
open Go.RowKit Go.Proofs.YtcjpikjbjehjeaaW.PrintWords Go.Proofs.YtcjpikjbjehjeaaW.PrintLast Go.Proofs.YtcjpikjbjehjeaaW.PrintMore
attribute [local go_sem] max2_int min2_int max_two min_two max_three min_three max_four min_four   -- for this text's walks alone
set_option linter.unusedVariables false
set_option linter.unusedSimpArgs false

/-! ### tegulalaw35_AllocFill: function 9 -/
def tegulalaw35_AllocFill.l0 : Nat → Int → List Bool → List Bool → Int → Int → List (S53) → Option (Bool)
 | 0, _, _, _, _, _, _ => none
 | k + 1, x2, x8, x10, x11, x704000, x704001 => if x11 > 0 then (if (wrap64 ((x8.length : Int) + 1)) = 0 then (none) else ((alloc_Map_Take.f k x704000 x704001 1 (Int.tmod (wrap64 (x2)) (wrap64 ((x8.length : Int) + 1)))).bind fun bt708 => (if bt708.2.2.2 = 0 then (if (bt708.1.length : Int) = 1 then (if 0 < (bt708.1.length : Int) then (if ((rd_T53 bt708.1 0).f1) = 1 then (if ((rd_T53 bt708.1 0).f2) < 0 then (some false) else (if ((rd_T53 bt708.1 0).f2) ≥ (x8.length : Int) then (some false) else (if 0 ≤ ((rd_T53 bt708.1 0).f2) then (if ((rd_T53 bt708.1 0).f2) < (x10.length : Int) then (if rdOf false x10 ((rd_T53 bt708.1 0).f2) = true then (some false) else (if ((rd_T53 bt708.1 0).f2) < (x8.length : Int) then (if rdOf false x8 ((rd_T53 bt708.1 0).f2) = true then (some false) else (tegulalaw35_AllocFill.l0 k x2 x8 (x10.set (((rd_T53 bt708.1 0).f2) : Int).toNat true) (wrap64 (x11 - 1)) bt708.2.1 bt708.2.2.1)) else (none))) else (none)) else (none)))) else (some false)) else (none)) else (some false)) else (some false)))) else ((alloc_Map_Take.f k x704000 x704001 1 0).bind fun bt726 => (if bt726.2.2.2 = 11 then ((alloc_Map_Free.f k x704000 x704001).bind fun t735 => (some (t735 == 0))) else (some false)))
def tegulalaw35_AllocFill.f (k : Nat) (a0 : Int) (l1 : List (S57)) (a2 : Int) : Option (Bool) := (tegulalaw35_awake.f k).bind fun t693 => (if t693 = true then ((tegulalaw35_few.f k l1).bind fun t694 => (if t694 = true then ((tegulalaw35_build.f k a0 l1).bind fun bt695 => (if bt695.2.2.2 = true then (if 0 ≤ (bt695.2.2.1.length : Int) then (if ((bt695.2.2.1.length : Int) : Int).toNat ≤ 281474976710656 then ((tegularef35_Map_Free.f k bt695.2.2.1).bind fun t707 => (tegulalaw35_AllocFill.l0 k a2 bt695.2.2.1 (List.replicate ((bt695.2.2.1.length : Int) : Int).toNat false) t707 bt695.1 bt695.2.1)) else (none)) else (none)) else (some false))) else (some true))) else (some false))
theorem tegulalaw35_AllocFill.mono_l : ∀ k, (∀ y0 y1 y2 y3 y4 y5, LeO (tegulalaw35_AllocFill.l0 k y0 y1 y2 y3 y4 y5) (tegulalaw35_AllocFill.l0 (k + 1) y0 y1 y2 y3 y4 y5))
 | 0 => fun _ _ _ _ _ _ r h => by simp [tegulalaw35_AllocFill.l0] at h
 | k + 1 => by
  have ih0 := tegulalaw35_AllocFill.mono_l k
  ·
   intro y0 y1 y2 y3 y4 y5
   unfold tegulalaw35_AllocFill.l0
   repeat' first
   | (with_reducible exact ih0 _ _ _ _ _ _)
   | (with_reducible exact alloc_Map_Free.mono _ _ _)
   | (with_reducible exact alloc_Map_Take.mono _ _ _ _ _)
   | (with_reducible exact tegulalaw35_awake.mono _)
   | (with_reducible exact tegulalaw35_build.mono _ _ _)
   | (with_reducible exact tegulalaw35_few.mono _ _)
   | (with_reducible exact tegularef35_Map_Free.mono _ _)
   | (with_reducible exact LeO.refl _)
   | (with_reducible exact LeO.none _)
   | (with_reducible refine LeO.ite ?_ ?_)
   | (with_reducible refine LeO.bind ?_ (fun _ => ?_))
   | exact ih0 _ _ _ _ _ _
   | exact alloc_Map_Free.mono _ _ _
   | exact alloc_Map_Take.mono _ _ _ _ _
   | exact tegulalaw35_awake.mono _
   | exact tegulalaw35_build.mono _ _ _
   | exact tegulalaw35_few.mono _ _
   | exact tegularef35_Map_Free.mono _ _
   | exact LeO.none _
   | refine LeO.ite ?_ ?_
   | refine LeO.bind ?_ (fun _ => ?_)
theorem tegulalaw35_AllocFill.mono : ∀ a0 a1 a2 k, LeO (tegulalaw35_AllocFill.f k a0 a1 a2) (tegulalaw35_AllocFill.f (k + 1) a0 a1 a2) := by
 intro a0 a1 a2 k
 have ih0 := tegulalaw35_AllocFill.mono_l k
 unfold tegulalaw35_AllocFill.f
 repeat' first
   | (with_reducible exact ih0 _ _ _ _ _ _)
   | (with_reducible exact alloc_Map_Free.mono _ _ _)
   | (with_reducible exact alloc_Map_Take.mono _ _ _ _ _)
   | (with_reducible exact tegulalaw35_awake.mono _)
   | (with_reducible exact tegulalaw35_build.mono _ _ _)
   | (with_reducible exact tegulalaw35_few.mono _ _)
   | (with_reducible exact tegularef35_Map_Free.mono _ _)
   | (with_reducible exact LeO.refl _)
   | (with_reducible exact LeO.none _)
   | (with_reducible refine LeO.ite ?_ ?_)
   | (with_reducible refine LeO.bind ?_ (fun _ => ?_))
   | exact ih0 _ _ _ _ _ _
   | exact alloc_Map_Free.mono _ _ _
   | exact alloc_Map_Take.mono _ _ _ _ _
   | exact tegulalaw35_awake.mono _
   | exact tegulalaw35_build.mono _ _ _
   | exact tegulalaw35_few.mono _ _
   | exact tegularef35_Map_Free.mono _ _
   | exact LeO.none _
   | refine LeO.ite ?_ ?_
   | refine LeO.bind ?_ (fun _ => ?_)
def tegulalaw35_AllocFill.T12 : Bool × List (List Nat × List Nat) := (true, [([], []), ([], []), ([1], [1]), ([], []), ([3], [3]), ([4], [4]), ([2, 5], [2, 5]), ([0, 6], [0, 6]), ([7], [7]), ([8], [8]), ([8], [8]), ([8], [8]), ([], []), ([9, 7, 0, 1, 2, 3, 4, 5, 6, 7, 8, 9, 12], [9]), ([12, 10, 13, 0, 1, 2, 3, 4, 5, 6, 7, 8, 9, 10, 12, 13], [10, 12]), ([11, 14, 0, 1, 2, 3, 4, 5, 6, 7, 8, 9, 10, 11, 12, 13, 14], [11])])
def tegulalaw35_AllocFill.B12 : List Nat := [0, 0, 2, 0, 8, 24, 62, 127, 255, 511, 511, 511, 0, 5119, 14335, 32767]
theorem tegulalaw35_AllocFill.tab12 : rtab .any (opsOf Try.f9 12) = tegulalaw35_AllocFill.T12 := by kernel_rfl
theorem tegulalaw35_AllocFill.bits12 : waitsOk tegulalaw35_AllocFill.T12.2 tegulalaw35_AllocFill.B12 = true := by kernel_rfl
set_option maxHeartbeats 8000000 in
set_option maxRecDepth 100000 in
theorem tegulalaw35_AllocFill.calls (k : Nat) (a0 : Int) (A1 : Option Addr) (c1 : Nat) (l1 : List (S57)) (a2 : Int) (r : Bool) (w : World) (hr1 : Kd.C k57 w A1 l1.length l1) (hc1 : l1.length ≤ c1) (h : tegulalaw35_AllocFill.f k a0 l1 a2 = some r) (h0 : r = true := by rfl) :
  Calls Try.prog 9 #[.int .u8 a0, .slice A1 l1.length c1, .int .u8 a2] w fun e w' => e = .returned (.bool r) ∧ Below w.heap.size w w' := by
 have h0_ := Aa (h0)
 clear h0
 have hu26 := Try.underlying26
 have HR1 := Aside0.mk hr1
 have HC1 := Aside0.mk hc1
 clear hr1 hc1
 have HB := Aa (Below.refl w.heap.size w)
 have H : ((tegulalaw35_awake.f k).bind fun t693 => (if t693 = true then ((tegulalaw35_few.f k l1).bind fun t694 => (if t694 = true then ((tegulalaw35_build.f k a0 l1).bind fun bt695 => (if bt695.2.2.2 = true then (if 0 ≤ (bt695.2.2.1.length : Int) then (if ((bt695.2.2.1.length : Int) : Int).toNat ≤ 281474976710656 then ((tegularef35_Map_Free.f k bt695.2.2.1).bind fun t707 => (tegulalaw35_AllocFill.l0 k a2 bt695.2.2.1 (List.replicate ((bt695.2.2.1.length : Int) : Int).toNat false) t707 bt695.1 bt695.2.1)) else (none)) else (none)) else (some false))) else (some true))) else (some false))) = some r := h
 clear h
 replace H := Option.bind_eq_some_iff.mp H
 obtain ⟨t693, A40, H⟩ := H
 replace H : (if t693 = true then ((tegulalaw35_few.f k l1).bind fun t694 => (if t694 = true then ((tegulalaw35_build.f k a0 l1).bind fun bt695 => (if bt695.2.2.2 = true then (if 0 ≤ (bt695.2.2.1.length : Int) then (if ((bt695.2.2.1.length : Int) : Int).toNat ≤ 281474976710656 then ((tegularef35_Map_Free.f k bt695.2.2.1).bind fun t707 => (tegulalaw35_AllocFill.l0 k a2 bt695.2.2.1 (List.replicate ((bt695.2.2.1.length : Int) : Int).toNat false) t707 bt695.1 bt695.2.1)) else (none)) else (none)) else (some false))) else (some true))) else (some false)) = some r := H
 have A4 := Aside0.mk A40
 clear A40
 by_cases c5 : t693 = true
 ·
  subst c5
  have H1 : ((tegulalaw35_few.f k l1).bind fun t694 => (if t694 = true then ((tegulalaw35_build.f k a0 l1).bind fun bt695 => (if bt695.2.2.2 = true then (if 0 ≤ (bt695.2.2.1.length : Int) then (if ((bt695.2.2.1.length : Int) : Int).toNat ≤ 281474976710656 then ((tegularef35_Map_Free.f k bt695.2.2.1).bind fun t707 => (tegulalaw35_AllocFill.l0 k a2 bt695.2.2.1 (List.replicate ((bt695.2.2.1.length : Int) : Int).toNat false) t707 bt695.1 bt695.2.1)) else (none)) else (none)) else (some false))) else (some true))) = some r := by rw [if_pos rfl] at H; exact H
  clear H
  have H := H1
  clear H1
  replace H := Option.bind_eq_some_iff.mp H
  obtain ⟨t694, A60, H⟩ := H
  replace H : (if t694 = true then ((tegulalaw35_build.f k a0 l1).bind fun bt695 => (if bt695.2.2.2 = true then (if 0 ≤ (bt695.2.2.1.length : Int) then (if ((bt695.2.2.1.length : Int) : Int).toNat ≤ 281474976710656 then ((tegularef35_Map_Free.f k bt695.2.2.1).bind fun t707 => (tegulalaw35_AllocFill.l0 k a2 bt695.2.2.1 (List.replicate ((bt695.2.2.1.length : Int) : Int).toNat false) t707 bt695.1 bt695.2.1)) else (none)) else (none)) else (some false))) else (some true)) = some r := H
  have A6 := Aside0.mk A60
  clear A60
  by_cases c7 : t694 = true
  ·
   subst c7
   have H1 : ((tegulalaw35_build.f k a0 l1).bind fun bt695 => (if bt695.2.2.2 = true then (if 0 ≤ (bt695.2.2.1.length : Int) then (if ((bt695.2.2.1.length : Int) : Int).toNat ≤ 281474976710656 then ((tegularef35_Map_Free.f k bt695.2.2.1).bind fun t707 => (tegulalaw35_AllocFill.l0 k a2 bt695.2.2.1 (List.replicate ((bt695.2.2.1.length : Int) : Int).toNat false) t707 bt695.1 bt695.2.1)) else (none)) else (none)) else (some false))) = some r := by rw [if_pos rfl] at H; exact H
   clear H
   have H := H1
   clear H1
   replace H := Option.bind_eq_some_iff.mp H
   obtain ⟨⟨t695, t696, t699, t702⟩, A80, H⟩ := H
   replace H : (if t702 = true then (if 0 ≤ (t699.length : Int) then (if ((t699.length : Int) : Int).toNat ≤ 281474976710656 then ((tegularef35_Map_Free.f k t699).bind fun t707 => (tegulalaw35_AllocFill.l0 k a2 t699 (List.replicate ((t699.length : Int) : Int).toNat false) t707 t695 t696)) else (none)) else (none)) else (some false)) = some r := H
   have A8 := Aside0.mk A80
   clear A80
   by_cases c9 : t702 = true
   ·
    subst c9
    have H1 : (if 0 ≤ (t699.length : Int) then (if ((t699.length : Int) : Int).toNat ≤ 281474976710656 then ((tegularef35_Map_Free.f k t699).bind fun t707 => (tegulalaw35_AllocFill.l0 k a2 t699 (List.replicate ((t699.length : Int) : Int).toNat false) t707 t695 t696)) else (none)) else (none)) = some r := by rw [if_pos rfl] at H; exact H
    clear H
    have H := H1
    clear H1
    by_cases c10 : 0 ≤ (t699.length : Int)
    ·
     rw [if_pos c10] at H
     have c10b0 := eq_true c10
     have c10b1 := decide_eq_true c10
     clear c10
     by_cases c11 : ((t699.length : Int) : Int).toNat ≤ 281474976710656
     ·
      rw [if_pos c11] at H
      have c11b0 := eq_true c11
      have c11b1 := decide_eq_true c11
      clear c11
      obtain ⟨y704, hy704⟩ : ∃ y_ : List Bool, y_ = (List.replicate ((t699.length : Int) : Int).toNat false) := ⟨_, rfl⟩
      replace H : ((tegularef35_Map_Free.f k t699).bind fun t707 => (tegulalaw35_AllocFill.l0 k a2 t699 y704 t707 t695 t696)) = some r := by first | (rw [hy704]; exact H) | exact H
      have Ny704 := Aside0.mk hy704
      clear hy704
      replace H := Option.bind_eq_some_iff.mp H
      obtain ⟨t707, A120, H⟩ := H
      replace H : (tegulalaw35_AllocFill.l0 k a2 t699 y704 t707 t695 t696) = some r := H
      have A12 := Aside0.mk A120
      clear A120
      have H' := Aside0.mk H
      clear H
      go_enter Try.func9, Try.ntmps9
      go_wp2_with (first | ((with_reducible refine gC 10 ?_); refine gL 18 Try.func10 #[] ?_; (with_reducible refine (tegulalaw35_awake.calls k  true _ A4.1).mono ?_); rintro e w13 ⟨rfl, hb⟩; refine ⟨_, rfl, ?_⟩; replace HB := sU HB hb; (try clear hb); (try clear hk)) | ((with_reducible refine gC 20 ?_); refine gL 21 Try.func20 #[.slice A1 l1.length c1] ?_; (with_reducible refine (tegulalaw35_few.calls k _ _ l1 true _ ?side1 ?side2 A6.1).mono ?_); (case side1 => exact cU (Kd.C_below HR1.1 HB.1)); (case side2 => exact HC1.1); rintro e w' ⟨rfl, ⟨nd, rfl⟩⟩; refine ⟨_, rfl, ?_⟩; (try (rw [drewN_self w13]; generalize hq_ : World.drewN w13 _ = w13; have n0_ : Aside0 (Below w.heap.size w w13) := ⟨by rw [← hq_]; exact (bU HB.1)⟩; clear HB hq_; have HB := n0_; clear n0_))) | ((with_reducible refine gC 21 ?_); refine gL 26 Try.func21 #[.int .u8 a0, .slice A1 l1.length c1] ?_; (with_reducible refine (tegulalaw35_build.calls k a0 _ _ l1 t695 t696 t699 true _ ?side1 ?side2 A8.1).mono ?_); (case side1 => exact cU (Kd.C_below HR1.1 HB.1)); (case side2 => exact HC1.1); rintro e w14 ⟨v697, v700, rfl, ho0, ho1, hb⟩; refine ⟨_, rfl, ?_⟩; have HO698 := Aa (Kd.V_lower (Kd.V_mono (ok' := fun k_ => True) ho0 (fun k_ hk_ => trivial)) (below_size (bU HB.1))); have HO701 := Aa (Kd.V_lower (Kd.V_mono (ok' := fun k_ => True) ho1 (fun k_ hk_ => trivial)) (below_size (bU HB.1))); replace HB := sU HB hb; (try clear hb); (try clear hk); (try clear ho0); (try clear ho1)) | ((with_reducible refine gD 7 ?_); (try (refine gate_guard (by rfl) ?_; dsimp only)); refine bE #[.int .i64 0, .slice none 0 0] 26 ?_; intro gb703 hg w15 hbox hb; replace HO698 := vG HO698 hg hb; replace HO701 := vG HO701 hg hb; have BK703 := Aa (hbox); have GW703 := gU HB hg; have GE703 := gU HB hg; have iE703 := Nonempty.intro GE703.1; replace HB := sU HB hb; clear hb hbox hg; have hcz16_0 : w15.cell? ⟨gb703, 0, none⟩ = some (.int .i64 0) := cC BK703 0; have hcz16_1 : w15.cell? ⟨gb703, 1, none⟩ = some (.slice none 0 0) := cC BK703 1; have hfz16_0 := fC BK703 0; have hfz16_1 := fC BK703 1; obtain ⟨Ao17, co17, eo17⟩ := Kd.V_slice HO698.1; subst eo17; obtain ⟨Ao18, co18, eo18⟩ := Kd.V_slice HO701.1; subst eo18) | ((with_reducible refine gD 34 ?_); (try (refine gate_guard (by rfl) ?_; dsimp only)); refine Kd.R_make Kd.bool _ 4 rfl (N := 34) rfl 41 _ _ rfl (t699.length : Int) rfl rfl Try.underlying41 (.bool false) 1 info4 rfl (by decide) (by omega) false (ok := fun _ => True) (okp := fun _ => True) rfl (fun _ hk => hk) trivial (dT) (Nat.le_trans (Nat.mul_le_mul_right _ (dT : (t699.length : Int).toNat ≤ 281474976710656)) (by omega)) (Below.refl _ _) (Nat.le_refl _) ?_; intro v705 w19 ho20 hb hg_ hnew_; clear hg_ hnew_; (first | rw [← Ny704.1] at ho20 | (simp only [Int.reduceToNat] at ho20; rw [← Ny704.1] at ho20)); replace HO698 := Aa (Kd.V_elder' (vU (Kd.V_mono (Kd.V_far (p := ⟨gb703, 1, none⟩) (Kd.V_far (p := ⟨gb703, 0, none⟩) (Kd.V_mono HO698.1 (fun k_ hk => (⟨hk, hk.2⟩ : _ ∧ k_ ≠ gb703))) (fun _ hk => hk.2) (.int .i64 t695)) (fun _ hk => hk.2) (.slice Ao17 t696.length co17)) (fun _ h_ => h_.1))) (Kd.R_base ho20) hb); replace HO701 := Aa (Kd.V_elder' (vU (Kd.V_mono (Kd.V_far (p := ⟨gb703, 1, none⟩) (Kd.V_far (p := ⟨gb703, 0, none⟩) (Kd.V_mono HO701.1 (fun k_ hk => (⟨hk, hk.2⟩ : _ ∧ k_ ≠ gb703))) (fun _ hk => hk.2) (.int .i64 t695)) (fun _ hk => hk.2) (.slice Ao17 t696.length co17)) (fun _ h_ => h_.1))) (Kd.R_base ho20) hb); have HO706 := Aa (Kd.R_lower ho20 (below_size (bS HB.1))); replace BK703 := Aa (blk_below (g := gb703) (o := .cells #[.int .i64 t695, .slice Ao17 t696.length co17] 26 (0, 0)) (by refine kP ?_; refine blk_put (cs := #[.int .i64 t695, .slice none 0 0]) ?_ 1 _ rfl; refine kP ?_; refine blk_put (cs := #[.int .i64 0, .slice none 0 0]) ?_ 0 _ rfl; refine kP ?_; exact BK703.1) hb); replace HB := sB HB hb; clear hb ho20) | ((with_reducible refine gC 23 ?_); refine gL 36 Try.func23 #[.slice Ao18 t699.length co18] ?_; (with_reducible refine (tegularef35_Map_Free.calls k _ _ t699 t707 _ ?side1 ?side2 A12.1).mono ?_); (case side1 => repeat (first | exact (Kd.V_reads' HO701.1).2.2 | (with_reducible refine Kd.C_alloc ?_ _) | (with_reducible refine Kd.C_drewN ?_ _) | (with_reducible refine Kd.C_drew ?_))); (case side2 => exact (Kd.V_reads' HO701.1).2.1); rintro e w' ⟨rfl, ⟨nd, rfl⟩⟩; refine ⟨_, rfl, ?_⟩))
      go_loopg [11] k (fun kq v11 w' => ∃ (x10_1 : List Bool) (x11_1 : Int) (x704000_1 : Int) (x704001_1 : List (S53)) (u704001 : Value), v11 = .int .i64 x11_1 ∧ Aside0 (tegulalaw35_AllocFill.l0 kq a2 t699 x10_1 x11_1 x704000_1 x704001_1 = some r) ∧ Aside0 (kq ≤ k) ∧ Aside0 (Kd.V Kd.bool 4 w' w.heap.size (fun k_ => some k_ ≠ (v705 : Value).ownBlock ∧ k_ ≠ gb703) (.slice Ao18 t699.length co18) t699) ∧ Aside0 (Kd.R Kd.bool 4 w' w.heap.size (fun _ => True) v705 x10_1) ∧ Aside0 (Kd.V k53 53 w' w.heap.size (fun k_ => some k_ ≠ (v705 : Value).ownBlock ∧ k_ ≠ gb703) u704001 x704001_1) ∧ Aside0 (w'.heap[gb703]? = some (.cells #[.int .i64 x704000_1, u704001] 26 (0, 0))) ∧ Aside0 (Below w.heap.size w w'))
      case atStart => exact ⟨(y704), (t707), (t695), (t696), (.slice Ao17 t696.length co17), (by first | rfl | (simp; done) | (simp [*]; done)), H', ⟨Nat.le_refl _⟩, ⟨vU (Kd.V_mono HO701.1 (fun _ hk => ⟨hk.2, hk.1.2⟩))⟩, ⟨rU HO706.1⟩, ⟨vU (Kd.V_mono HO698.1 (fun _ hk => ⟨hk.2, hk.1.2⟩))⟩, ⟨by refine kP ?_; exact BK703.1⟩, ⟨bS HB.1⟩⟩
      case round =>
       clear H'
       try clear c1
       try clear c2
       try clear p2
       try clear c5
       try clear c7
       try clear c9
       try clear c10
       try clear c10b0
       try clear c10b1
       try clear c11
       try clear c11b0
       try clear c11b1
       try clear c20
       try clear hcz16_0
       try clear hcz16_1
       try clear hfz16_0
       try clear hfz16_1
       obtain ⟨x10_1, x11_1, x704000_1, x704001_1, u704001, rfl, HA, HK1, HO_8, HO_10, HO_704001, BK703, HB⟩ := hrel
       cases gk with
       | zero => exact absurd HA.1 (by simp [tegulalaw35_AllocFill.l0])
       | succ k1 =>
        have H := HA.1
        clear HA
        simp only [tegulalaw35_AllocFill.l0] at H
        by_cases c21 : x11_1 > 0
        ·
         rw [if_pos c21] at H
         have c21b0 := decide_eq_true c21
         clear c21
         by_cases c22 : (wrap64 ((t699.length : Int) + 1)) = 0
         ·
          rw [if_pos c22] at H
          exact absurd H (by simp)
         ·
          rw [if_neg c22] at H
          have c22b0 : ((wrap64 ((t699.length : Int) + 1)) == 0) = false := beq_eq_false_iff_ne.mpr c22
          have c22b1 : ((wrap64 ((t699.length : Int) + 1)) != 0) = true := bne_iff_ne.mpr c22
          replace H := Option.bind_eq_some_iff.mp H
          obtain ⟨⟨t708, t711, t712, t715⟩, A230, H⟩ := H
          replace H : (if t715 = 0 then (if (t708.length : Int) = 1 then (if 0 < (t708.length : Int) then (if ((rd_T53 t708 0).f1) = 1 then (if ((rd_T53 t708 0).f2) < 0 then (some false) else (if ((rd_T53 t708 0).f2) ≥ (t699.length : Int) then (some false) else (if 0 ≤ ((rd_T53 t708 0).f2) then (if ((rd_T53 t708 0).f2) < (x10_1.length : Int) then (if rdOf false x10_1 ((rd_T53 t708 0).f2) = true then (some false) else (if ((rd_T53 t708 0).f2) < (t699.length : Int) then (if rdOf false t699 ((rd_T53 t708 0).f2) = true then (some false) else (tegulalaw35_AllocFill.l0 k1 a2 t699 (x10_1.set (((rd_T53 t708 0).f2) : Int).toNat true) (wrap64 (x11_1 - 1)) t711 t712)) else (none))) else (none)) else (none)))) else (some false)) else (none)) else (some false)) else (some false)) = some r := H
          have A23 := Aside0.mk A230
          clear A230
          by_cases c24 : t715 = 0
          ·
           rw [if_pos c24] at H
           have c24b0 : (t715 == 0) = true := beq_iff_eq.mpr c24
           have c24b1 : (t715 != 0) = false := bne_eq_false_iff_eq.mpr c24
           clear c24
           by_cases c25 : (t708.length : Int) = 1
           ·
            rw [if_pos c25] at H
            have c25b0 : ((t708.length : Int) == 1) = true := beq_iff_eq.mpr c25
            have c25b1 : ((t708.length : Int) != 1) = false := bne_eq_false_iff_eq.mpr c25
            clear c25
            by_cases c26 : 0 < (t708.length : Int)
            ·
             rw [if_pos c26] at H
             have c26b0 := decide_eq_true c26
             have c26b1 : decide (0 < t708.length) = true := decide_eq_true (by omega)
             clear c26
             by_cases c27 : ((rd_T53 t708 0).f1) = 1
             ·
              rw [if_pos c27] at H
              have c27b0 : (((rd_T53 t708 0).f1) == 1) = true := beq_iff_eq.mpr c27
              have c27b1 : (((rd_T53 t708 0).f1) != 1) = false := bne_eq_false_iff_eq.mpr c27
              clear c27
              by_cases c28 : ((rd_T53 t708 0).f2) < 0
              ·
               rw [if_pos c28] at H
               have c28b0 := decide_eq_true c28
               clear c28
               obtain rfl := Option.some.inj H
               exact Bool.noConfusion h0_.1
              ·
               rw [if_neg c28] at H
               have c28b0 := decide_eq_false c28
               clear c28
               by_cases c38 : ((rd_T53 t708 0).f2) ≥ (t699.length : Int)
               ·
                rw [if_pos c38] at H
                have c38b0 := decide_eq_true c38
                clear c38
                obtain rfl := Option.some.inj H
                exact Bool.noConfusion h0_.1
               ·
                rw [if_neg c38] at H
                have c38b0 := decide_eq_false c38
                clear c38
                by_cases c48 : 0 ≤ ((rd_T53 t708 0).f2)
                ·
                 rw [if_pos c48] at H
                 have c48b0 := decide_eq_true c48
                 clear c48
                 by_cases c49 : ((rd_T53 t708 0).f2) < (x10_1.length : Int)
                 ·
                  rw [if_pos c49] at H
                  have c49b0 := decide_eq_true c49
                  clear c49
                  obtain ⟨bq50, hbq50⟩ : ∃ b_ : Bool, b_ = (rdOf false x10_1 ((rd_T53 t708 0).f2)) := ⟨_, rfl⟩
                  replace H : (if bq50 = true then (some false) else (if ((rd_T53 t708 0).f2) < (t699.length : Int) then (if rdOf false t699 ((rd_T53 t708 0).f2) = true then (some false) else (tegulalaw35_AllocFill.l0 k1 a2 t699 (x10_1.set (((rd_T53 t708 0).f2) : Int).toNat true) (wrap64 (x11_1 - 1)) t711 t712)) else (none))) = some r := by rw [← hbq50] at H; exact H
                  have Nbq50 := Aside0.mk hbq50
                  clear hbq50
                  by_cases c51 : bq50 = true
                  ·
                   subst c51
                   have H1 : (some false) = some r := by rw [if_pos rfl] at H; exact H
                   clear H
                   have H := H1
                   clear H1
                   obtain rfl := Option.some.inj H
                   exact Bool.noConfusion h0_.1
                  ·
                   replace c51 := Bool.eq_false_iff.mpr c51
                   subst c51
                   have H1 : (if ((rd_T53 t708 0).f2) < (t699.length : Int) then (if rdOf false t699 ((rd_T53 t708 0).f2) = true then (some false) else (tegulalaw35_AllocFill.l0 k1 a2 t699 (x10_1.set (((rd_T53 t708 0).f2) : Int).toNat true) (wrap64 (x11_1 - 1)) t711 t712)) else (none)) = some r := by rw [if_neg (show ¬ (false = true) by decide)] at H; exact H
                   clear H
                   have H := H1
                   clear H1
                   by_cases c62 : ((rd_T53 t708 0).f2) < (t699.length : Int)
                   ·
                    rw [if_pos c62] at H
                    have c62b0 := decide_eq_true c62
                    clear c62
                    obtain ⟨bq63, hbq63⟩ : ∃ b_ : Bool, b_ = (rdOf false t699 ((rd_T53 t708 0).f2)) := ⟨_, rfl⟩
                    replace H : (if bq63 = true then (some false) else (tegulalaw35_AllocFill.l0 k1 a2 t699 (x10_1.set (((rd_T53 t708 0).f2) : Int).toNat true) (wrap64 (x11_1 - 1)) t711 t712)) = some r := by rw [← hbq63] at H; exact H
                    have Nbq63 := Aside0.mk hbq63
                    clear hbq63
                    by_cases c64 : bq63 = true
                    ·
                     subst c64
                     have H1 : (some false) = some r := by rw [if_pos rfl] at H; exact H
                     clear H
                     have H := H1
                     clear H1
                     obtain rfl := Option.some.inj H
                     exact Bool.noConfusion h0_.1
                    ·
                     replace c64 := Bool.eq_false_iff.mpr c64
                     subst c64
                     have H1 : (tegulalaw35_AllocFill.l0 k1 a2 t699 (x10_1.set (((rd_T53 t708 0).f2) : Int).toNat true) (wrap64 (x11_1 - 1)) t711 t712) = some r := by rw [if_neg (show ¬ (false = true) by decide)] at H; exact H
                     clear H
                     have H := H1
                     clear H1
                     obtain ⟨y725, hy725⟩ : ∃ y_ : List Bool, y_ = (x10_1.set (((rd_T53 t708 0).f2) : Int).toNat true) := ⟨_, rfl⟩
                     replace H : (tegulalaw35_AllocFill.l0 k1 a2 t699 y725 (wrap64 (x11_1 - 1)) t711 t712) = some r := by first | (rw [hy725]; exact H) | exact H
                     have Ny725 := Aside0.mk hy725
                     clear hy725
                     have H' := Aside0.mk H
                     clear H
                     obtain ⟨Ao76, co76, eo76⟩ := Kd.V_slice HO_704001.1
                     subst eo76
                     try go_wp2
                     replace HO_8 := Aa (Kd.V_drew HO_8.1)
                     replace HO_10 := Aa (Kd.R_drew HO_10.1)
                     replace HO_704001 := Aa (Kd.V_drew HO_704001.1)
                     replace BK703 := Aa (blk_drew BK703.1)
                     replace HB := Aa (below_drew1 HB.1)
                     refine start_ (n := 16) (S := fun w' => w'.cell? ⟨gb703, 0, none⟩ = some (.int .i64 x704000_1) ∧ w'.cell? ⟨gb703, 1, none⟩ = some (.slice Ao76 x704001_1.length co76)) (ds := []) (bm 16 0) (by kernel_rfl) rfl (bm0 _) ⟨cC BK703 0, cC BK703 1⟩ (fun hHeld => ?_); refine with_tabW tegulalaw35_AllocFill.tab12 tegulalaw35_AllocFill.bits12 (fun HT_ HW_ => ?_)
                     generalize wr.drew = w77 at HO_8 HO_10 HO_704001 BK703 HB hHeld ⊢
                     refine pA 2 1 43 ?_
                     refine pA 6 2 44 ?_
                     refine pA 14 3 45 ?_
                     refine pA 30 4 46 ?_
                     refine pA 62 5 47 ?_
                     refine pA 126 6 48 ?_
                     refine tA 127 0 42 hHeld ?_
                     refine join_ (σ := Value × Value × Nat) 3 (bm 16 8191) (fun s_ => [(49, .tuple #[s_.1, .agg #[.int .i64 t711, s_.2.1], .int .i64 t715]), (13, .pointer (some ⟨s_.2.2, 0, none⟩)), (41, .tuple #[s_.1, .agg #[.int .i64 t711, s_.2.1], .int .i64 t715]), (50, s_.1), (51, .agg #[.int .i64 t711, s_.2.1]), (52, .int .i64 t715)]) (fun s_ w' => (w'.cell? ⟨gb703, 0, none⟩ = some (.int .i64 x704000_1) ∧ w'.cell? ⟨gb703, 1, none⟩ = some (.slice Ao76 x704001_1.length co76)) ∧ (Kd.R k53 53 w' w.heap.size (fun _ => True) s_.1 t708) ∧ (Kd.V k53 53 w' w.heap.size (fun k_ => some k_ ≠ (s_.1 : Value).ownBlock ∧ some k_ ≠ (v705 : Value).ownBlock ∧ k_ ≠ gb703 ∧ k_ ≠ s_.2.2) s_.2.1 t712) ∧ (Kd.R Kd.bool 4 w' w.heap.size (fun _ => True) v705 x10_1) ∧ (Kd.V k53 53 w' w.heap.size (fun k_ => some k_ ≠ (s_.1 : Value).ownBlock ∧ some k_ ≠ (v705 : Value).ownBlock ∧ k_ ≠ gb703 ∧ k_ ≠ s_.2.2) (.slice Ao76 x704001_1.length co76) x704001_1) ∧ (Kd.V Kd.bool 4 w' w.heap.size (fun k_ => some k_ ≠ (s_.1 : Value).ownBlock ∧ some k_ ≠ (v705 : Value).ownBlock ∧ k_ ≠ gb703 ∧ k_ ≠ s_.2.2) (.slice Ao18 t699.length co18) t699) ∧ (w'.heap[gb703]? = some (.cells #[.int .i64 x704000_1, .slice Ao76 x704001_1.length co76] 26 (0, 0))) ∧ (w'.heap[s_.2.2]? = some (.cells #[.int .i64 0, .slice none 0 0] 26 (0, 0))) ∧ (w.heap.size ≤ s_.2.2) ∧ (w.heap.size ≤ s_.2.2) ∧ (gb703 ≠ s_.2.2) ∧ (s_.2.2 ≠ gb703) ∧ (Below w.heap.size w w')) ?_ ?_
                     rotate_left
                     ·
                      intro hCont
                      refine two_ (i := 7) (j := 12) (Ni := some 49) (Nj := some 13) (bm 16 255) (bm 16 4223) rfl rfl rfl rfl (two_of HT_.1 (by kernel_rfl)) (by decide) (by decide) (fun K hK => ?_) (fun K hK => ?_)
                      ·
                       skip
                       refine gR Try.func12 #[.agg #[.int .i64 x704000_1, .slice Ao76 x704001_1.length co76], .int .i64 1, .int .i64 (Int.tmod (wrap64 (a2)) (wrap64 ((t699.length : Int) + 1)))] ?_
                       with_reducible refine (alloc_Map_Take.calls k1 x704000_1 (fun k_ => (some k_ ≠ (v705 : Value).ownBlock ∧ k_ ≠ gb703)) _ _ x704001_1 1 (Int.tmod (wrap64 (a2)) (wrap64 ((t699.length : Int) + 1))) t708 t711 t712 t715 _ ?side1 A23.1).mono ?_
                       (case side1 => exact HO_704001.1)
                       rintro e w78 ⟨v709, v713, rfl, ho0, ho1, hb⟩
                       refine ⟨_, rfl, ?_⟩
                       replace HO_8 := vE HO_8 ho0 hb
                       replace HO_704001 := vE HO_704001 ho0 hb
                       have HO710 := Aa (Kd.R_lower (Kd.R_mono (ok' := fun k_ => True) ho0 (fun _ hk_ => trivial)) (below_size (bS HB.1)))
                       have HO714 := Aa (Kd.V_lower (Kd.V_mono (ok' := fun k_ => some k_ ≠ (v709 : Value).ownBlock ∧ some k_ ≠ (v705 : Value).ownBlock ∧ k_ ≠ gb703) ho1 (fun k_ hk_ => ⟨hk_.2, Or.elim hk_.1 (fun hs_ => hs_.1) (fun hn_ => (Kd.fresh' (Kd.R_lt (rU HO_10.1)) k_ hn_)), Or.elim hk_.1 (fun hs_ => hs_.2) (fun hn_ => (Kd.freshB (g := gb703) (o := .cells #[.int .i64 x704000_1, .slice Ao76 x704001_1.length co76] 26 (0, 0)) (kU BK703.1) k_ hn_))⟩)) (below_size (bS HB.1)))
                       replace HO_10 := rB HO_10 hb
                       replace BK703 := kB BK703 hb
                       replace HB := sB HB hb
                       (try clear hb)
                       (try clear hb2)
                       (try clear hk)
                       (try clear hi)
                       (try clear ho0)
                       (try clear ho1)
                       refine hK.out _ _ ⟨cC BK703 0, cC BK703 1⟩ (fun hHeld => ?_)
                       clear hK K
                       refine nA ?_
                       refine pA 511 8 41 ?_
                       refine pA 1023 9 50 ?_
                       refine pA 2047 10 51 ?_
                       refine pA 4095 11 52 ?_
                       refine oA 8191 12 13 (fun K hK => ?_)
                       refine bT 13 #[.int .i64 0, .slice none 0 0] 26 ?_
                       intro gb716 hg w79 hbox hb
                       have n0_ := vG HO_8 hg hb
                       have n1_ := rB HO_10 hb
                       have n2_ := vG HO_704001 hg hb
                       have n3_ := rB HO710 hb
                       have n4_ := vG HO714 hg hb
                       have n5_ := kB BK703 hb
                       have n6_ := sB HB hb
                       have n7_ := Aa (hbox)
                       have n8_ := gS HB hg
                       have n9_ := gS HB hg
                       have n10_ := nL BK703 hg
                       have n11_ := nG BK703 hg
                       clear HO_8
                       clear HO_10
                       clear HO_704001
                       clear HO710
                       clear HO714
                       clear BK703
                       clear HB
                       have HO_8 := n0_
                       have HO_10 := n1_
                       have HO_704001 := n2_
                       have HO710 := n3_
                       have HO714 := n4_
                       have BK703 := n5_
                       have HB := n6_
                       have BK716 := n7_
                       have GW716 := n8_
                       have GE716 := n9_
                       have iE716 := Nonempty.intro GE716.1
                       have NB703_716 := n10_
                       have NB716_703 := n11_
                       clear n0_ n1_ n2_ n3_ n4_ n5_ n6_ n7_ n8_ n9_ n10_ n11_
                       clear hb hbox hg
                       refine hK.out _ _ ⟨cC BK703 0, cC BK703 1⟩ (fun hHeld => ?_)
                       clear hK K
                       refine nA ?_
                       exact norm_ (by simp only [putAll, Act.put, List.setIfInBounds_toArray, List.set_cons_zero, List.set_cons_succ]) (hCont (v709, v713, gb716) _ ⟨hHeld, (rU HO710.1), (vU (Kd.V_mono HO714.1 (fun _ hk => ⟨hk.1.1, ⟨hk.1.2.1, ⟨hk.1.2.2, hk.2⟩⟩⟩))), (rU HO_10.1), (vU (Kd.V_mono HO_704001.1 (fun _ hk => ⟨hk.1.2, ⟨hk.1.1.1, ⟨hk.1.1.2, hk.2⟩⟩⟩))), (vU (Kd.V_mono HO_8.1 (fun _ hk => ⟨hk.1.2, ⟨hk.1.1.1, ⟨hk.1.1.2, hk.2⟩⟩⟩))), (kU BK703.1), (kU BK716.1), GW716.1, GE716.1, NB703_716.1, NB716_703.1, (bS HB.1)⟩)
                      ·
                       skip
                       refine bT 13 #[.int .i64 0, .slice none 0 0] 26 ?_
                       intro gb716 hg w78 hbox hb
                       have n0_ := vG HO_8 hg hb
                       have n1_ := rB HO_10 hb
                       have n2_ := vG HO_704001 hg hb
                       have n3_ := kB BK703 hb
                       have n4_ := sB HB hb
                       have n5_ := Aa (hbox)
                       have n6_ := gS HB hg
                       have n7_ := gS HB hg
                       have n8_ := nL BK703 hg
                       have n9_ := nG BK703 hg
                       clear HO_8
                       clear HO_10
                       clear HO_704001
                       clear BK703
                       clear HB
                       have HO_8 := n0_
                       have HO_10 := n1_
                       have HO_704001 := n2_
                       have BK703 := n3_
                       have HB := n4_
                       have BK716 := n5_
                       have GW716 := n6_
                       have GE716 := n7_
                       have iE716 := Nonempty.intro GE716.1
                       have NB703_716 := n8_
                       have NB716_703 := n9_
                       clear n0_ n1_ n2_ n3_ n4_ n5_ n6_ n7_ n8_ n9_
                       clear hb hbox hg
                       refine hK.out _ _ ⟨cC BK703 0, cC BK703 1⟩ (fun hHeld => ?_)
                       clear hK K
                       refine nA ?_
                       refine oA 4351 7 49 (fun K hK => ?_)
                       refine gR Try.func12 #[.agg #[.int .i64 x704000_1, .slice Ao76 x704001_1.length co76], .int .i64 1, .int .i64 (Int.tmod (wrap64 (a2)) (wrap64 ((t699.length : Int) + 1)))] ?_
                       with_reducible refine (alloc_Map_Take.calls k1 x704000_1 (fun k_ => ((some k_ ≠ (v705 : Value).ownBlock ∧ k_ ≠ gb703) ∧ k_ ≠ gb716)) _ _ x704001_1 1 (Int.tmod (wrap64 (a2)) (wrap64 ((t699.length : Int) + 1))) t708 t711 t712 t715 _ ?side1 A23.1).mono ?_
                       (case side1 => exact HO_704001.1)
                       rintro e w79 ⟨v709, v713, rfl, ho0, ho1, hb⟩
                       refine ⟨_, rfl, ?_⟩
                       replace HO_8 := vE HO_8 ho0 hb
                       replace HO_704001 := vE HO_704001 ho0 hb
                       have HO710 := Aa (Kd.R_lower (Kd.R_mono (ok' := fun k_ => True) ho0 (fun _ hk_ => trivial)) (below_size (bS HB.1)))
                       have HO714 := Aa (Kd.V_lower (Kd.V_mono (ok' := fun k_ => some k_ ≠ (v709 : Value).ownBlock ∧ some k_ ≠ (v705 : Value).ownBlock ∧ k_ ≠ gb703 ∧ k_ ≠ gb716) ho1 (fun k_ hk_ => ⟨hk_.2, Or.elim hk_.1 (fun hs_ => hs_.1.1) (fun hn_ => (Kd.fresh' (Kd.R_lt (rU HO_10.1)) k_ hn_)), Or.elim hk_.1 (fun hs_ => hs_.1.2) (fun hn_ => (Kd.freshB (g := gb703) (o := .cells #[.int .i64 x704000_1, .slice Ao76 x704001_1.length co76] 26 (0, 0)) (kU BK703.1) k_ hn_)), Or.elim hk_.1 (fun hs_ => hs_.2) (fun hn_ => (Kd.freshB (g := gb716) (o := .cells #[.int .i64 0, .slice none 0 0] 26 (0, 0)) (kU BK716.1) k_ hn_))⟩)) (below_size (bS HB.1)))
                       replace HO_10 := rB HO_10 hb
                       replace BK703 := kB BK703 hb
                       replace BK716 := kB BK716 hb
                       replace HB := sB HB hb
                       (try clear hb)
                       (try clear hb2)
                       (try clear hk)
                       (try clear hi)
                       (try clear ho0)
                       (try clear ho1)
                       refine hK.out _ _ ⟨cC BK703 0, cC BK703 1⟩ (fun hHeld => ?_)
                       clear hK K
                       refine nA ?_
                       refine pA 4607 8 41 ?_
                       refine pA 5119 9 50 ?_
                       refine pA 6143 10 51 ?_
                       refine pA 8191 11 52 ?_
                       exact norm_ (by simp only [putAll, Act.put, List.setIfInBounds_toArray, List.set_cons_zero, List.set_cons_succ]) (hCont (v709, v713, gb716) _ ⟨hHeld, (rU HO710.1), (vU HO714.1), (rU HO_10.1), (vU (Kd.V_mono HO_704001.1 (fun _ hk => ⟨hk.2, ⟨hk.1.1.1, ⟨hk.1.1.2, hk.1.2⟩⟩⟩))), (vU (Kd.V_mono HO_8.1 (fun _ hk => ⟨hk.2, ⟨hk.1.1.1, ⟨hk.1.1.2, hk.1.2⟩⟩⟩))), (kU BK703.1), (kU BK716.1), GW716.1, GE716.1, NB703_716.1, NB716_703.1, (bS HB.1)⟩)
                     rintro ⟨v709, v713, gb716⟩ w80 ⟨hS_, h0_, h1_, h2_, h3_, h4_, h5_, h6_, h7_, h8_, h9_, h10_, h11_⟩
                     have n0_ : Aside0 (Kd.R k53 53 w80 w.heap.size (fun _ => True) v709 t708) := ⟨h0_⟩
                     have n1_ : Aside0 (Kd.V k53 53 w80 w.heap.size (fun k_ => some k_ ≠ (v709 : Value).ownBlock ∧ some k_ ≠ (v705 : Value).ownBlock ∧ k_ ≠ gb703 ∧ k_ ≠ gb716) v713 t712) := ⟨h1_⟩
                     have n2_ : Aside0 (Kd.R Kd.bool 4 w80 w.heap.size (fun _ => True) v705 x10_1) := ⟨h2_⟩
                     have n3_ : Aside0 (Kd.V k53 53 w80 w.heap.size (fun k_ => some k_ ≠ (v709 : Value).ownBlock ∧ some k_ ≠ (v705 : Value).ownBlock ∧ k_ ≠ gb703 ∧ k_ ≠ gb716) (.slice Ao76 x704001_1.length co76) x704001_1) := ⟨h3_⟩
                     have n4_ : Aside0 (Kd.V Kd.bool 4 w80 w.heap.size (fun k_ => some k_ ≠ (v709 : Value).ownBlock ∧ some k_ ≠ (v705 : Value).ownBlock ∧ k_ ≠ gb703 ∧ k_ ≠ gb716) (.slice Ao18 t699.length co18) t699) := ⟨h4_⟩
                     have n5_ : Aside0 (w80.heap[gb703]? = some (.cells #[.int .i64 x704000_1, .slice Ao76 x704001_1.length co76] 26 (0, 0))) := ⟨h5_⟩
                     have n6_ : Aside0 (w80.heap[gb716]? = some (.cells #[.int .i64 0, .slice none 0 0] 26 (0, 0))) := ⟨h6_⟩
                     have n7_ : Aside0 (w.heap.size ≤ gb716) := ⟨h7_⟩
                     have n8_ : Aside0 (w.heap.size ≤ gb716) := ⟨h8_⟩
                     have n9_ : Aside0 (gb703 ≠ gb716) := ⟨h9_⟩
                     have n10_ : Aside0 (gb716 ≠ gb703) := ⟨h10_⟩
                     have n11_ : Aside0 (Below w.heap.size w w80) := ⟨h11_⟩
                     clear HO_8
                     clear HO_10
                     clear HO_704001
                     clear BK703
                     clear HB
                     clear h0_ h1_ h2_ h3_ h4_ h5_ h6_ h7_ h8_ h9_ h10_ h11_
                     have HO710 := n0_
                     have HO714 := n1_
                     have HO_10 := n2_
                     have HO_704001 := n3_
                     have HO_8 := n4_
                     have BK703 := n5_
                     have BK716 := n6_
                     have GW716 := n7_
                     have GE716 := n8_
                     have iE716 := Nonempty.intro GE716.1
                     have NB703_716 := n9_
                     have NB716_703 := n10_
                     have HB := n11_
                     clear n0_ n1_ n2_ n3_ n4_ n5_ n6_ n7_ n8_ n9_ n10_ n11_
                     have hHeld : w80.cell? ⟨gb703, 0, none⟩ = some (.int .i64 x704000_1) ∧ w80.cell? ⟨gb703, 1, none⟩ = some (.slice Ao76 x704001_1.length co76) := hS_
                     obtain ⟨Ao82, co82, eo82⟩ := Kd.V_slice HO714.1
                     (first | subst eo82 | (injection eo82 with f1_ f2_ f3_; have f4_ := f1_.symm; have f5_ := f3_.symm; clear f1_ f2_ f3_; subst f4_; subst f5_))
                     refine norm_ (a' := ?_) ?_ ?_
                     rotate_left
                     ·
                      simp only [putAll, Act.put, List.setIfInBounds_toArray, List.set_cons_zero, List.set_cons_succ]
                      rfl
                     refine pA 16383 13 12 ?_
                     refine oN 32767 14 (fun K hK => ?_)
                     have hs81 : w80.cell? ⟨gb716, 0, none⟩ = some (.int .i64 0) := cC BK716 0
                     have hfs81 := fC BK716 0
                     have hns81_0 := NB703_716.1
                     have hms81_0 := NB716_703.1
                     have hs83 : w80.cell? ⟨gb716, 1, none⟩ = some (.slice none 0 0) := cC BK716 1
                     have hfs83 := fC BK716 1
                     have hns83_0 := NB703_716.1
                     have hms83_0 := NB716_703.1
                     refine skip_ (w1 := ?_) (by rfl) rfl ?_ ?_
                     rotate_left
                     ·
                      go_simp; rfl
                     refine hK.out _ _ ⟨((cell_far (p := ⟨gb716, _, none⟩) NB703_716.1 _).trans (((cell_far (p := ⟨gb716, _, none⟩) NB703_716.1 _).trans (hHeld.1)))), ((cell_far (p := ⟨gb716, _, none⟩) NB703_716.1 _).trans (((cell_far (p := ⟨gb716, _, none⟩) NB703_716.1 _).trans (hHeld.2))))⟩ (fun hHeld => ?_)
                     clear hK K
                     refine pA 65535 15 14 ?_
                     refine done_ (done_of HT_.1 (by kernel_rfl)) ?_
                     have n0_ : Aside0 (Kd.V Kd.bool 4 ((w80.setCell ⟨gb716, 0, none⟩ (.int .i64 t711)).setCell ⟨gb716, 1, none⟩ (.slice Ao82 t712.length co82)) w.heap.size (fun k_ => some k_ ≠ (v705 : Value).ownBlock ∧ some k_ ≠ (v709 : Value).ownBlock ∧ k_ ≠ gb703 ∧ k_ ≠ gb716) (.slice Ao18 t699.length co18) t699) := ⟨vU (Kd.V_mono (Kd.V_far (p := ⟨gb716, 1, none⟩) (Kd.V_far (p := ⟨gb716, 0, none⟩) (Kd.V_mono HO_8.1 (fun k_ hk => (⟨hk, hk.2.2.2⟩ : _ ∧ k_ ≠ gb716))) (fun _ hk => hk.2) (.int .i64 t711)) (fun _ hk => hk.2) (.slice Ao82 t712.length co82)) (fun _ hk => ⟨hk.1.2.1, ⟨hk.1.1, ⟨hk.1.2.2.1, hk.1.2.2.2⟩⟩⟩))⟩
                     have n1_ : Aside0 (Kd.R Kd.bool 4 ((w80.setCell ⟨gb716, 0, none⟩ (.int .i64 t711)).setCell ⟨gb716, 1, none⟩ (.slice Ao82 t712.length co82)) w.heap.size (fun _ => True) v705 x10_1) := ⟨rU (Kd.R_mono (Kd.R_far (p := ⟨gb716, 1, none⟩) (Kd.R_far (p := ⟨gb716, 0, none⟩) (Kd.R_types HO_10.1 BK716.1 (by decide)) (fun _ hk => hk.2) (.int .i64 t711)) (fun _ hk => hk.2) (.slice Ao82 t712.length co82)) (fun _ hk => trivial))⟩
                     have n2_ : Aside0 (Kd.V k53 53 ((w80.setCell ⟨gb716, 0, none⟩ (.int .i64 t711)).setCell ⟨gb716, 1, none⟩ (.slice Ao82 t712.length co82)) w.heap.size (fun k_ => some k_ ≠ (v705 : Value).ownBlock ∧ some k_ ≠ (v709 : Value).ownBlock ∧ k_ ≠ gb703 ∧ k_ ≠ gb716) (.slice Ao76 x704001_1.length co76) x704001_1) := ⟨vU (Kd.V_mono (Kd.V_far (p := ⟨gb716, 1, none⟩) (Kd.V_far (p := ⟨gb716, 0, none⟩) (Kd.V_mono HO_704001.1 (fun k_ hk => (⟨hk, hk.2.2.2⟩ : _ ∧ k_ ≠ gb716))) (fun _ hk => hk.2) (.int .i64 t711)) (fun _ hk => hk.2) (.slice Ao82 t712.length co82)) (fun _ hk => ⟨hk.1.2.1, ⟨hk.1.1, ⟨hk.1.2.2.1, hk.1.2.2.2⟩⟩⟩))⟩
                     have n3_ : Aside0 (Kd.R k53 53 ((w80.setCell ⟨gb716, 0, none⟩ (.int .i64 t711)).setCell ⟨gb716, 1, none⟩ (.slice Ao82 t712.length co82)) w.heap.size (fun _ => True) v709 t708) := ⟨rU (Kd.R_mono (Kd.R_far (p := ⟨gb716, 1, none⟩) (Kd.R_far (p := ⟨gb716, 0, none⟩) (Kd.R_types HO710.1 BK716.1 (by decide)) (fun _ hk => hk.2) (.int .i64 t711)) (fun _ hk => hk.2) (.slice Ao82 t712.length co82)) (fun _ hk => trivial))⟩
                     have n4_ : Aside0 (Kd.V k53 53 ((w80.setCell ⟨gb716, 0, none⟩ (.int .i64 t711)).setCell ⟨gb716, 1, none⟩ (.slice Ao82 t712.length co82)) w.heap.size (fun k_ => some k_ ≠ (v705 : Value).ownBlock ∧ some k_ ≠ (v709 : Value).ownBlock ∧ k_ ≠ gb703 ∧ k_ ≠ gb716) (.slice Ao82 t712.length co82) t712) := ⟨vU (Kd.V_mono (Kd.V_far (p := ⟨gb716, 1, none⟩) (Kd.V_far (p := ⟨gb716, 0, none⟩) (Kd.V_mono HO714.1 (fun k_ hk => (⟨hk, hk.2.2.2⟩ : _ ∧ k_ ≠ gb716))) (fun _ hk => hk.2) (.int .i64 t711)) (fun _ hk => hk.2) (.slice Ao82 t712.length co82)) (fun _ hk => ⟨hk.1.2.1, ⟨hk.1.1, ⟨hk.1.2.2.1, hk.1.2.2.2⟩⟩⟩))⟩
                     have n5_ : Aside0 (((w80.setCell ⟨gb716, 0, none⟩ (.int .i64 t711)).setCell ⟨gb716, 1, none⟩ (.slice Ao82 t712.length co82)).heap[gb703]? = some (.cells #[.int .i64 x704000_1, .slice Ao76 x704001_1.length co76] 26 (0, 0))) := ⟨by refine kP ?_; refine blk_far ?_ NB703_716.1 _; refine kP ?_; refine blk_far ?_ NB703_716.1 _; refine kP ?_; exact BK703.1⟩
                     have n6_ : Aside0 (((w80.setCell ⟨gb716, 0, none⟩ (.int .i64 t711)).setCell ⟨gb716, 1, none⟩ (.slice Ao82 t712.length co82)).heap[gb716]? = some (.cells #[.int .i64 t711, .slice Ao82 t712.length co82] 26 (0, 0))) := ⟨by refine kP ?_; refine blk_put (cs := #[.int .i64 t711, .slice none 0 0]) ?_ 1 _ rfl; refine kP ?_; refine blk_put (cs := #[.int .i64 0, .slice none 0 0]) ?_ 0 _ rfl; refine kP ?_; exact BK716.1⟩
                     have n7_ : Aside0 (Below w.heap.size w ((w80.setCell ⟨gb716, 0, none⟩ (.int .i64 t711)).setCell ⟨gb716, 1, none⟩ (.slice Ao82 t712.length co82))) := ⟨bS HB.1⟩
                     (try clear HO_8)
                     (try clear HO_10)
                     (try clear HO_704001)
                     (try clear HO710)
                     (try clear HO714)
                     (try clear BK703)
                     (try clear BK716)
                     (try clear HB)
                     generalize ((w80.setCell ⟨gb716, 0, none⟩ (.int .i64 t711)).setCell ⟨gb716, 1, none⟩ (.slice Ao82 t712.length co82)) = w84 at n0_ n1_ n2_ n3_ n4_ n5_ n6_ n7_ ⊢
                     have HO_8 := n0_
                     have HO_10 := n1_
                     have HO_704001 := n2_
                     have HO710 := n3_
                     have HO714 := n4_
                     have BK703 := n5_
                     have BK716 := n6_
                     have HB := n7_
                     clear n0_ n1_ n2_ n3_ n4_ n5_ n6_ n7_
                     obtain ⟨Ao85, co85, eo85⟩ := Kd.R_slice HO710.1
                     subst eo85
                     have p717 : 0 ≤ (0 : Int) := (by omega)
                     have q717 : 0 < (t708.length : Int) := dT
                     obtain ⟨ad717, e717, hx717_0, hx717_1, hx717_2⟩ := at_T53 (Kd.R_reads' HO710.1).2.2 0 p717 q717
                     cases e717
                     have qi717 : (0 < t708.length) = True := eq_true (by omega)
                     (try rw [show ((0 : Int)).toNat = 0 from rfl] at hx717_0)
                     (try rw [show 0 * 3 = 0 from rfl] at hx717_0)
                     (try rw [Addr.add_zero'] at hx717_0)
                     (try rw [show ((0 : Int)).toNat = 0 from rfl] at hx717_1)
                     (try rw [show 0 * 3 = 0 from rfl] at hx717_1)
                     (try rw [Addr.add_zero'] at hx717_1)
                     (try rw [show ((0 : Int)).toNat = 0 from rfl] at hx717_2)
                     (try rw [show 0 * 3 = 0 from rfl] at hx717_2)
                     (try rw [Addr.add_zero'] at hx717_2)
                     replace p717 := eq_true p717
                     replace q717 := eq_true q717
                     have p718 : 0 ≤ (0 : Int) := (by omega)
                     have q718 : 0 < (t708.length : Int) := dT
                     obtain ⟨ad718, e718, hx718_0, hx718_1, hx718_2⟩ := at_T53 (Kd.R_reads' HO710.1).2.2 0 p718 q718
                     obtain rfl : ad717 = ad718 := (by injection e718)
                     have qi718 : (0 < t708.length) = True := eq_true (by omega)
                     (try rw [show ((0 : Int)).toNat = 0 from rfl] at hx718_0)
                     (try rw [show 0 * 3 = 0 from rfl] at hx718_0)
                     (try rw [Addr.add_zero'] at hx718_0)
                     (try rw [show ((0 : Int)).toNat = 0 from rfl] at hx718_1)
                     (try rw [show 0 * 3 = 0 from rfl] at hx718_1)
                     (try rw [Addr.add_zero'] at hx718_1)
                     (try rw [show ((0 : Int)).toNat = 0 from rfl] at hx718_2)
                     (try rw [show 0 * 3 = 0 from rfl] at hx718_2)
                     (try rw [Addr.add_zero'] at hx718_2)
                     replace p718 := eq_true p718
                     replace q718 := eq_true q718
                     have p719 : 0 ≤ (0 : Int) := (by omega)
                     have q719 : 0 < (t708.length : Int) := dT
                     obtain ⟨ad719, e719, hx719_0, hx719_1, hx719_2⟩ := at_T53 (Kd.R_reads' HO710.1).2.2 0 p719 q719
                     obtain rfl : ad717 = ad719 := (by injection e719)
                     have qi719 : (0 < t708.length) = True := eq_true (by omega)
                     (try rw [show ((0 : Int)).toNat = 0 from rfl] at hx719_0)
                     (try rw [show 0 * 3 = 0 from rfl] at hx719_0)
                     (try rw [Addr.add_zero'] at hx719_0)
                     (try rw [show ((0 : Int)).toNat = 0 from rfl] at hx719_1)
                     (try rw [show 0 * 3 = 0 from rfl] at hx719_1)
                     (try rw [Addr.add_zero'] at hx719_1)
                     (try rw [show ((0 : Int)).toNat = 0 from rfl] at hx719_2)
                     (try rw [show 0 * 3 = 0 from rfl] at hx719_2)
                     (try rw [Addr.add_zero'] at hx719_2)
                     replace p719 := eq_true p719
                     replace q719 := eq_true q719
                     have p720 : 0 ≤ (0 : Int) := (by omega)
                     have q720 : 0 < (t708.length : Int) := dT
                     obtain ⟨ad720, e720, hx720_0, hx720_1, hx720_2⟩ := at_T53 (Kd.R_reads' HO710.1).2.2 0 p720 q720
                     obtain rfl : ad717 = ad720 := (by injection e720)
                     have qi720 : (0 < t708.length) = True := eq_true (by omega)
                     (try rw [show ((0 : Int)).toNat = 0 from rfl] at hx720_0)
                     (try rw [show 0 * 3 = 0 from rfl] at hx720_0)
                     (try rw [Addr.add_zero'] at hx720_0)
                     (try rw [show ((0 : Int)).toNat = 0 from rfl] at hx720_1)
                     (try rw [show 0 * 3 = 0 from rfl] at hx720_1)
                     (try rw [Addr.add_zero'] at hx720_1)
                     (try rw [show ((0 : Int)).toNat = 0 from rfl] at hx720_2)
                     (try rw [show 0 * 3 = 0 from rfl] at hx720_2)
                     (try rw [Addr.add_zero'] at hx720_2)
                     replace p720 := eq_true p720
                     replace q720 := eq_true q720
                     obtain ⟨Ao86, co86, eo86⟩ := Kd.R_slice HO_10.1
                     subst eo86
                     have p721 : 0 ≤ (((rd_T53 t708 0).f2) : Int) := dT
                     have q721 : ((rd_T53 t708 0).f2) < (x10_1.length : Int) := dT
                     obtain ⟨ad721, e721, hx721_0⟩ := Kd.at_bool (Kd.R_reads' HO_10.1).2.2 ((rd_T53 t708 0).f2) p721 q721
                     (try rw [← Nbq50.1] at hx721_0)
                     (try rw [← Nbq63.1] at hx721_0)
                     cases e721
                     replace p721 := eq_true p721
                     replace q721 := eq_true q721
                     have p722 : 0 ≤ (0 : Int) := (by omega)
                     have q722 : 0 < (t708.length : Int) := dT
                     obtain ⟨ad722, e722, hx722_0, hx722_1, hx722_2⟩ := at_T53 (Kd.R_reads' HO710.1).2.2 0 p722 q722
                     obtain rfl : ad717 = ad722 := (by injection e722)
                     have qi722 : (0 < t708.length) = True := eq_true (by omega)
                     (try rw [show ((0 : Int)).toNat = 0 from rfl] at hx722_0)
                     (try rw [show 0 * 3 = 0 from rfl] at hx722_0)
                     (try rw [Addr.add_zero'] at hx722_0)
                     (try rw [show ((0 : Int)).toNat = 0 from rfl] at hx722_1)
                     (try rw [show 0 * 3 = 0 from rfl] at hx722_1)
                     (try rw [Addr.add_zero'] at hx722_1)
                     (try rw [show ((0 : Int)).toNat = 0 from rfl] at hx722_2)
                     (try rw [show 0 * 3 = 0 from rfl] at hx722_2)
                     (try rw [Addr.add_zero'] at hx722_2)
                     replace p722 := eq_true p722
                     replace q722 := eq_true q722
                     have p723 : 0 ≤ (((rd_T53 t708 0).f2) : Int) := dT
                     have q723 : ((rd_T53 t708 0).f2) < (t699.length : Int) := dT
                     obtain ⟨ad723, e723, hx723_0⟩ := Kd.at_bool (Kd.V_reads' HO_8.1).2.2 ((rd_T53 t708 0).f2) p723 q723
                     (try rw [← Nbq50.1] at hx723_0)
                     (try rw [← Nbq63.1] at hx723_0)
                     cases e723
                     replace p723 := eq_true p723
                     replace q723 := eq_true q723
                     have p724 : 0 ≤ (0 : Int) := (by omega)
                     have q724 : 0 < (t708.length : Int) := dT
                     obtain ⟨ad724, e724, hx724_0, hx724_1, hx724_2⟩ := at_T53 (Kd.R_reads' HO710.1).2.2 0 p724 q724
                     obtain rfl : ad717 = ad724 := (by injection e724)
                     have qi724 : (0 < t708.length) = True := eq_true (by omega)
                     (try rw [show ((0 : Int)).toNat = 0 from rfl] at hx724_0)
                     (try rw [show 0 * 3 = 0 from rfl] at hx724_0)
                     (try rw [Addr.add_zero'] at hx724_0)
                     (try rw [show ((0 : Int)).toNat = 0 from rfl] at hx724_1)
                     (try rw [show 0 * 3 = 0 from rfl] at hx724_1)
                     (try rw [Addr.add_zero'] at hx724_1)
                     (try rw [show ((0 : Int)).toNat = 0 from rfl] at hx724_2)
                     (try rw [show 0 * 3 = 0 from rfl] at hx724_2)
                     (try rw [Addr.add_zero'] at hx724_2)
                     replace p724 := eq_true p724
                     replace q724 := eq_true q724
                     have p75 : 0 ≤ (((rd_T53 t708 0).f2) : Int) := dT
                     have q75 : (((rd_T53 t708 0).f2) : Int) < ((x10_1.length : Int) : Int) := dT
                     obtain ⟨go75, co75, eo75, gb75, gl75, cl75, HG75⟩ := Kd.R_form HO_10.1 (by omega)
                     (first | cases eo75 | (injection eo75 with ea_ en_ ec_; (first | subst ea_ | (injection ea_ with ea_; subst ea_)); subst ec_; clear en_))
                     have GB75 := Aside0.mk gb75
                     have GG75 := Aside0.mk HG75
                     clear gb75 gl75 HG75
                     (first | simp only [add_plain] at hx721_0 | skip)
                     obtain ⟨hx75_0, hf75_0⟩ := Kd.R_celln false HO_10.1 (((rd_T53 t708 0).f2) : Int) p75 q75
                     replace p75 := eq_true p75
                     replace q75 := eq_true q75
                     obtain ⟨hy87_, hz87_⟩ := Kd.R_celln false HO_10.1 (((rd_T53 t708 0).f2) : Int) (dT) (dT)
                     have HP87 := Kd.R_putg HO_10.1 (((rd_T53 t708 0).f2) : Int) true
                     try go_wp2_with (first | ((with_reducible refine gT 4 106 ?_); refine sE (w84.setCell ⟨go75, (((rd_T53 t708 0).f2) : Int).toNat, none⟩ (.bool true)) ?_; intro w88 hw; have hg : w84.grownBy w88 (some go75) := (by rw [hw]; exact HP87.2); have hp_ : Kd.R Kd.bool 4 w88 w.heap.size (fun _ => True) (.slice (some ⟨go75, 0, none⟩) x10_1.length co86) y725 := (by rw [hw, Ny725.1]; exact HP87.1); clear HP87; replace HO_8 := Aa (Kd.V_afterv (v := (.slice (some ⟨go75, 0, none⟩) x10_1.length co86)) (v1 := (.slice (some ⟨go75, 0, none⟩) x10_1.length co86)) (ok := (fun k_ => nb k_ (some ad717) t708.length co85 ∧ k_ ≠ gb703 ∧ k_ ≠ gb716)) (vU (Kd.V_mono HO_8.1 (fun _ hk => ⟨⟨hk.2.1, ⟨hk.2.2.1, hk.2.2.2⟩⟩, hk.1⟩))) hg (.inl rfl)); replace HO_704001 := Aa (Kd.V_afterv (v := (.slice (some ⟨go75, 0, none⟩) x10_1.length co86)) (v1 := (.slice (some ⟨go75, 0, none⟩) x10_1.length co86)) (ok := (fun k_ => nb k_ (some ad717) t708.length co85 ∧ k_ ≠ gb703 ∧ k_ ≠ gb716)) (vU (Kd.V_mono HO_704001.1 (fun _ hk => ⟨⟨hk.2.1, ⟨hk.2.2.1, hk.2.2.2⟩⟩, hk.1⟩))) hg (.inl rfl)); replace BK703 := Aa (blk_grown (g := gb703) (o := .cells #[.int .i64 x704000_1, .slice Ao76 x704001_1.length co76] 26 (0, 0)) (kU BK703.1) hg (Kd.R_ne HO_10.1 BK703.1 (by decide))); replace HO710 := Aa (Kd.R_over' (v := (.slice (some ⟨go75, 0, none⟩) x10_1.length co86)) (rU HO710.1) (Kd.R_typed HO_10.1) (by decide) hg); replace HO714 := Aa (Kd.V_afterv (v := (.slice (some ⟨go75, 0, none⟩) x10_1.length co86)) (v1 := (.slice (some ⟨go75, 0, none⟩) x10_1.length co86)) (ok := (fun k_ => nb k_ (some ad717) t708.length co85 ∧ k_ ≠ gb703 ∧ k_ ≠ gb716)) (vU (Kd.V_mono HO714.1 (fun _ hk => ⟨⟨hk.2.1, ⟨hk.2.2.1, hk.2.2.2⟩⟩, hk.1⟩))) hg (.inl rfl)); replace BK716 := Aa (blk_grown (g := gb716) (o := .cells #[.int .i64 t711, .slice Ao82 t712.length co82] 26 (0, 0)) (kU BK716.1) hg (Kd.R_ne HO_10.1 BK716.1 (by decide))); replace HO_10 := Aa (hp_); replace HB := Aa ((by rw [hw]; exact below_set (HB.1) GB75.1 : Below w.heap.size w w88)); clear hg hw hp_; have hnb89 := NB716_703.1; have hnc89 := NB703_716.1; have hcz90_0 : w88.cell? ⟨gb716, 0, none⟩ = some (.int .i64 t711) := cC BK716 0; have hcz90_1 : w88.cell? ⟨gb716, 1, none⟩ = some (.slice Ao82 t712.length co82) := cC BK716 1; have hfz90_0 := fC BK716 0; have hfz90_1 := fC BK716 1; have hcz91_0 : w88.cell? ⟨gb703, 0, none⟩ = some (.int .i64 x704000_1) := cC BK703 0; have hcz91_1 : w88.cell? ⟨gb703, 1, none⟩ = some (.slice Ao76 x704001_1.length co76) := cC BK703 1; have hfz91_0 := fC BK703 0; have hfz91_1 := fC BK703 1))
                     go_roundg k1
                     case measure => have := HK1.1; omega
                     case rel => exact ⟨(y725), (wrap64 (x11_1 - 1)), (t711), (t712), (.slice Ao82 t712.length co82), (by first | rfl | (simp; done) | (simp [*]; done)), H', ⟨by have := HK1.1; omega⟩, ⟨vU (Kd.V_mono (Kd.V_far (p := ⟨gb703, 1, none⟩) (Kd.V_far (p := ⟨gb703, 0, none⟩) (Kd.V_mono HO_8.1 (fun k_ hk => (⟨hk, hk.1.2.1⟩ : _ ∧ k_ ≠ gb703))) (fun _ hk => hk.2) (.int .i64 t711)) (fun _ hk => hk.2) (.slice Ao82 t712.length co82)) (fun _ hk => ⟨hk.1.2, hk.1.1.2.1⟩))⟩, ⟨rU (Kd.R_mono (Kd.R_far (p := ⟨gb703, 1, none⟩) (Kd.R_far (p := ⟨gb703, 0, none⟩) (Kd.R_types HO_10.1 BK703.1 (by decide)) (fun _ hk => hk.2) (.int .i64 t711)) (fun _ hk => hk.2) (.slice Ao82 t712.length co82)) (fun _ hk => trivial))⟩, ⟨vU (Kd.V_mono (Kd.V_far (p := ⟨gb703, 1, none⟩) (Kd.V_far (p := ⟨gb703, 0, none⟩) (Kd.V_mono HO714.1 (fun k_ hk => (⟨hk, hk.1.2.1⟩ : _ ∧ k_ ≠ gb703))) (fun _ hk => hk.2) (.int .i64 t711)) (fun _ hk => hk.2) (.slice Ao82 t712.length co82)) (fun _ hk => ⟨hk.1.2, hk.1.1.2.1⟩))⟩, ⟨by refine kP ?_; refine blk_put (cs := #[.int .i64 t711, .slice Ao76 x704001_1.length co76]) ?_ 1 _ rfl; refine kP ?_; refine blk_put (cs := #[.int .i64 x704000_1, .slice Ao76 x704001_1.length co76]) ?_ 0 _ rfl; refine kP ?_; exact BK703.1⟩, ⟨bS HB.1⟩⟩
                   ·
                    rw [if_neg c62] at H
                    exact absurd H (by simp)
                 ·
                  rw [if_neg c49] at H
                  exact absurd H (by simp)
                ·
                 rw [if_neg c48] at H
                 exact absurd H (by simp)
             ·
              rw [if_neg c27] at H
              have c27b0 : (((rd_T53 t708 0).f1) == 1) = false := beq_eq_false_iff_ne.mpr c27
              have c27b1 : (((rd_T53 t708 0).f1) != 1) = true := bne_iff_ne.mpr c27
              obtain rfl := Option.some.inj H
              exact Bool.noConfusion h0_.1
            ·
             rw [if_neg c26] at H
             exact absurd H (by simp)
           ·
            rw [if_neg c25] at H
            have c25b0 : ((t708.length : Int) == 1) = false := beq_eq_false_iff_ne.mpr c25
            have c25b1 : ((t708.length : Int) != 1) = true := bne_iff_ne.mpr c25
            obtain rfl := Option.some.inj H
            exact Bool.noConfusion h0_.1
          ·
           rw [if_neg c24] at H
           have c24b0 : (t715 == 0) = false := beq_eq_false_iff_ne.mpr c24
           have c24b1 : (t715 != 0) = true := bne_iff_ne.mpr c24
           obtain rfl := Option.some.inj H
           exact Bool.noConfusion h0_.1
        ·
         rw [if_neg c21] at H
         have c21b0 := decide_eq_false c21
         clear c21
         replace H := Option.bind_eq_some_iff.mp H
         obtain ⟨⟨t726, t729, t730, t733⟩, A1180, H⟩ := H
         replace H : (if t733 = 11 then ((alloc_Map_Free.f k1 x704000_1 x704001_1).bind fun t735 => (some (t735 == 0))) else (some false)) = some r := H
         have A118 := Aside0.mk A1180
         clear A1180
         by_cases c119 : t733 = 11
         ·
          rw [if_pos c119] at H
          have c119b0 : (t733 == 11) = true := beq_iff_eq.mpr c119
          have c119b1 : (t733 != 11) = false := bne_eq_false_iff_eq.mpr c119
          clear c119
          replace H := Option.bind_eq_some_iff.mp H
          obtain ⟨t735, A1200, H⟩ := H
          replace H : (some (t735 == 0)) = some r := H
          have A120 := Aside0.mk A1200
          clear A1200
          obtain rfl := Option.some.inj H
          have hcz121_0 : wr.cell? ⟨gb703, 0, none⟩ = some (.int .i64 x704000_1) := cC BK703 0
          have hcz121_1 : wr.cell? ⟨gb703, 1, none⟩ = some (u704001) := cC BK703 1
          have hfz121_0 := fC BK703 0
          have hfz121_1 := fC BK703 1
          obtain ⟨Ao122, co122, eo122⟩ := Kd.V_slice HO_704001.1
          subst eo122
          go_wp2_with (first | ((with_reducible refine gC 12 ?_); refine gL 110 Try.func12 #[.agg #[.int .i64 x704000_1, .slice Ao122 x704001_1.length co122], .int .i64 1, .int .i64 0] ?_; (with_reducible refine (alloc_Map_Take.calls k1 x704000_1 (fun k_ => (some k_ ≠ (v705 : Value).ownBlock ∧ k_ ≠ gb703)) _ _ x704001_1 1 0 t726 t729 t730 t733 _ ?side1 A118.1).mono ?_); (case side1 => exact HO_704001.1); rintro e w123 ⟨v727, v731, rfl, ho0, ho1, hb⟩; refine ⟨_, rfl, ?_⟩; replace HO_8 := vE HO_8 ho0 hb; replace HO_704001 := vE HO_704001 ho0 hb; have HO728 := Aa (Kd.R_lower (Kd.R_mono (ok' := fun k_ => True) ho0 (fun _ hk_ => trivial)) (below_size (bS HB.1))); have HO732 := Aa (Kd.V_lower (Kd.V_mono (ok' := fun k_ => some k_ ≠ (v727 : Value).ownBlock ∧ some k_ ≠ (v705 : Value).ownBlock ∧ k_ ≠ gb703) ho1 (fun k_ hk_ => ⟨hk_.2, Or.elim hk_.1 (fun hs_ => hs_.1) (fun hn_ => (Kd.fresh' (Kd.R_lt (rU HO_10.1)) k_ hn_)), Or.elim hk_.1 (fun hs_ => hs_.2) (fun hn_ => (Kd.freshB (g := gb703) (o := .cells #[.int .i64 x704000_1, .slice Ao122 x704001_1.length co122] 26 (0, 0)) (kU BK703.1) k_ hn_))⟩)) (below_size (bS HB.1))); replace HO_10 := rB HO_10 hb; replace BK703 := kB BK703 hb; replace HB := sB HB hb; (try clear hb); (try clear hk); (try clear ho0); (try clear ho1)) | ((with_reducible refine gD 16 ?_); (try (refine gate_guard (by rfl) ?_; dsimp only)); refine bE #[.int .i64 0, .slice none 0 0] 26 ?_; intro gb734 hg w124 hbox hb; replace HO_8 := vG HO_8 hg hb; replace HO_10 := rB HO_10 hb; replace HO_704001 := vG HO_704001 hg hb; replace HO728 := rB HO728 hb; replace HO732 := vG HO732 hg hb; have BK734 := Aa (hbox); have GW734 := gS HB hg; have GE734 := gS HB hg; have iE734 := Nonempty.intro GE734.1; replace HB := sB HB hb; have NB703_734 := nL BK703 hg; have NB734_703 := nG BK703 hg; replace BK703 := kB BK703 hb; clear hb hbox hg; have hnb125 := NB734_703.1; have hnc125 := NB703_734.1; have hcz126_0 : w124.cell? ⟨gb734, 0, none⟩ = some (.int .i64 0) := cC BK734 0; have hcz126_1 : w124.cell? ⟨gb734, 1, none⟩ = some (.slice none 0 0) := cC BK734 1; have hfz126_0 := fC BK734 0; have hfz126_1 := fC BK734 1; obtain ⟨Ao127, co127, eo127⟩ := Kd.V_slice HO732.1; subst eo127; have hcz128_0 : w124.cell? ⟨gb703, 0, none⟩ = some (.int .i64 x704000_1) := cC BK703 0; have hcz128_1 : w124.cell? ⟨gb703, 1, none⟩ = some (.slice Ao122 x704001_1.length co122) := cC BK703 1; have hfz128_0 := fC BK703 0; have hfz128_1 := fC BK703 1) | (go_at_call 15; (with_reducible refine (alloc_Map_Free.calls k1 x704000_1 _ _ x704001_1 t735 _ ?side1 ?side2 A120.1).mono ?_); (case side1 => refine (Kd.V_reads' (e := 53) (base := w.heap.size) (ok := fun k_ => (((some k_ ≠ (v705 : Value).ownBlock ∧ k_ ≠ gb703) ∧ some k_ ≠ (v727 : Value).ownBlock) ∧ k_ ≠ gb734)) (n := x704001_1.length) (c := co122) ?_).2.2; exact (vU (Kd.V_mono (Kd.V_far (p := ⟨gb734, 1, none⟩) (Kd.V_far (p := ⟨gb734, 0, none⟩) (Kd.V_mono HO_704001.1 (fun k_ hk => (⟨hk, hk.2⟩ : _ ∧ k_ ≠ gb734))) (fun _ hk => hk.2) (.int .i64 t729)) (fun _ hk => hk.2) (.slice Ao127 t730.length co127)) (fun _ h_ => h_.1)))); (case side2 => exact (Kd.V_reads' HO_704001.1).2.1); rintro e w129 ⟨rfl, hb⟩; replace HO_8 := Aa (Kd.V_below (vU (Kd.V_mono (Kd.V_far (p := ⟨gb734, 1, none⟩) (Kd.V_far (p := ⟨gb734, 0, none⟩) (Kd.V_mono HO_8.1 (fun k_ hk => (⟨hk, hk.2⟩ : _ ∧ k_ ≠ gb734))) (fun _ hk => hk.2) (.int .i64 t729)) (fun _ hk => hk.2) (.slice Ao127 t730.length co127)) (fun _ h_ => h_.1))) hb); replace HO_10 := Aa (Kd.R_below (rU (Kd.R_mono (Kd.R_far (p := ⟨gb734, 1, none⟩) (Kd.R_far (p := ⟨gb734, 0, none⟩) (Kd.R_types HO_10.1 BK734.1 (by decide)) (fun _ hk => hk.2) (.int .i64 t729)) (fun _ hk => hk.2) (.slice Ao127 t730.length co127)) (fun _ h_ => h_.1))) hb); replace HO_704001 := Aa (Kd.V_below (vU (Kd.V_mono (Kd.V_far (p := ⟨gb734, 1, none⟩) (Kd.V_far (p := ⟨gb734, 0, none⟩) (Kd.V_mono HO_704001.1 (fun k_ hk => (⟨hk, hk.2⟩ : _ ∧ k_ ≠ gb734))) (fun _ hk => hk.2) (.int .i64 t729)) (fun _ hk => hk.2) (.slice Ao127 t730.length co127)) (fun _ h_ => h_.1))) hb); replace HO728 := Aa (Kd.R_below (rU (Kd.R_mono (Kd.R_far (p := ⟨gb734, 1, none⟩) (Kd.R_far (p := ⟨gb734, 0, none⟩) (Kd.R_types HO728.1 BK734.1 (by decide)) (fun _ hk => hk.2) (.int .i64 t729)) (fun _ hk => hk.2) (.slice Ao127 t730.length co127)) (fun _ h_ => h_.1))) hb); replace HO732 := Aa (Kd.V_below (vU (Kd.V_mono (Kd.V_far (p := ⟨gb734, 1, none⟩) (Kd.V_far (p := ⟨gb734, 0, none⟩) (Kd.V_mono HO732.1 (fun k_ hk => (⟨hk, hk.2⟩ : _ ∧ k_ ≠ gb734))) (fun _ hk => hk.2) (.int .i64 t729)) (fun _ hk => hk.2) (.slice Ao127 t730.length co127)) (fun _ h_ => h_.1))) hb); replace BK703 := Aa (blk_below (g := gb703) (o := .cells #[.int .i64 x704000_1, .slice Ao122 x704001_1.length co122] 26 (0, 0)) (by refine kP ?_; refine blk_far ?_ NB703_734.1 _; refine kP ?_; refine blk_far ?_ NB703_734.1 _; refine kP ?_; exact BK703.1) hb); replace BK734 := Aa (blk_below (g := gb734) (o := .cells #[.int .i64 t729, .slice Ao127 t730.length co127] 26 (0, 0)) (by refine kP ?_; refine blk_put (cs := #[.int .i64 t729, .slice none 0 0]) ?_ 1 _ rfl; refine kP ?_; refine blk_put (cs := #[.int .i64 0, .slice none 0 0]) ?_ 0 _ rfl; refine kP ?_; exact BK734.1) hb); replace HB := sB HB hb; (try clear hb); (try clear hk)))
          go_ret
          exact ⟨fT, bS HB.1⟩
         ·
          rw [if_neg c119] at H
          have c119b0 : (t733 == 11) = false := beq_eq_false_iff_ne.mpr c119
          have c119b1 : (t733 != 11) = true := bne_iff_ne.mpr c119
          obtain rfl := Option.some.inj H
          exact Bool.noConfusion h0_.1
     ·
      rw [if_neg c11] at H
      exact absurd H (by simp)
    ·
     rw [if_neg c10] at H
     exact absurd H (by simp)
   ·
    replace c9 := Bool.eq_false_iff.mpr c9
    subst c9
    have H1 : (some false) = some r := by rw [if_neg (show ¬ (false = true) by decide)] at H; exact H
    clear H
    have H := H1
    clear H1
    obtain rfl := Option.some.inj H
    exact Bool.noConfusion h0_.1
  ·
   replace c7 := Bool.eq_false_iff.mpr c7
   subst c7
   have H1 : (some true) = some r := by rw [if_neg (show ¬ (false = true) by decide)] at H; exact H
   clear H
   have H := H1
   clear H1
   obtain rfl := Option.some.inj H
   go_enter Try.func9, Try.ntmps9
   go_wp2_with (first | ((with_reducible refine gC 10 ?_); refine gL 18 Try.func10 #[] ?_; (with_reducible refine (tegulalaw35_awake.calls k  true _ A4.1).mono ?_); rintro e w142 ⟨rfl, hb⟩; refine ⟨_, rfl, ?_⟩; replace HB := sU HB hb; (try clear hb)) | ((with_reducible refine gC 20 ?_); refine gL 21 Try.func20 #[.slice A1 l1.length c1] ?_; (with_reducible refine (tegulalaw35_few.calls k _ _ l1 false _ ?side1 ?side2 A6.1).mono ?_); (case side1 => exact cU (Kd.C_below HR1.1 HB.1)); (case side2 => exact HC1.1); rintro e w' ⟨rfl, ⟨nd, rfl⟩⟩; refine ⟨_, rfl, ?_⟩))
   go_ret
   exact ⟨fT, bU HB.1⟩
 ·
  replace c5 := Bool.eq_false_iff.mpr c5
  subst c5
  have H1 : (some false) = some r := by rw [if_neg (show ¬ (false = true) by decide)] at H; exact H
  clear H
  have H := H1
  clear H1
  obtain rfl := Option.some.inj H
  exact Bool.noConfusion h0_.1
end Go.Proofs.Ytcjpikjbjehjeaa.PAllocB
