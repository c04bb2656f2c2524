-- Written for this claim by a program of this session (wip/), out of the translation's own print: Lean checks it
import Derived.Test.YtcjpikjbjehjeaaPAllocBx0
import Derived.Test.YtcjpikjbjehjeaaPAllocBx7
import Derived.Test.YtcjpikjbjehjeaaPAllocBx9
import Derived.Test.YtcjpikjbjehjeaaPAllocBx17
import Derived.Test.YtcjpikjbjehjeaaPAllocBx18
namespace Go.Proofs.Ytcjpikjbjehjeaa.PAllocB
open Go.RowKit Go.Proofs.YtcjpikjbjehjeaaW.PrintWords Go.Proofs.YtcjpikjbjehjeaaW.PrintLast Go.Proofs.YtcjpikjbjehjeaaW.PrintMore
attribute [local go_sem] max2_int min2_int max_two min_two max_three min_three max_four min_four   -- for this text's walks alone
set_option linter.unusedVariables false
set_option linter.unusedSimpArgs false

/-! ### tegulalaw35_step: function 26 -/
mutual
def tegulalaw35_step.j1 : Nat → List Bool → List Bool → Int → Int → List (S53) → List (S53) → Int → List (S53) → Int → List (S53) → Option (Int × (List (S53)) × List Bool × Bool)
 | 0, _, _, _, _, _, _, _, _, _, _ => none
 | k + 1, x1, x11, x12, x13, x14, x15, x517000, x517001, x526000, x526001 => if x12 = x13 then ((tegularef32_Same.f k x14 x15).bind fun t559 => (tegulalaw35_step.j2 k x1 x11 x12 (!t559) x517000 x517001 x526000 x526001)) else (tegulalaw35_step.j2 k x1 x11 x12 true x517000 x517001 x526000 x526001)
def tegulalaw35_step.j2 : Nat → List Bool → List Bool → Int → Bool → Int → List (S53) → Int → List (S53) → Option (Int × (List (S53)) × List Bool × Bool)
 | 0, _, _, _, _, _, _, _, _ => none
 | k + 1, x1, x11, x12, x84, x517000, x517001, x526000, x526001 => if x84 = true then (some (x517000, x517001, x1, false)) else (if x12 = 0 then (some (x526000, x526001, x11, true)) else (some (x517000, x517001, x1, true)))
def tegulalaw35_step.j0 : Nat → List Bool → List (S53) → List (S53) → List (S53) → Int → Bool → Int → List (S53) → Int → Int → Int → List (S53) → Option (Int × (List (S53)) × List Bool × Bool)
 | 0, _, _, _, _, _, _, _, _, _, _, _, _ => none
 | k + 1, x1, x9, x14, x15, x22, x35, x517000, x517001, x518000, x518001, x518002, x518003 => if x35 = true then ((alloc_Map_Take.f k x517000 x517001 (wrap64 (x518001)) (wrap64 (x518002))).bind fun bt526 => ((tegularef35_Map_Take.f k x1 (wrap64 (x518001)) (wrap64 (x518002))).bind fun bt534 => (tegulalaw35_step.j1 k x1 bt534.2.1 bt526.2.2.2 bt534.2.2 bt526.1 bt534.1 x517000 x517001 bt526.2.1 bt526.2.2.1))) else (if x22 = 2 then ((alloc_Map_Mark.f k x517000 x517001 x9).bind fun bt541 => ((tegularef35_Map_Mark.f k x1 x9).bind fun bt546 => (tegulalaw35_step.j1 k x1 bt546.1 bt541.2.2 bt546.2 x14 x15 x517000 x517001 bt541.1 bt541.2.1))) else ((alloc_Map_Give.f k x517000 x517001 x9).bind fun bt550 => ((tegularef35_Map_Give.f k x1 x9).bind fun bt555 => (tegulalaw35_step.j1 k x1 bt555.1 bt550.2.2 bt555.2 x14 x15 x517000 x517001 bt550.1 bt550.2.1))))
end
def tegulalaw35_step.f (k : Nat) (a0_0 : Int) (l0_1 : List (S53)) (l1 : List Bool) (a2_0 : Int) (a2_1 : Int) (a2_2 : Int) (l2_3 : List (S53)) : Option (Int × (List (S53)) × List Bool × Bool) := (some (([] : List (S53)) : List (S53))).bind fun y519 => (if y519.length + l2_3.length < 5864062014805 then ((some (y519 ++ l2_3 : List (S53))).bind fun y522 => (if (Int.tmod a2_0 4) = 0 then (tegulalaw35_step.j0 k l1 y522 ([] : List (S53)) ([] : List (S53)) (Int.tmod a2_0 4) ((Int.tmod a2_0 4) == 0) a0_0 l0_1 a2_0 a2_1 a2_2 l2_3) else (tegulalaw35_step.j0 k l1 y522 ([] : List (S53)) ([] : List (S53)) (Int.tmod a2_0 4) ((Int.tmod a2_0 4) == 1) a0_0 l0_1 a2_0 a2_1 a2_2 l2_3))) else (none))
theorem tegulalaw35_step.mono_l : ∀ k, (∀ y0 y1 y2 y3 y4 y5 y6 y7 y8 y9, LeO (tegulalaw35_step.j1 k y0 y1 y2 y3 y4 y5 y6 y7 y8 y9) (tegulalaw35_step.j1 (k + 1) y0 y1 y2 y3 y4 y5 y6 y7 y8 y9)) ∧ (∀ y0 y1 y2 y3 y4 y5 y6 y7, LeO (tegulalaw35_step.j2 k y0 y1 y2 y3 y4 y5 y6 y7) (tegulalaw35_step.j2 (k + 1) y0 y1 y2 y3 y4 y5 y6 y7)) ∧ (∀ y0 y1 y2 y3 y4 y5 y6 y7 y8 y9 y10 y11, LeO (tegulalaw35_step.j0 k y0 y1 y2 y3 y4 y5 y6 y7 y8 y9 y10 y11) (tegulalaw35_step.j0 (k + 1) y0 y1 y2 y3 y4 y5 y6 y7 y8 y9 y10 y11))
 | 0 => ⟨fun _ _ _ _ _ _ _ _ _ _ r h => by simp [tegulalaw35_step.j1] at h, fun _ _ _ _ _ _ _ _ r h => by simp [tegulalaw35_step.j2] at h, fun _ _ _ _ _ _ _ _ _ _ _ _ r h => by simp [tegulalaw35_step.j0] at h⟩
 | k + 1 => by
  obtain ⟨ih0, ih1, ih2⟩ := tegulalaw35_step.mono_l k
  refine ⟨?_, ?_, ?_⟩
  all_goals (intros; (first | unfold tegulalaw35_step.j1 | unfold tegulalaw35_step.j2 | unfold tegulalaw35_step.j0))
  all_goals repeat' first
  | (with_reducible exact ih0 _ _ _ _ _ _ _ _ _ _)
  | (with_reducible exact ih1 _ _ _ _ _ _ _ _)
  | (with_reducible exact ih2 _ _ _ _ _ _ _ _ _ _ _ _)
  | (with_reducible exact alloc_Map_Give.mono _ _ _ _)
  | (with_reducible exact alloc_Map_Mark.mono _ _ _ _)
  | (with_reducible exact alloc_Map_Take.mono _ _ _ _ _)
  | (with_reducible exact tegularef32_Same.mono _ _ _)
  | (with_reducible exact tegularef35_Map_Give.mono _ _ _)
  | (with_reducible exact tegularef35_Map_Mark.mono _ _ _)
  | (with_reducible exact tegularef35_Map_Take.mono _ _ _ _)
  | (with_reducible exact LeO.refl _)
  | (with_reducible exact LeO.none _)
  | (with_reducible refine LeO.ite ?_ ?_)
  | (with_reducible refine LeO.bind ?_ (fun _ => ?_))
  | exact ih0 _ _ _ _ _ _ _ _ _ _
  | exact ih1 _ _ _ _ _ _ _ _
  | exact ih2 _ _ _ _ _ _ _ _ _ _ _ _
  | exact alloc_Map_Give.mono _ _ _ _
  | exact alloc_Map_Mark.mono _ _ _ _
  | exact alloc_Map_Take.mono _ _ _ _ _
  | exact tegularef32_Same.mono _ _ _
  | exact tegularef35_Map_Give.mono _ _ _
  | exact tegularef35_Map_Mark.mono _ _ _
  | exact tegularef35_Map_Take.mono _ _ _ _
  | exact LeO.none _
  | refine LeO.ite ?_ ?_
  | refine LeO.bind ?_ (fun _ => ?_)
theorem tegulalaw35_step.mono : ∀ a0 a1 a2 a3 a4 a5 a6 k, LeO (tegulalaw35_step.f k a0 a1 a2 a3 a4 a5 a6) (tegulalaw35_step.f (k + 1) a0 a1 a2 a3 a4 a5 a6) := by
 intro a0 a1 a2 a3 a4 a5 a6 k
 obtain ⟨ih0, ih1, ih2⟩ := tegulalaw35_step.mono_l k
 unfold tegulalaw35_step.f
 repeat' first
   | (with_reducible exact ih0 _ _ _ _ _ _ _ _ _ _)
   | (with_reducible exact ih1 _ _ _ _ _ _ _ _)
   | (with_reducible exact ih2 _ _ _ _ _ _ _ _ _ _ _ _)
   | (with_reducible exact alloc_Map_Give.mono _ _ _ _)
   | (with_reducible exact alloc_Map_Mark.mono _ _ _ _)
   | (with_reducible exact alloc_Map_Take.mono _ _ _ _ _)
   | (with_reducible exact tegularef32_Same.mono _ _ _)
   | (with_reducible exact tegularef35_Map_Give.mono _ _ _)
   | (with_reducible exact tegularef35_Map_Mark.mono _ _ _)
   | (with_reducible exact tegularef35_Map_Take.mono _ _ _ _)
   | (with_reducible exact LeO.refl _)
   | (with_reducible exact LeO.none _)
   | (with_reducible refine LeO.ite ?_ ?_)
   | (with_reducible refine LeO.bind ?_ (fun _ => ?_))
   | exact ih0 _ _ _ _ _ _ _ _ _ _
   | exact ih1 _ _ _ _ _ _ _ _
   | exact ih2 _ _ _ _ _ _ _ _ _ _ _ _
   | exact alloc_Map_Give.mono _ _ _ _
   | exact alloc_Map_Mark.mono _ _ _ _
   | exact alloc_Map_Take.mono _ _ _ _ _
   | exact tegularef32_Same.mono _ _ _
   | exact tegularef35_Map_Give.mono _ _ _
   | exact tegularef35_Map_Mark.mono _ _ _
   | exact tegularef35_Map_Take.mono _ _ _ _
   | exact LeO.none _
   | refine LeO.ite ?_ ?_
   | refine LeO.bind ?_ (fun _ => ?_)
set_option maxHeartbeats 8000000 in
set_option maxRecDepth 100000 in
theorem tegulalaw35_step.calls (k : Nat) (a0_0 : Int) (P0_1_ : Nat → Prop) (A0_1 : Option Addr) (c0_1 : Nat) (l0_1 : List (S53)) (P1_ : Nat → Prop) (A1 : Option Addr) (c1 : Nat) (l1 : List Bool) (a2_0 : Int) (a2_1 : Int) (a2_2 : Int) (A2_3 : Option Addr) (c2_3 : Nat) (l2_3 : List (S53)) (r1 : Int) (r2 : List (S53)) (r3 : List Bool) (r4 : Bool) (w : World) (hs0_1 : Kd.V k53 53 w w.heap.size (fun k_ => P0_1_ k_) (.slice A0_1 l0_1.length c0_1) l0_1) (hs1 : Kd.V Kd.bool 4 w w.heap.size (fun k_ => P1_ k_) (.slice A1 l1.length c1) l1) (hr2_3 : Kd.C k53 w A2_3 l2_3.length l2_3) (hc2_3 : l2_3.length ≤ c2_3) (h : tegulalaw35_step.f k a0_0 l0_1 l1 a2_0 a2_1 a2_2 l2_3 = some (r1, r2, r3, r4)) :
  Calls Try.prog 26 #[.agg #[.int .i64 a0_0, .slice A0_1 l0_1.length c0_1], .slice A1 l1.length c1, .agg #[.int .u8 a2_0, .int .u8 a2_1, .int .u8 a2_2, .slice A2_3 l2_3.length c2_3]] w fun e w' => ∃ v1_ v2_ : Value, e = .returned (.tuple #[.agg #[.int .i64 r1, v1_], v2_, .bool r4]) ∧ Kd.V k53 53 w' w.heap.size (fun k_ => ((P0_1_ k_ ∨ P1_ k_) ∨ w.heap.size ≤ k_)) v1_ r2 ∧ Kd.V Kd.bool 4 w' w.heap.size (fun k_ => ((P0_1_ k_ ∨ P1_ k_) ∨ w.heap.size ≤ k_)) v2_ r3 ∧ Below w.heap.size w w' := by
 have hu26 := Try.underlying26
 have hu57 := Try.underlying57
 have HO0_1 := Aa (show Kd.V k53 53 w w.heap.size (fun k_ => ((P0_1_ k_ ∨ P1_ k_) ∨ w.heap.size ≤ k_)) (.slice A0_1 l0_1.length c0_1) l0_1 from Kd.V_mono hs0_1 (fun k_ hk => .inl (.inl hk)))
 have HO1 := Aa (show Kd.V Kd.bool 4 w w.heap.size (fun k_ => ((P0_1_ k_ ∨ P1_ k_) ∨ w.heap.size ≤ k_)) (.slice A1 l1.length c1) l1 from Kd.V_mono hs1 (fun k_ hk => .inl (.inr hk)))
 have HR2_3 := Aside0.mk hr2_3
 have HC2_3 := Aside0.mk hc2_3
 clear hr2_3 hc2_3
 have HB := Aa (Below.refl w.heap.size w)
 have H : ((some (([] : List (S53)) : List (S53))).bind fun y519 => (if y519.length + l2_3.length < 5864062014805 then ((some (y519 ++ l2_3 : List (S53))).bind fun y522 => (if (Int.tmod a2_0 4) = 0 then (tegulalaw35_step.j0 k l1 y522 ([] : List (S53)) ([] : List (S53)) (Int.tmod a2_0 4) ((Int.tmod a2_0 4) == 0) a0_0 l0_1 a2_0 a2_1 a2_2 l2_3) else (tegulalaw35_step.j0 k l1 y522 ([] : List (S53)) ([] : List (S53)) (Int.tmod a2_0 4) ((Int.tmod a2_0 4) == 1) a0_0 l0_1 a2_0 a2_1 a2_2 l2_3))) else (none))) = some (r1, r2, r3, r4) := h
 clear h
 obtain ⟨y519, hy519⟩ : ∃ y_ : List (S53), y_ = (([] : List (S53))) := ⟨_, rfl⟩
 replace H : (if y519.length + l2_3.length < 5864062014805 then ((some (y519 ++ l2_3 : List (S53))).bind fun y522 => (if (Int.tmod a2_0 4) = 0 then (tegulalaw35_step.j0 k l1 y522 ([] : List (S53)) ([] : List (S53)) (Int.tmod a2_0 4) ((Int.tmod a2_0 4) == 0) a0_0 l0_1 a2_0 a2_1 a2_2 l2_3) else (tegulalaw35_step.j0 k l1 y522 ([] : List (S53)) ([] : List (S53)) (Int.tmod a2_0 4) ((Int.tmod a2_0 4) == 1) a0_0 l0_1 a2_0 a2_1 a2_2 l2_3))) else (none)) = some (r1, r2, r3, r4) := by first | (rw [hy519]; exact H) | exact H
 have Ny519 := Aside0.mk hy519
 clear hy519
 by_cases c4 : y519.length + l2_3.length < 5864062014805
 ·
  rw [if_pos c4] at H
  have LMc4 := Aside0.mk c4
  clear c4
  obtain ⟨y522, hy522⟩ : ∃ y_ : List (S53), y_ = (y519 ++ l2_3) := ⟨_, rfl⟩
  replace H : (if (Int.tmod a2_0 4) = 0 then (tegulalaw35_step.j0 k l1 y522 ([] : List (S53)) ([] : List (S53)) (Int.tmod a2_0 4) ((Int.tmod a2_0 4) == 0) a0_0 l0_1 a2_0 a2_1 a2_2 l2_3) else (tegulalaw35_step.j0 k l1 y522 ([] : List (S53)) ([] : List (S53)) (Int.tmod a2_0 4) ((Int.tmod a2_0 4) == 1) a0_0 l0_1 a2_0 a2_1 a2_2 l2_3)) = some (r1, r2, r3, r4) := by first | (rw [hy522]; exact H) | exact H
  have Ny522 := Aside0.mk hy522
  clear hy522
  have HC5 := Aside0.mk H
  clear H
  go_enter Try.func26, Try.ntmps26
  go_upto_block 0 with (first | ((with_reducible refine gD 3 ?_); refine bE #[.int .i64 a0_0, .slice A0_1 l0_1.length c0_1] 26 ?_; intro gb516 hg w6 hbox hb; replace HO0_1 := vG HO0_1 hg hb; replace HO1 := vG HO1 hg hb; have BK516 := Aa (hbox); have GW516 := gU HB hg; have GE516 := gU HB hg; have iE516 := Nonempty.intro GE516.1; replace HB := sU HB hb; clear hb hbox hg) | ((with_reducible refine gD 5 ?_); refine bE #[.int .u8 a2_0, .int .u8 a2_1, .int .u8 a2_2, .slice A2_3 l2_3.length c2_3] 57 ?_; intro gb517 hg w7 hbox hb; replace HO0_1 := vG HO0_1 hg hb; replace HO1 := vG HO1 hg hb; have BK517 := Aa (hbox); have GW517 := gS HB hg; have GE517 := gS HB hg; have iE517 := Nonempty.intro GE517.1; replace HB := sB HB hb; have NB516_517 := nL BK516 hg; have NB517_516 := nG BK516 hg; replace BK516 := kB BK516 hb; clear hb hbox hg) | ((with_reducible refine gD 6 ?_); refine bE #[.int .i64 0, .slice none 0 0] 26 ?_; intro gb518 hg w8 hbox hb; replace HO0_1 := vG HO0_1 hg hb; replace HO1 := vG HO1 hg hb; have BK518 := Aa (hbox); have GW518 := gS HB hg; have GE518 := gS HB hg; have iE518 := Nonempty.intro GE518.1; replace HB := sB HB hb; have NB516_518 := nL BK516 hg; have NB518_516 := nG BK516 hg; replace BK516 := kB BK516 hb; have NB517_518 := nL BK517 hg; have NB518_517 := nG BK517 hg; replace BK517 := kB BK517 hb; clear hb hbox hg) | ((with_reducible refine gD 16 ?_); refine Kd.R_lit k53 _ 53 ?hg (N := 16) ?hd (xs := ([] : List (S53))) (inner := []) (ok := fun _ => True) (okp := fun _ => True) ?hr ?hp (fun _ hk => hk) trivial (Below.refl _ _) (Nat.le_refl _) (by simp) ?_; (case hd => rfl); (case hg => rfl); (case hr => first | (go_simp; done) | (go_simp; rfl)); (case hp => exact (Reps.none _ _)); intro v520 w9 ho10 hb hg_ hnew_; clear hg_ hnew_; (first | rw [← Ny519.1] at ho10 | (simp only [Int.reduceToNat] at ho10; rw [← Ny519.1] at ho10)); replace HO0_1 := vE HO0_1 ho10 hb; replace HO1 := vE HO1 ho10 hb; have HO521 := Aa (Kd.R_lower (Kd.R_newM (M := fun k_ => (w.heap.size ≤ k_)) ho10 (below_size (bS HB.1)) (fun k_ h_ => h_)) (below_size (bS HB.1))); replace BK516 := kB BK516 hb; replace BK517 := kB BK517 hb; replace BK518 := kB BK518 hb; replace HB := sB HB hb; clear hb ho10; have hnb11 := NB517_516.1; have hnc11 := NB516_517.1; have hnb12 := NB517_518.1; have hnc12 := NB518_517.1; have hcz13_0 : w9.cell? ⟨gb517, 0, none⟩ = some (.int .u8 a2_0) := cC BK517 0; have hcz13_1 : w9.cell? ⟨gb517, 1, none⟩ = some (.int .u8 a2_1) := cC BK517 1; have hcz13_2 : w9.cell? ⟨gb517, 2, none⟩ = some (.int .u8 a2_2) := cC BK517 2; have hcz13_3 : w9.cell? ⟨gb517, 3, none⟩ = some (.slice A2_3 l2_3.length c2_3) := cC BK517 3; have hfz13_0 := fC BK517 0; have hfz13_1 := fC BK517 1; have hfz13_2 := fC BK517 2; have hfz13_3 := fC BK517 3) | ((with_reducible refine gate_builtin (b := .append) (xs := #[.tmp 16, .tmp 18]) rfl ?_); at_builtin; refine Kd.R_append_rows k53 (w0 := w) w.heap.size rfl (.tmp 16) (.tmp 18) 24 53 (.agg #[(.int .i64 0), (.int .i64 0), (.int .i64 0)]) 24 rfl Try.underlying24 info53 rfl (by decide) (by omega) v520 y519 l2_3 _ _ _ (fun k_ => (w.heap.size ≤ k_)) (fun _ => False) rfl rfl ?aO ?aR (fun _ _ h => h) (fun _ h => h.elim) ?aF ?aB ?aS ?aL ?_; (case aR => repeat (first | exact (Kd.C_below HR2_3.1 HB.1) | (with_reducible refine Kd.C_alloc ?_ _) | (with_reducible refine Kd.C_drewN ?_ _) | (with_reducible refine Kd.C_drew ?_))); (case aB => exact (bS HB.1)); (case aF => exact (fun k_ hk => (Nat.le_trans (below_size (bS HB.1)) hk))); (case aO => exact (rU (Kd.R_mono HO521.1 (fun _ hk => hk.1)))); (case aS => exact (below_size (bS HB.1))); (case aL => have := LMc4.1; omega); intro v523 w14 ho hb hg hat; rw [← Ny522.1] at ho; have n0_ := Aa (Kd.V_afterv (ok := (fun k_ => ((P0_1_ k_ ∨ P1_ k_) ∨ w.heap.size ≤ k_) ∧ k_ ≠ gb516 ∧ k_ ≠ gb517 ∧ k_ ≠ gb518)) (vU (Kd.V_mono HO0_1.1 (fun _ hk => ⟨⟨hk.1.1.1.1, ⟨hk.1.1.1.2, ⟨hk.1.1.2, hk.1.2⟩⟩⟩, hk.2⟩))) hg hat); have n1_ := Aa (Kd.V_afterv (ok := (fun k_ => ((P0_1_ k_ ∨ P1_ k_) ∨ w.heap.size ≤ k_) ∧ k_ ≠ gb516 ∧ k_ ≠ gb517 ∧ k_ ≠ gb518)) (vU (Kd.V_mono HO1.1 (fun _ hk => ⟨⟨hk.1.1.1.1, ⟨hk.1.1.1.2, ⟨hk.1.1.2, hk.1.2⟩⟩⟩, hk.2⟩))) hg hat); have n2_ := Aa (blk_grown (g := gb516) (o := .cells #[.int .i64 a0_0, .slice A0_1 l0_1.length c0_1] 26 (0, 0)) (kU BK516.1) hg (Kd.R_ne HO521.1 BK516.1 (by decide))); have n3_ := Aa (blk_grown (g := gb517) (o := .cells #[.int .u8 a2_0, .int .u8 a2_1, .int .u8 a2_2, .slice A2_3 l2_3.length c2_3] 57 (0, 0)) (kU BK517.1) hg (Kd.R_ne HO521.1 BK517.1 (by decide))); have n4_ := Aa (blk_grown (g := gb518) (o := .cells #[.int .i64 0, .slice none 0 0] 26 (0, 0)) (kU BK518.1) hg (Kd.R_ne HO521.1 BK518.1 (by decide))); have n5_ := Aa (hb); have n6_ := Aa (ho); clear HO0_1; clear HO1; clear BK516; clear BK517; clear BK518; clear HB; clear HO521; have HO0_1 := n0_; have HO1 := n1_; have BK516 := n2_; have BK517 := n3_; have BK518 := n4_; have HB := n5_; have HO524 := n6_; clear n0_ n1_ n2_ n3_ n4_ n5_ n6_; clear ho hb hg hat) | ((with_reducible refine gD 10 ?_); refine bE #[.int .i64 0, .slice none 0 0] 26 ?_; intro gb525 hg w15 hbox hb; replace HO0_1 := vG HO0_1 hg hb; replace HO1 := vG HO1 hg hb; replace HO524 := rB HO524 hb; have BK525 := Aa (hbox); have GW525 := gS HB hg; have GE525 := gS HB hg; have iE525 := Nonempty.intro GE525.1; replace HB := sB HB hb; have NB516_525 := nL BK516 hg; have NB525_516 := nG BK516 hg; replace BK516 := kB BK516 hb; have NB517_525 := nL BK517 hg; have NB525_517 := nG BK517 hg; replace BK517 := kB BK517 hb; have NB518_525 := nL BK518 hg; have NB525_518 := nG BK518 hg; replace BK518 := kB BK518 hb; clear hb hbox hg; have hnb16 := NB517_525.1; have hnc16 := NB525_517.1; have hcz17_0 : w15.cell? ⟨gb517, 0, none⟩ = some (.int .u8 a2_0) := cC BK517 0; have hcz17_1 : w15.cell? ⟨gb517, 1, none⟩ = some (.int .u8 a2_1) := cC BK517 1; have hcz17_2 : w15.cell? ⟨gb517, 2, none⟩ = some (.int .u8 a2_2) := cC BK517 2; have hcz17_3 : w15.cell? ⟨gb517, 3, none⟩ = some (.slice A2_3 l2_3.length c2_3) := cC BK517 3; have hfz17_0 := fC BK517 0; have hfz17_1 := fC BK517 1; have hfz17_2 := fC BK517 2; have hfz17_3 := fC BK517 3))
  (try simp only [Act.put, List.setIfInBounds_toArray, List.set_cons_zero, List.set_cons_succ])
  go_cut [11, 12, 13, 14, 15] (fun v11 v12 v13 v14 v15 wc => ∃ (kq : Nat) (x11_4 : List Bool) (x12_4 : Int) (x13_4 : Int) (x14_4 : List (S53)) (x15_4 : List (S53)) (x526000_4 : Int) (x526001_4 : List (S53)) (u526001 : Value), v12 = .int .i64 x12_4 ∧ v13 = .int .i64 x13_4 ∧ Aside0 (tegulalaw35_step.j1 kq l1 x11_4 x12_4 x13_4 x14_4 x15_4 a0_0 l0_1 x526000_4 x526001_4 = some (r1, r2, r3, r4)) ∧ Aside0 (kq ≤ k) ∧ Aside0 (Kd.V Kd.bool 4 wc w.heap.size (fun k_ => ((P0_1_ k_ ∨ P1_ k_) ∨ w.heap.size ≤ k_) ∧ some k_ ≠ (v11 : Value).ownBlock ∧ some k_ ≠ (v14 : Value).ownBlock ∧ some k_ ≠ (v15 : Value).ownBlock ∧ k_ ≠ gb516 ∧ k_ ≠ gb517 ∧ k_ ≠ gb518 ∧ k_ ≠ gb525) (.slice A1 l1.length c1) l1) ∧ Aside0 (Kd.R Kd.bool 4 wc w.heap.size (fun k_ => (w.heap.size ≤ k_)) v11 x11_4) ∧ Aside0 (Kd.R k53 53 wc w.heap.size (fun k_ => (w.heap.size ≤ k_) ∧ some k_ ≠ (v15 : Value).ownBlock) v14 x14_4) ∧ Aside0 (Kd.R k53 53 wc w.heap.size (fun k_ => (w.heap.size ≤ k_) ∧ some k_ ≠ (v14 : Value).ownBlock) v15 x15_4) ∧ Aside0 (Kd.V k53 53 wc w.heap.size (fun k_ => ((P0_1_ k_ ∨ P1_ k_) ∨ w.heap.size ≤ k_) ∧ some k_ ≠ (v11 : Value).ownBlock ∧ some k_ ≠ (v14 : Value).ownBlock ∧ some k_ ≠ (v15 : Value).ownBlock ∧ k_ ≠ gb516 ∧ k_ ≠ gb517 ∧ k_ ≠ gb518 ∧ k_ ≠ gb525) (.slice A0_1 l0_1.length c0_1) l0_1) ∧ Aside0 (Kd.V k53 53 wc w.heap.size (fun k_ => ((P0_1_ k_ ∨ P1_ k_) ∨ w.heap.size ≤ k_) ∧ some k_ ≠ (v11 : Value).ownBlock ∧ some k_ ≠ (v14 : Value).ownBlock ∧ some k_ ≠ (v15 : Value).ownBlock ∧ k_ ≠ gb516 ∧ k_ ≠ gb517 ∧ k_ ≠ gb518 ∧ k_ ≠ gb525) u526001 x526001_4) ∧ Aside0 (wc.heap[gb516]? = some (.cells #[.int .i64 a0_0, (.slice A0_1 l0_1.length c0_1)] 26 (0, 0))) ∧ Aside0 (wc.heap[gb517]? = some (.cells #[.int .u8 a2_0, .int .u8 a2_1, .int .u8 a2_2, (.slice A2_3 l2_3.length c2_3)] 57 (0, 0))) ∧ Aside0 (wc.heap[gb518]? = some (.cells #[.int .i64 0, (.slice none 0 0)] 26 (0, 0))) ∧ Aside0 (wc.heap[gb525]? = some (.cells #[.int .i64 x526000_4, u526001] 26 (0, 0))) ∧ Aside0 (Below w.heap.size w wc))
  case first =>
   have H := HC5.1
   clear HC5
   have HC18 := Aside0.mk H
   clear H
   go_upto_if 35 with (fail)
   go_cut [35] (fun v35 wc => ∃ (kq : Nat) (x35_17 : Bool), v35 = .bool x35_17 ∧ Aside0 (tegulalaw35_step.j0 kq l1 y522 ([] : List (S53)) ([] : List (S53)) (Int.tmod a2_0 4) x35_17 a0_0 l0_1 a2_0 a2_1 a2_2 l2_3 = some (r1, r2, r3, r4)) ∧ Aside0 (kq ≤ k) ∧ Aside0 (Kd.V Kd.bool 4 wc w.heap.size (fun k_ => ((P0_1_ k_ ∨ P1_ k_) ∨ w.heap.size ≤ k_) ∧ some k_ ≠ (v523 : Value).ownBlock ∧ some k_ ≠ ((.slice none 0 0) : Value).ownBlock ∧ some k_ ≠ ((.slice none 0 0) : Value).ownBlock ∧ k_ ≠ gb516 ∧ k_ ≠ gb517 ∧ k_ ≠ gb518 ∧ k_ ≠ gb525) (.slice A1 l1.length c1) l1) ∧ Aside0 (Kd.R k53 53 wc w.heap.size (fun k_ => (w.heap.size ≤ k_) ∧ some k_ ≠ ((.slice none 0 0) : Value).ownBlock ∧ some k_ ≠ ((.slice none 0 0) : Value).ownBlock) v523 y522) ∧ Aside0 (Kd.R k53 53 wc w.heap.size (fun k_ => (w.heap.size ≤ k_) ∧ some k_ ≠ (v523 : Value).ownBlock ∧ some k_ ≠ ((.slice none 0 0) : Value).ownBlock) (.slice none 0 0) ([] : List (S53))) ∧ Aside0 (Kd.R k53 53 wc w.heap.size (fun k_ => (w.heap.size ≤ k_) ∧ some k_ ≠ (v523 : Value).ownBlock ∧ some k_ ≠ ((.slice none 0 0) : Value).ownBlock) (.slice none 0 0) ([] : List (S53))) ∧ Aside0 (Kd.V k53 53 wc w.heap.size (fun k_ => ((P0_1_ k_ ∨ P1_ k_) ∨ w.heap.size ≤ k_) ∧ some k_ ≠ (v523 : Value).ownBlock ∧ some k_ ≠ ((.slice none 0 0) : Value).ownBlock ∧ some k_ ≠ ((.slice none 0 0) : Value).ownBlock ∧ k_ ≠ gb516 ∧ k_ ≠ gb517 ∧ k_ ≠ gb518 ∧ k_ ≠ gb525) (.slice A0_1 l0_1.length c0_1) l0_1) ∧ Aside0 (wc.heap[gb516]? = some (.cells #[.int .i64 a0_0, (.slice A0_1 l0_1.length c0_1)] 26 (0, 0))) ∧ Aside0 (wc.heap[gb517]? = some (.cells #[.int .u8 a2_0, .int .u8 a2_1, .int .u8 a2_2, (.slice A2_3 l2_3.length c2_3)] 57 (0, 0))) ∧ Aside0 (wc.heap[gb518]? = some (.cells #[.int .i64 0, (.slice none 0 0)] 26 (0, 0))) ∧ Aside0 (wc.heap[gb525]? = some (.cells #[.int .i64 0, (.slice none 0 0)] 26 (0, 0))) ∧ Aside0 (Below w.heap.size w wc))
   case first =>
    have H := HC18.1
    clear HC18
    by_cases c19 : (Int.tmod a2_0 4) = 0
    ·
     rw [if_pos c19] at H
     have c19b0 : ((Int.tmod a2_0 4) == 0) = true := beq_iff_eq.mpr c19
     have c19b1 : ((Int.tmod a2_0 4) != 0) = false := bne_eq_false_iff_eq.mpr c19
     clear c19
     (first | rw [c19b0] | (simp only [i64_w, i32_w]; rw [c19b0]) | skip)
     have H' := Aside0.mk H
     clear H
     go_wp2
     go_meet
     case rel => exact ⟨_, (((Int.tmod a2_0 4) == 0)), (by first | rfl | (simp; done) | (simp [*]; done)), H', ⟨by first | omega | exact Nat.le_refl _⟩, ⟨vU (Kd.V_mono HO1.1 (fun _ hk => ⟨hk.1.1.1, ⟨hk.1.2, ⟨(by simp [Value.ownBlock]), ⟨(by simp [Value.ownBlock]), ⟨hk.1.1.2.1, ⟨hk.1.1.2.2.1, ⟨hk.1.1.2.2.2, hk.2⟩⟩⟩⟩⟩⟩⟩))⟩, ⟨rU (Kd.R_mono HO524.1 (fun _ hk => ⟨hk, ⟨(by simp [Value.ownBlock]), (by simp [Value.ownBlock])⟩⟩))⟩, ⟨by first | exact Kd.R_nil _ _ _ _ _ | exact Kd.N_nil _ _ _ _ _ | exact Kd.V_nil _ _ _ _ _ | exact Kd.Q_nil _ _ _ _ _ | exact Kd.S_nil _ _ _ _ _⟩, ⟨by first | exact Kd.R_nil _ _ _ _ _ | exact Kd.N_nil _ _ _ _ _ | exact Kd.V_nil _ _ _ _ _ | exact Kd.Q_nil _ _ _ _ _ | exact Kd.S_nil _ _ _ _ _⟩, ⟨vU (Kd.V_mono HO0_1.1 (fun _ hk => ⟨hk.1.1.1, ⟨hk.1.2, ⟨(by simp [Value.ownBlock]), ⟨(by simp [Value.ownBlock]), ⟨hk.1.1.2.1, ⟨hk.1.1.2.2.1, ⟨hk.1.1.2.2.2, hk.2⟩⟩⟩⟩⟩⟩⟩))⟩, ⟨by refine kP ?_; exact BK516.1⟩, ⟨by refine kP ?_; exact BK517.1⟩, ⟨by refine kP ?_; exact BK518.1⟩, ⟨by refine kP ?_; exact BK525.1⟩, ⟨bS HB.1⟩⟩
    ·
     rw [if_neg c19] at H
     have c19b0 : ((Int.tmod a2_0 4) == 0) = false := beq_eq_false_iff_ne.mpr c19
     have c19b1 : ((Int.tmod a2_0 4) != 0) = true := bne_iff_ne.mpr c19
     (first | rw [c19b0] | (simp only [i64_w, i32_w]; rw [c19b0]) | skip)
     have H' := Aside0.mk H
     clear H
     go_wp2
     go_meet
     case rel => exact ⟨_, (((Int.tmod a2_0 4) == 1)), (by first | rfl | (simp; done) | (simp [*]; done)), H', ⟨by first | omega | exact Nat.le_refl _⟩, ⟨vU (Kd.V_mono HO1.1 (fun _ hk => ⟨hk.1.1.1, ⟨hk.1.2, ⟨(by simp [Value.ownBlock]), ⟨(by simp [Value.ownBlock]), ⟨hk.1.1.2.1, ⟨hk.1.1.2.2.1, ⟨hk.1.1.2.2.2, hk.2⟩⟩⟩⟩⟩⟩⟩))⟩, ⟨rU (Kd.R_mono HO524.1 (fun _ hk => ⟨hk, ⟨(by simp [Value.ownBlock]), (by simp [Value.ownBlock])⟩⟩))⟩, ⟨by first | exact Kd.R_nil _ _ _ _ _ | exact Kd.N_nil _ _ _ _ _ | exact Kd.V_nil _ _ _ _ _ | exact Kd.Q_nil _ _ _ _ _ | exact Kd.S_nil _ _ _ _ _⟩, ⟨by first | exact Kd.R_nil _ _ _ _ _ | exact Kd.N_nil _ _ _ _ _ | exact Kd.V_nil _ _ _ _ _ | exact Kd.Q_nil _ _ _ _ _ | exact Kd.S_nil _ _ _ _ _⟩, ⟨vU (Kd.V_mono HO0_1.1 (fun _ hk => ⟨hk.1.1.1, ⟨hk.1.2, ⟨(by simp [Value.ownBlock]), ⟨(by simp [Value.ownBlock]), ⟨hk.1.1.2.1, ⟨hk.1.1.2.2.1, ⟨hk.1.1.2.2.2, hk.2⟩⟩⟩⟩⟩⟩⟩))⟩, ⟨by refine kP ?_; exact BK516.1⟩, ⟨by refine kP ?_; exact BK517.1⟩, ⟨by refine kP ?_; exact BK518.1⟩, ⟨by refine kP ?_; exact BK525.1⟩, ⟨bS HB.1⟩⟩
   case rest =>
    clear HC18
    try clear c1
    try clear c2
    try clear p2
    try clear c4
    try clear c11
    try clear c12
    try clear c16
    try clear c19
    try clear c19b0
    try clear c19b1
    try clear hcz13_0
    try clear hcz13_1
    try clear hcz13_2
    try clear hcz13_3
    try clear hcz17_0
    try clear hcz17_1
    try clear hcz17_2
    try clear hcz17_3
    try clear hfz13_0
    try clear hfz13_1
    try clear hfz13_2
    try clear hfz13_3
    try clear hfz17_0
    try clear hfz17_1
    try clear hfz17_2
    try clear hfz17_3
    obtain ⟨kq, x35_17, rfl, HA, HJ17, HO_1, HO_9, HO_14, HO_15, HO_517001, BK516, BK517, BK518, BK525, HB⟩ := hcut
    cases kq with
    | zero => exact absurd HA.1 (by simp [tegulalaw35_step.j0])
    | succ kj17 =>
     have H := HA.1
     clear HA
     simp only [tegulalaw35_step.j0] at H
     by_cases c20 : x35_17 = true
     ·
      subst c20
      have H1 : ((alloc_Map_Take.f kj17 a0_0 l0_1 (wrap64 (a2_1)) (wrap64 (a2_2))).bind fun bt526 => ((tegularef35_Map_Take.f kj17 l1 (wrap64 (a2_1)) (wrap64 (a2_2))).bind fun bt534 => (tegulalaw35_step.j1 kj17 l1 bt534.2.1 bt526.2.2.2 bt534.2.2 bt526.1 bt534.1 a0_0 l0_1 bt526.2.1 bt526.2.2.1))) = some (r1, r2, r3, r4) := by rw [if_pos rfl] at H; exact H
      clear H
      have H := H1
      clear H1
      replace H := Option.bind_eq_some_iff.mp H
      obtain ⟨⟨t526, t529, t530, t533⟩, A210, H⟩ := H
      replace H : ((tegularef35_Map_Take.f kj17 l1 (wrap64 (a2_1)) (wrap64 (a2_2))).bind fun bt534 => (tegulalaw35_step.j1 kj17 l1 bt534.2.1 t533 bt534.2.2 t526 bt534.1 a0_0 l0_1 t529 t530)) = some (r1, r2, r3, r4) := H
      have A21 := Aside0.mk A210
      clear A210
      replace H := Option.bind_eq_some_iff.mp H
      obtain ⟨⟨t534, t535, t536⟩, A220, H⟩ := H
      replace H : (tegulalaw35_step.j1 kj17 l1 t535 t533 t536 t526 t534 a0_0 l0_1 t529 t530) = some (r1, r2, r3, r4) := H
      have A22 := Aside0.mk A220
      clear A220
      have H' := Aside0.mk H
      clear H
      have hnb23 := NB516_517.1
      have hnc23 := NB517_516.1
      have hnb24 := NB516_518.1
      have hnc24 := NB518_516.1
      have hnb25 := NB516_525.1
      have hnc25 := NB525_516.1
      have hcz26_0 : wc.cell? ⟨gb516, 0, none⟩ = some (.int .i64 a0_0) := cC BK516 0
      have hcz26_1 : wc.cell? ⟨gb516, 1, none⟩ = some (.slice A0_1 l0_1.length c0_1) := cC BK516 1
      have hfz26_0 := fC BK516 0
      have hfz26_1 := fC BK516 1
      have hnb27 := NB517_518.1
      have hnc27 := NB518_517.1
      have hnb28 := NB517_525.1
      have hnc28 := NB525_517.1
      have hcz29_0 : wc.cell? ⟨gb517, 0, none⟩ = some (.int .u8 a2_0) := cC BK517 0
      have hcz29_1 : wc.cell? ⟨gb517, 1, none⟩ = some (.int .u8 a2_1) := cC BK517 1
      have hcz29_2 : wc.cell? ⟨gb517, 2, none⟩ = some (.int .u8 a2_2) := cC BK517 2
      have hcz29_3 : wc.cell? ⟨gb517, 3, none⟩ = some (.slice A2_3 l2_3.length c2_3) := cC BK517 3
      have hfz29_0 := fC BK517 0
      have hfz29_1 := fC BK517 1
      have hfz29_2 := fC BK517 2
      have hfz29_3 := fC BK517 3
      go_wp2_with (first | ((with_reducible refine gC 12 ?_); refine gL 46 Try.func12 #[.agg #[.int .i64 a0_0, .slice A0_1 l0_1.length c0_1], .int .i64 (wrap64 (a2_1)), .int .i64 (wrap64 (a2_2))] ?_; (with_reducible refine (alloc_Map_Take.calls kj17 a0_0 (fun k_ => (((P0_1_ k_ ∨ P1_ k_) ∨ w.heap.size ≤ k_) ∧ (some k_ ≠ (v523 : Value).ownBlock ∧ (nb k_ none 0 0 ∧ (nb k_ none 0 0 ∧ (k_ ≠ gb516 ∧ (k_ ≠ gb517 ∧ (k_ ≠ gb518 ∧ k_ ≠ gb525)))))))) _ _ l0_1 (wrap64 (a2_1)) (wrap64 (a2_2)) t526 t529 t530 t533 _ ?side1 A21.1).mono ?_); (case side1 => exact HO_517001.1); rintro e w30 ⟨v527, v531, rfl, ho0, ho1, hb⟩; refine ⟨_, rfl, ?_⟩; replace HO_1 := vE HO_1 ho0 hb; replace HO_517001 := vE HO_517001 ho0 hb; have HO528 := Aa (Kd.R_lower (Kd.R_new' (Kd.R_new' (Kd.R_new' (Kd.R_newM (M := fun k_ => (w.heap.size ≤ k_)) (Kd.R_mono (ok' := fun k_ => True) ho0 (fun _ hk_ => trivial)) (below_size (bS HB.1)) (fun k_ h_ => h_)) (Kd.R_lt (rU HO_9.1))) (Kd.R_lt (rU HO_14.1))) (Kd.R_lt (rU HO_15.1))) (below_size (bS HB.1))); have HO532 := Aa (Kd.V_lower (Kd.V_mono (ok' := fun k_ => ((P0_1_ k_ ∨ P1_ k_) ∨ w.heap.size ≤ k_) ∧ some k_ ≠ (v527 : Value).ownBlock ∧ some k_ ≠ (v523 : Value).ownBlock ∧ nb k_ none 0 0 ∧ nb k_ none 0 0 ∧ k_ ≠ gb516 ∧ k_ ≠ gb517 ∧ k_ ≠ gb518 ∧ k_ ≠ gb525) ho1 (fun k_ hk_ => ⟨Or.elim hk_.1 (fun hs_ => hs_.1) (fun hn_ => (.inr (Nat.le_trans (below_size (bS HB.1)) hn_))), hk_.2, Or.elim hk_.1 (fun hs_ => hs_.2.1) (fun hn_ => (Kd.fresh' (Kd.R_lt (rU HO_9.1)) k_ hn_)), Or.elim hk_.1 (fun hs_ => hs_.2.2.1) (fun hn_ => (Kd.fresh' (Kd.R_lt (rU HO_14.1)) k_ hn_)), Or.elim hk_.1 (fun hs_ => hs_.2.2.2.1) (fun hn_ => (Kd.fresh' (Kd.R_lt (rU HO_15.1)) k_ hn_)), Or.elim hk_.1 (fun hs_ => hs_.2.2.2.2.1) (fun hn_ => (Kd.freshB (g := gb516) (o := .cells #[.int .i64 a0_0, .slice A0_1 l0_1.length c0_1] 26 (0, 0)) (kU BK516.1) k_ hn_)), Or.elim hk_.1 (fun hs_ => hs_.2.2.2.2.2.1) (fun hn_ => (Kd.freshB (g := gb517) (o := .cells #[.int .u8 a2_0, .int .u8 a2_1, .int .u8 a2_2, .slice A2_3 l2_3.length c2_3] 57 (0, 0)) (kU BK517.1) k_ hn_)), Or.elim hk_.1 (fun hs_ => hs_.2.2.2.2.2.2.1) (fun hn_ => (Kd.freshB (g := gb518) (o := .cells #[.int .i64 0, .slice none 0 0] 26 (0, 0)) (kU BK518.1) k_ hn_)), Or.elim hk_.1 (fun hs_ => hs_.2.2.2.2.2.2.2) (fun hn_ => (Kd.freshB (g := gb525) (o := .cells #[.int .i64 0, .slice none 0 0] 26 (0, 0)) (kU BK525.1) k_ hn_))⟩)) (below_size (bS HB.1))); replace HO_9 := rE HO_9 ho0 hb; replace HO_14 := rE HO_14 ho0 hb; replace HO_15 := rE HO_15 ho0 hb; replace BK516 := kB BK516 hb; replace BK517 := kB BK517 hb; replace BK518 := kB BK518 hb; replace BK525 := kB BK525 hb; replace HB := sB HB hb; (try clear hb); (try clear hk); (try clear ho0); (try clear ho1); have hnb31 := NB525_518.1; have hnc31 := NB518_525.1; have hcz32_0 : w30.cell? ⟨gb525, 0, none⟩ = some (.int .i64 0) := cC BK525 0; have hcz32_1 : w30.cell? ⟨gb525, 1, none⟩ = some (.slice none 0 0) := cC BK525 1; have hfz32_0 := fC BK525 0; have hfz32_1 := fC BK525 1; obtain ⟨Ao33, co33, eo33⟩ := Kd.V_slice HO532.1; subst eo33; have hcz34_0 : w30.cell? ⟨gb517, 0, none⟩ = some (.int .u8 a2_0) := cC BK517 0; have hcz34_1 : w30.cell? ⟨gb517, 1, none⟩ = some (.int .u8 a2_1) := cC BK517 1; have hcz34_2 : w30.cell? ⟨gb517, 2, none⟩ = some (.int .u8 a2_2) := cC BK517 2; have hcz34_3 : w30.cell? ⟨gb517, 3, none⟩ = some (.slice A2_3 l2_3.length c2_3) := cC BK517 3; have hfz34_0 := fC BK517 0; have hfz34_1 := fC BK517 1; have hfz34_2 := fC BK517 2; have hfz34_3 := fC BK517 3) | ((with_reducible refine gC 22 ?_); refine gL 58 Try.func22 #[.slice A1 l1.length c1, .int .i64 (wrap64 (a2_1)), .int .i64 (wrap64 (a2_2))] ?_; (with_reducible refine (tegularef35_Map_Take.calls kj17 _ _ l1 (wrap64 (a2_1)) (wrap64 (a2_2)) t534 t535 t536 _ ?side1 ?side2 A22.1).mono ?_); (case side1 => refine (Kd.V_reads' (e := 4) (base := w.heap.size) (ok := fun k_ => ((((P0_1_ k_ ∨ P1_ k_) ∨ w.heap.size ≤ k_) ∧ (some k_ ≠ (v523 : Value).ownBlock ∧ (nb k_ none 0 0 ∧ (nb k_ none 0 0 ∧ (k_ ≠ gb516 ∧ (k_ ≠ gb517 ∧ (k_ ≠ gb518 ∧ k_ ≠ gb525))))))) ∧ some k_ ≠ (v527 : Value).ownBlock)) (n := l1.length) (c := c1) ?_).2.2; exact (vU (Kd.V_mono (Kd.V_far (p := ⟨gb525, 1, none⟩) (Kd.V_far (p := ⟨gb525, 0, none⟩) (Kd.V_mono HO_1.1 (fun k_ hk => (⟨hk, hk.1.2.2.2.2.2.2.2⟩ : _ ∧ k_ ≠ gb525))) (fun _ hk => hk.2) (.int .i64 t529)) (fun _ hk => hk.2) (.slice Ao33 t530.length co33)) (fun _ h_ => h_.1)))); (case side2 => exact (Kd.V_reads' HO_1.1).2.1); rintro e w35 ⟨v537, v539, rfl, ho0, ho1, hb⟩; refine ⟨_, rfl, ?_⟩; replace HO_1 := Aa (Kd.V_mono (Kd.V_told (Kd.V_told (Kd.V_old (vU (Kd.V_mono (Kd.V_far (p := ⟨gb525, 1, none⟩) (Kd.V_far (p := ⟨gb525, 0, none⟩) (Kd.V_mono HO_1.1 (fun k_ hk => (⟨hk, hk.1.2.2.2.2.2.2.2⟩ : _ ∧ k_ ≠ gb525))) (fun _ hk => hk.2) (.int .i64 t529)) (fun _ hk => hk.2) (.slice Ao33 t530.length co33)) (fun _ h_ => h_.1))) hb) (Kd.R_base ho0)) (Kd.R_base ho1)) (fun _ h_ => h_.1)); replace HO_517001 := Aa (Kd.V_mono (Kd.V_told (Kd.V_told (Kd.V_old (vU (Kd.V_mono (Kd.V_far (p := ⟨gb525, 1, none⟩) (Kd.V_far (p := ⟨gb525, 0, none⟩) (Kd.V_mono HO_517001.1 (fun k_ hk => (⟨hk, hk.1.2.2.2.2.2.2.2⟩ : _ ∧ k_ ≠ gb525))) (fun _ hk => hk.2) (.int .i64 t529)) (fun _ hk => hk.2) (.slice Ao33 t530.length co33)) (fun _ h_ => h_.1))) hb) (Kd.R_base ho0)) (Kd.R_base ho1)) (fun _ h_ => h_.1)); replace HO532 := Aa (Kd.V_mono (Kd.V_told (Kd.V_told (Kd.V_old (vU (Kd.V_mono (Kd.V_far (p := ⟨gb525, 1, none⟩) (Kd.V_far (p := ⟨gb525, 0, none⟩) (Kd.V_mono HO532.1 (fun k_ hk => (⟨hk, hk.2.2.2.2.2.2.2.2⟩ : _ ∧ k_ ≠ gb525))) (fun _ hk => hk.2) (.int .i64 t529)) (fun _ hk => hk.2) (.slice Ao33 t530.length co33)) (fun _ h_ => h_.1))) hb) (Kd.R_base ho0)) (Kd.R_base ho1)) (fun _ h_ => h_.1)); have HO538 := Aa (Kd.R_lower (Kd.R_new' (Kd.R_new' (Kd.R_new' (Kd.R_new' (Kd.R_newM (M := fun k_ => (w.heap.size ≤ k_)) ho0 (below_size (bS HB.1)) (fun k_ h_ => h_)) (Kd.R_lt (rU (Kd.R_mono (Kd.R_far (p := ⟨gb525, 1, none⟩) (Kd.R_far (p := ⟨gb525, 0, none⟩) (Kd.R_types HO_9.1 BK525.1 (by decide)) (fun _ hk => hk.2) (.int .i64 t529)) (fun _ hk => hk.2) (.slice Ao33 t530.length co33)) (fun _ h_ => h_.1))))) (Kd.R_lt (rU (Kd.R_mono (Kd.R_far (p := ⟨gb525, 1, none⟩) (Kd.R_far (p := ⟨gb525, 0, none⟩) (Kd.R_types HO_14.1 BK525.1 (by decide)) (fun _ hk => hk.2) (.int .i64 t529)) (fun _ hk => hk.2) (.slice Ao33 t530.length co33)) (fun _ h_ => h_.1))))) (Kd.R_lt (rU (Kd.R_mono (Kd.R_far (p := ⟨gb525, 1, none⟩) (Kd.R_far (p := ⟨gb525, 0, none⟩) (Kd.R_types HO_15.1 BK525.1 (by decide)) (fun _ hk => hk.2) (.int .i64 t529)) (fun _ hk => hk.2) (.slice Ao33 t530.length co33)) (fun _ h_ => h_.1))))) (Kd.R_lt (rU (Kd.R_mono (Kd.R_far (p := ⟨gb525, 1, none⟩) (Kd.R_far (p := ⟨gb525, 0, none⟩) (Kd.R_types HO528.1 BK525.1 (by decide)) (fun _ hk => hk.2) (.int .i64 t529)) (fun _ hk => hk.2) (.slice Ao33 t530.length co33)) (fun _ h_ => h_.1))))) (below_size (bS HB.1))); replace HO_9 := Aa (Kd.R_elder' (rU (Kd.R_mono (Kd.R_far (p := ⟨gb525, 1, none⟩) (Kd.R_far (p := ⟨gb525, 0, none⟩) (Kd.R_types HO_9.1 BK525.1 (by decide)) (fun _ hk => hk.2) (.int .i64 t529)) (fun _ hk => hk.2) (.slice Ao33 t530.length co33)) (fun _ h_ => h_.1))) (Kd.R_base ho0) hb); replace HO_14 := Aa (Kd.R_elder' (rU (Kd.R_mono (Kd.R_far (p := ⟨gb525, 1, none⟩) (Kd.R_far (p := ⟨gb525, 0, none⟩) (Kd.R_types HO_14.1 BK525.1 (by decide)) (fun _ hk => hk.2) (.int .i64 t529)) (fun _ hk => hk.2) (.slice Ao33 t530.length co33)) (fun _ h_ => h_.1))) (Kd.R_base ho0) hb); replace HO_15 := Aa (Kd.R_elder' (rU (Kd.R_mono (Kd.R_far (p := ⟨gb525, 1, none⟩) (Kd.R_far (p := ⟨gb525, 0, none⟩) (Kd.R_types HO_15.1 BK525.1 (by decide)) (fun _ hk => hk.2) (.int .i64 t529)) (fun _ hk => hk.2) (.slice Ao33 t530.length co33)) (fun _ h_ => h_.1))) (Kd.R_base ho0) hb); replace HO528 := Aa (Kd.R_elder' (rU (Kd.R_mono (Kd.R_far (p := ⟨gb525, 1, none⟩) (Kd.R_far (p := ⟨gb525, 0, none⟩) (Kd.R_types HO528.1 BK525.1 (by decide)) (fun _ hk => hk.2) (.int .i64 t529)) (fun _ hk => hk.2) (.slice Ao33 t530.length co33)) (fun _ h_ => h_.1))) (Kd.R_base ho0) hb); have HO540 := Aa (Kd.R_lower (Kd.R_newM (M := fun k_ => (w.heap.size ≤ k_)) ho1 (below_size (bS HB.1)) (fun k_ h_ => h_)) (below_size (bS HB.1))); replace BK516 := Aa (blk_below (g := gb516) (o := .cells #[.int .i64 a0_0, .slice A0_1 l0_1.length c0_1] 26 (0, 0)) (by refine kP ?_; refine blk_far ?_ NB516_525.1 _; refine kP ?_; refine blk_far ?_ NB516_525.1 _; refine kP ?_; exact BK516.1) hb); replace BK517 := Aa (blk_below (g := gb517) (o := .cells #[.int .u8 a2_0, .int .u8 a2_1, .int .u8 a2_2, .slice A2_3 l2_3.length c2_3] 57 (0, 0)) (by refine kP ?_; refine blk_far ?_ NB517_525.1 _; refine kP ?_; refine blk_far ?_ NB517_525.1 _; refine kP ?_; exact BK517.1) hb); replace BK518 := Aa (blk_below (g := gb518) (o := .cells #[.int .i64 0, .slice none 0 0] 26 (0, 0)) (by refine kP ?_; refine blk_far ?_ NB518_525.1 _; refine kP ?_; refine blk_far ?_ NB518_525.1 _; refine kP ?_; exact BK518.1) hb); replace BK525 := Aa (blk_below (g := gb525) (o := .cells #[.int .i64 t529, .slice Ao33 t530.length co33] 26 (0, 0)) (by refine kP ?_; refine blk_put (cs := #[.int .i64 t529, .slice none 0 0]) ?_ 1 _ rfl; refine kP ?_; refine blk_put (cs := #[.int .i64 0, .slice none 0 0]) ?_ 0 _ rfl; refine kP ?_; exact BK525.1) hb); replace HB := sB HB hb; (try clear hb); (try clear hk); (try clear ho0); (try clear ho1)))
      go_meet
      case rel => exact ⟨_, (t535), (t533), (t536), (t526), (t534), (t529), (t530), (.slice Ao33 t530.length co33), (by first | rfl | (simp; done) | (simp [*]; done)), (by first | rfl | (simp; done) | (simp [*]; done)), H', ⟨by have := HJ17.1; first | omega | exact Nat.le_refl _⟩, ⟨vU (Kd.V_mono HO_1.1 (fun _ hk => ⟨hk.1.1.1.1, ⟨hk.2, ⟨hk.1.1.2, ⟨hk.1.2, ⟨hk.1.1.1.2.2.2.2.1, ⟨hk.1.1.1.2.2.2.2.2.1, ⟨hk.1.1.1.2.2.2.2.2.2.1, hk.1.1.1.2.2.2.2.2.2.2⟩⟩⟩⟩⟩⟩⟩))⟩, ⟨rU (Kd.R_mono HO540.1 (fun _ hk => hk.1))⟩, ⟨rU (Kd.R_mono HO528.1 (fun _ hk => ⟨hk.1.1.1.1.1, hk.2⟩))⟩, ⟨rU (Kd.R_mono HO538.1 (fun _ hk => ⟨hk.1.1.1.1.1, hk.2⟩))⟩, ⟨vU (Kd.V_mono HO_517001.1 (fun _ hk => ⟨hk.1.1.1.1, ⟨hk.2, ⟨hk.1.1.2, ⟨hk.1.2, ⟨hk.1.1.1.2.2.2.2.1, ⟨hk.1.1.1.2.2.2.2.2.1, ⟨hk.1.1.1.2.2.2.2.2.2.1, hk.1.1.1.2.2.2.2.2.2.2⟩⟩⟩⟩⟩⟩⟩))⟩, ⟨vU (Kd.V_mono HO532.1 (fun _ hk => ⟨hk.1.1.1, ⟨hk.2, ⟨hk.1.1.2.1, ⟨hk.1.2, ⟨hk.1.1.2.2.2.2.2.1, ⟨hk.1.1.2.2.2.2.2.2.1, ⟨hk.1.1.2.2.2.2.2.2.2.1, hk.1.1.2.2.2.2.2.2.2.2⟩⟩⟩⟩⟩⟩⟩))⟩, ⟨by refine kP ?_; exact BK516.1⟩, ⟨by refine kP ?_; exact BK517.1⟩, ⟨by refine kP ?_; exact BK518.1⟩, ⟨by refine kP ?_; exact BK525.1⟩, ⟨bS HB.1⟩⟩
     ·
      replace c20 := Bool.eq_false_iff.mpr c20
      subst c20
      have H1 : (if (Int.tmod a2_0 4) = 2 then ((alloc_Map_Mark.f kj17 a0_0 l0_1 y522).bind fun bt541 => ((tegularef35_Map_Mark.f kj17 l1 y522).bind fun bt546 => (tegulalaw35_step.j1 kj17 l1 bt546.1 bt541.2.2 bt546.2 ([] : List (S53)) ([] : List (S53)) a0_0 l0_1 bt541.1 bt541.2.1))) else ((alloc_Map_Give.f kj17 a0_0 l0_1 y522).bind fun bt550 => ((tegularef35_Map_Give.f kj17 l1 y522).bind fun bt555 => (tegulalaw35_step.j1 kj17 l1 bt555.1 bt550.2.2 bt555.2 ([] : List (S53)) ([] : List (S53)) a0_0 l0_1 bt550.1 bt550.2.1)))) = some (r1, r2, r3, r4) := by rw [if_neg (show ¬ (false = true) by decide)] at H; exact H
      clear H
      have H := H1
      clear H1
      by_cases c36 : (Int.tmod a2_0 4) = 2
      ·
       rw [if_pos c36] at H
       have c36b0 : ((Int.tmod a2_0 4) == 2) = true := beq_iff_eq.mpr c36
       have c36b1 : ((Int.tmod a2_0 4) != 2) = false := bne_eq_false_iff_eq.mpr c36
       clear c36
       replace H := Option.bind_eq_some_iff.mp H
       obtain ⟨⟨t541, t542, t545⟩, A370, H⟩ := H
       replace H : ((tegularef35_Map_Mark.f kj17 l1 y522).bind fun bt546 => (tegulalaw35_step.j1 kj17 l1 bt546.1 t545 bt546.2 ([] : List (S53)) ([] : List (S53)) a0_0 l0_1 t541 t542)) = some (r1, r2, r3, r4) := H
       have A37 := Aside0.mk A370
       clear A370
       replace H := Option.bind_eq_some_iff.mp H
       obtain ⟨⟨t546, t547⟩, A380, H⟩ := H
       replace H : (tegulalaw35_step.j1 kj17 l1 t546 t545 t547 ([] : List (S53)) ([] : List (S53)) a0_0 l0_1 t541 t542) = some (r1, r2, r3, r4) := H
       have A38 := Aside0.mk A380
       clear A380
       have H' := Aside0.mk H
       clear H
       have hnb39 := NB516_517.1
       have hnc39 := NB517_516.1
       have hnb40 := NB516_518.1
       have hnc40 := NB518_516.1
       have hnb41 := NB516_525.1
       have hnc41 := NB525_516.1
       have hcz42_0 : wc.cell? ⟨gb516, 0, none⟩ = some (.int .i64 a0_0) := cC BK516 0
       have hcz42_1 : wc.cell? ⟨gb516, 1, none⟩ = some (.slice A0_1 l0_1.length c0_1) := cC BK516 1
       have hfz42_0 := fC BK516 0
       have hfz42_1 := fC BK516 1
       obtain ⟨Ao43, co43, eo43⟩ := Kd.R_slice HO_9.1
       subst eo43
       go_wp2_with (first | ((with_reducible refine gC 27 ?_); refine gL 67 Try.func27 #[.agg #[.int .i64 a0_0, .slice A0_1 l0_1.length c0_1], .slice Ao43 y522.length co43] ?_; (with_reducible refine (alloc_Map_Mark.calls kj17 a0_0 (fun k_ => (((P0_1_ k_ ∨ P1_ k_) ∨ w.heap.size ≤ k_) ∧ (nb k_ Ao43 y522.length co43 ∧ (nb k_ none 0 0 ∧ (nb k_ none 0 0 ∧ (k_ ≠ gb516 ∧ (k_ ≠ gb517 ∧ (k_ ≠ gb518 ∧ k_ ≠ gb525)))))))) _ _ l0_1 _ _ y522 t541 t542 t545 _ ?side1 ?side2 ?side3 A37.1).mono ?_); (case side1 => exact HO_517001.1); (case side2 => repeat (first | exact (Kd.R_reads' HO_9.1).2.2 | (with_reducible refine Kd.C_alloc ?_ _) | (with_reducible refine Kd.C_drewN ?_ _) | (with_reducible refine Kd.C_drew ?_))); (case side3 => exact (Kd.R_reads' HO_9.1).2.1); rintro e w44 ⟨v543, rfl, ho0, hb⟩; refine ⟨_, rfl, ?_⟩; replace HO_1 := vB HO_1 hb; replace HO_517001 := vB HO_517001 hb; have HO544 := Aa (Kd.V_lower (Kd.V_mono (ok' := fun k_ => ((P0_1_ k_ ∨ P1_ k_) ∨ w.heap.size ≤ k_) ∧ nb k_ Ao43 y522.length co43 ∧ nb k_ none 0 0 ∧ nb k_ none 0 0 ∧ k_ ≠ gb516 ∧ k_ ≠ gb517 ∧ k_ ≠ gb518 ∧ k_ ≠ gb525) ho0 (fun k_ hk_ => ⟨Or.elim hk_ (fun hs_ => hs_.1) (fun hn_ => (.inr (Nat.le_trans (below_size (bS HB.1)) hn_))), Or.elim hk_ (fun hs_ => hs_.2.1) (fun hn_ => (Kd.fresh' (Kd.R_lt (rU HO_9.1)) k_ hn_)), Or.elim hk_ (fun hs_ => hs_.2.2.1) (fun hn_ => (Kd.fresh' (Kd.R_lt (rU HO_14.1)) k_ hn_)), Or.elim hk_ (fun hs_ => hs_.2.2.2.1) (fun hn_ => (Kd.fresh' (Kd.R_lt (rU HO_15.1)) k_ hn_)), Or.elim hk_ (fun hs_ => hs_.2.2.2.2.1) (fun hn_ => (Kd.freshB (g := gb516) (o := .cells #[.int .i64 a0_0, .slice A0_1 l0_1.length c0_1] 26 (0, 0)) (kU BK516.1) k_ hn_)), Or.elim hk_ (fun hs_ => hs_.2.2.2.2.2.1) (fun hn_ => (Kd.freshB (g := gb517) (o := .cells #[.int .u8 a2_0, .int .u8 a2_1, .int .u8 a2_2, .slice A2_3 l2_3.length c2_3] 57 (0, 0)) (kU BK517.1) k_ hn_)), Or.elim hk_ (fun hs_ => hs_.2.2.2.2.2.2.1) (fun hn_ => (Kd.freshB (g := gb518) (o := .cells #[.int .i64 0, .slice none 0 0] 26 (0, 0)) (kU BK518.1) k_ hn_)), Or.elim hk_ (fun hs_ => hs_.2.2.2.2.2.2.2) (fun hn_ => (Kd.freshB (g := gb525) (o := .cells #[.int .i64 0, .slice none 0 0] 26 (0, 0)) (kU BK525.1) k_ hn_))⟩)) (below_size (bS HB.1))); replace HO_9 := rB HO_9 hb; replace HO_14 := rB HO_14 hb; replace HO_15 := rB HO_15 hb; replace BK516 := kB BK516 hb; replace BK517 := kB BK517 hb; replace BK518 := kB BK518 hb; replace BK525 := kB BK525 hb; replace HB := sB HB hb; (try clear hb); (try clear hk); (try clear ho0); have hnb45 := NB525_517.1; have hnc45 := NB517_525.1; have hnb46 := NB525_518.1; have hnc46 := NB518_525.1; have hcz47_0 : w44.cell? ⟨gb525, 0, none⟩ = some (.int .i64 0) := cC BK525 0; have hcz47_1 : w44.cell? ⟨gb525, 1, none⟩ = some (.slice none 0 0) := cC BK525 1; have hfz47_0 := fC BK525 0; have hfz47_1 := fC BK525 1; obtain ⟨Ao48, co48, eo48⟩ := Kd.V_slice HO544.1; subst eo48) | ((with_reducible refine gC 39 ?_); refine gL 73 Try.func39 #[.slice A1 l1.length c1, .slice Ao43 y522.length co43] ?_; (with_reducible refine (tegularef35_Map_Mark.calls kj17 _ _ l1 _ _ y522 t546 t547 _ ?side1 ?side2 ?side3 ?side4 A38.1).mono ?_); (case side1 => refine (Kd.V_reads' (e := 4) (base := w.heap.size) (ok := fun k_ => (((P0_1_ k_ ∨ P1_ k_) ∨ w.heap.size ≤ k_) ∧ (nb k_ Ao43 y522.length co43 ∧ (nb k_ none 0 0 ∧ (nb k_ none 0 0 ∧ (k_ ≠ gb516 ∧ (k_ ≠ gb517 ∧ (k_ ≠ gb518 ∧ k_ ≠ gb525)))))))) (n := l1.length) (c := c1) ?_).2.2; exact (vU (Kd.V_mono (Kd.V_far (p := ⟨gb525, 1, none⟩) (Kd.V_far (p := ⟨gb525, 0, none⟩) (Kd.V_mono HO_1.1 (fun k_ hk => (⟨hk, hk.2.2.2.2.2.2.2⟩ : _ ∧ k_ ≠ gb525))) (fun _ hk => hk.2) (.int .i64 t541)) (fun _ hk => hk.2) (.slice Ao48 t542.length co48)) (fun _ h_ => h_.1)))); (case side2 => exact (Kd.V_reads' HO_1.1).2.1); (case side3 => refine (Kd.R_reads' (e := 53) (base := w.heap.size) (ok := fun k_ => ((w.heap.size ≤ k_) ∧ (nb k_ none 0 0 ∧ nb k_ none 0 0))) (n := y522.length) (c := co43) ?_).2.2; exact (rU (Kd.R_mono (Kd.R_far (p := ⟨gb525, 1, none⟩) (Kd.R_far (p := ⟨gb525, 0, none⟩) (Kd.R_types HO_9.1 BK525.1 (by decide)) (fun _ hk => hk.2) (.int .i64 t541)) (fun _ hk => hk.2) (.slice Ao48 t542.length co48)) (fun _ h_ => h_.1)))); (case side4 => exact (Kd.R_reads' HO_9.1).2.1); rintro e w49 ⟨v548, rfl, ho0, hb⟩; refine ⟨_, rfl, ?_⟩; replace HO_1 := Aa (Kd.V_elder' (vU (Kd.V_mono (Kd.V_far (p := ⟨gb525, 1, none⟩) (Kd.V_far (p := ⟨gb525, 0, none⟩) (Kd.V_mono HO_1.1 (fun k_ hk => (⟨hk, hk.2.2.2.2.2.2.2⟩ : _ ∧ k_ ≠ gb525))) (fun _ hk => hk.2) (.int .i64 t541)) (fun _ hk => hk.2) (.slice Ao48 t542.length co48)) (fun _ h_ => h_.1))) (Kd.R_base ho0) hb); replace HO_9 := Aa (Kd.R_below (rU (Kd.R_mono (Kd.R_far (p := ⟨gb525, 1, none⟩) (Kd.R_far (p := ⟨gb525, 0, none⟩) (Kd.R_types HO_9.1 BK525.1 (by decide)) (fun _ hk => hk.2) (.int .i64 t541)) (fun _ hk => hk.2) (.slice Ao48 t542.length co48)) (fun _ h_ => h_.1))) hb); replace HO_14 := Aa (Kd.R_below (rU (Kd.R_mono (Kd.R_far (p := ⟨gb525, 1, none⟩) (Kd.R_far (p := ⟨gb525, 0, none⟩) (Kd.R_types HO_14.1 BK525.1 (by decide)) (fun _ hk => hk.2) (.int .i64 t541)) (fun _ hk => hk.2) (.slice Ao48 t542.length co48)) (fun _ h_ => h_.1))) hb); replace HO_15 := Aa (Kd.R_below (rU (Kd.R_mono (Kd.R_far (p := ⟨gb525, 1, none⟩) (Kd.R_far (p := ⟨gb525, 0, none⟩) (Kd.R_types HO_15.1 BK525.1 (by decide)) (fun _ hk => hk.2) (.int .i64 t541)) (fun _ hk => hk.2) (.slice Ao48 t542.length co48)) (fun _ h_ => h_.1))) hb); replace HO_517001 := Aa (Kd.V_elder' (vU (Kd.V_mono (Kd.V_far (p := ⟨gb525, 1, none⟩) (Kd.V_far (p := ⟨gb525, 0, none⟩) (Kd.V_mono HO_517001.1 (fun k_ hk => (⟨hk, hk.2.2.2.2.2.2.2⟩ : _ ∧ k_ ≠ gb525))) (fun _ hk => hk.2) (.int .i64 t541)) (fun _ hk => hk.2) (.slice Ao48 t542.length co48)) (fun _ h_ => h_.1))) (Kd.R_base ho0) hb); replace HO544 := Aa (Kd.V_elder' (vU (Kd.V_mono (Kd.V_far (p := ⟨gb525, 1, none⟩) (Kd.V_far (p := ⟨gb525, 0, none⟩) (Kd.V_mono HO544.1 (fun k_ hk => (⟨hk, hk.2.2.2.2.2.2.2⟩ : _ ∧ k_ ≠ gb525))) (fun _ hk => hk.2) (.int .i64 t541)) (fun _ hk => hk.2) (.slice Ao48 t542.length co48)) (fun _ h_ => h_.1))) (Kd.R_base ho0) hb); have HO549 := Aa (Kd.R_lower (Kd.R_newM (M := fun k_ => (w.heap.size ≤ k_)) ho0 (below_size (bS HB.1)) (fun k_ h_ => h_)) (below_size (bS HB.1))); replace BK516 := Aa (blk_below (g := gb516) (o := .cells #[.int .i64 a0_0, .slice A0_1 l0_1.length c0_1] 26 (0, 0)) (by refine kP ?_; refine blk_far ?_ NB516_525.1 _; refine kP ?_; refine blk_far ?_ NB516_525.1 _; refine kP ?_; exact BK516.1) hb); replace BK517 := Aa (blk_below (g := gb517) (o := .cells #[.int .u8 a2_0, .int .u8 a2_1, .int .u8 a2_2, .slice A2_3 l2_3.length c2_3] 57 (0, 0)) (by refine kP ?_; refine blk_far ?_ NB517_525.1 _; refine kP ?_; refine blk_far ?_ NB517_525.1 _; refine kP ?_; exact BK517.1) hb); replace BK518 := Aa (blk_below (g := gb518) (o := .cells #[.int .i64 0, .slice none 0 0] 26 (0, 0)) (by refine kP ?_; refine blk_far ?_ NB518_525.1 _; refine kP ?_; refine blk_far ?_ NB518_525.1 _; refine kP ?_; exact BK518.1) hb); replace BK525 := Aa (blk_below (g := gb525) (o := .cells #[.int .i64 t541, .slice Ao48 t542.length co48] 26 (0, 0)) (by refine kP ?_; refine blk_put (cs := #[.int .i64 t541, .slice none 0 0]) ?_ 1 _ rfl; refine kP ?_; refine blk_put (cs := #[.int .i64 0, .slice none 0 0]) ?_ 0 _ rfl; refine kP ?_; exact BK525.1) hb); replace HB := sB HB hb; (try clear hb); (try clear hk); (try clear ho0)))
       go_meet
       case rel => exact ⟨_, (t546), (t545), (t547), (([] : List (S53))), (([] : List (S53))), (t541), (t542), (.slice Ao48 t542.length co48), (by first | rfl | (simp; done) | (simp [*]; done)), (by first | rfl | (simp; done) | (simp [*]; done)), H', ⟨by have := HJ17.1; first | omega | exact Nat.le_refl _⟩, ⟨vU (Kd.V_mono HO_1.1 (fun _ hk => ⟨hk.1.1, ⟨hk.2, ⟨hk.1.2.2.1, ⟨hk.1.2.2.2.1, ⟨hk.1.2.2.2.2.1, ⟨hk.1.2.2.2.2.2.1, ⟨hk.1.2.2.2.2.2.2.1, hk.1.2.2.2.2.2.2.2⟩⟩⟩⟩⟩⟩⟩))⟩, ⟨rU (Kd.R_mono HO549.1 (fun _ hk => hk.1))⟩, ⟨rU (Kd.R_mono HO_14.1 (fun _ hk => by first | exact hk.1 | (refine ⟨hk.1, ?_⟩; intro h_; cases (show some _ = (none : Option Nat) from h_))))⟩, ⟨rU (Kd.R_mono HO_15.1 (fun _ hk => by first | exact hk.1 | (refine ⟨hk.1, ?_⟩; intro h_; cases (show some _ = (none : Option Nat) from h_))))⟩, ⟨vU (Kd.V_mono HO_517001.1 (fun _ hk => ⟨hk.1.1, ⟨hk.2, ⟨hk.1.2.2.1, ⟨hk.1.2.2.2.1, ⟨hk.1.2.2.2.2.1, ⟨hk.1.2.2.2.2.2.1, ⟨hk.1.2.2.2.2.2.2.1, hk.1.2.2.2.2.2.2.2⟩⟩⟩⟩⟩⟩⟩))⟩, ⟨vU (Kd.V_mono HO544.1 (fun _ hk => ⟨hk.1.1, ⟨hk.2, ⟨hk.1.2.2.1, ⟨hk.1.2.2.2.1, ⟨hk.1.2.2.2.2.1, ⟨hk.1.2.2.2.2.2.1, ⟨hk.1.2.2.2.2.2.2.1, hk.1.2.2.2.2.2.2.2⟩⟩⟩⟩⟩⟩⟩))⟩, ⟨by refine kP ?_; exact BK516.1⟩, ⟨by refine kP ?_; exact BK517.1⟩, ⟨by refine kP ?_; exact BK518.1⟩, ⟨by refine kP ?_; exact BK525.1⟩, ⟨bS HB.1⟩⟩
      ·
       rw [if_neg c36] at H
       have c36b0 : ((Int.tmod a2_0 4) == 2) = false := beq_eq_false_iff_ne.mpr c36
       have c36b1 : ((Int.tmod a2_0 4) != 2) = true := bne_iff_ne.mpr c36
       replace H := Option.bind_eq_some_iff.mp H
       obtain ⟨⟨t550, t551, t554⟩, A500, H⟩ := H
       replace H : ((tegularef35_Map_Give.f kj17 l1 y522).bind fun bt555 => (tegulalaw35_step.j1 kj17 l1 bt555.1 t554 bt555.2 ([] : List (S53)) ([] : List (S53)) a0_0 l0_1 t550 t551)) = some (r1, r2, r3, r4) := H
       have A50 := Aside0.mk A500
       clear A500
       replace H := Option.bind_eq_some_iff.mp H
       obtain ⟨⟨t555, t556⟩, A510, H⟩ := H
       replace H : (tegulalaw35_step.j1 kj17 l1 t555 t554 t556 ([] : List (S53)) ([] : List (S53)) a0_0 l0_1 t550 t551) = some (r1, r2, r3, r4) := H
       have A51 := Aside0.mk A510
       clear A510
       have H' := Aside0.mk H
       clear H
       have hnb52 := NB516_517.1
       have hnc52 := NB517_516.1
       have hnb53 := NB516_518.1
       have hnc53 := NB518_516.1
       have hnb54 := NB516_525.1
       have hnc54 := NB525_516.1
       have hcz55_0 : wc.cell? ⟨gb516, 0, none⟩ = some (.int .i64 a0_0) := cC BK516 0
       have hcz55_1 : wc.cell? ⟨gb516, 1, none⟩ = some (.slice A0_1 l0_1.length c0_1) := cC BK516 1
       have hfz55_0 := fC BK516 0
       have hfz55_1 := fC BK516 1
       obtain ⟨Ao56, co56, eo56⟩ := Kd.R_slice HO_9.1
       subst eo56
       go_wp2_with (first | ((with_reducible refine gC 25 ?_); refine gL 26 Try.func25 #[.agg #[.int .i64 a0_0, .slice A0_1 l0_1.length c0_1], .slice Ao56 y522.length co56] ?_; (with_reducible refine (alloc_Map_Give.calls kj17 a0_0 (fun k_ => (((P0_1_ k_ ∨ P1_ k_) ∨ w.heap.size ≤ k_) ∧ (nb k_ Ao56 y522.length co56 ∧ (nb k_ none 0 0 ∧ (nb k_ none 0 0 ∧ (k_ ≠ gb516 ∧ (k_ ≠ gb517 ∧ (k_ ≠ gb518 ∧ k_ ≠ gb525)))))))) _ _ l0_1 _ _ y522 t550 t551 t554 _ ?side1 ?side2 ?side3 A50.1).mono ?_); (case side1 => exact HO_517001.1); (case side2 => repeat (first | exact (Kd.R_reads' HO_9.1).2.2 | (with_reducible refine Kd.C_alloc ?_ _) | (with_reducible refine Kd.C_drewN ?_ _) | (with_reducible refine Kd.C_drew ?_))); (case side3 => exact (Kd.R_reads' HO_9.1).2.1); rintro e w57 ⟨v552, rfl, ho0, hb⟩; refine ⟨_, rfl, ?_⟩; replace HO_1 := vE HO_1 ho0 hb; replace HO_517001 := vE HO_517001 ho0 hb; have HO553 := Aa (Kd.R_lower (Kd.R_new' (Kd.R_new' (Kd.R_new' (Kd.R_newM (M := fun k_ => (w.heap.size ≤ k_)) (Kd.R_mono (ok' := fun k_ => True) ho0 (fun _ hk_ => trivial)) (below_size (bS HB.1)) (fun k_ h_ => h_)) (Kd.R_lt (rU HO_9.1))) (Kd.R_lt (rU HO_14.1))) (Kd.R_lt (rU HO_15.1))) (below_size (bS HB.1))); replace HO_9 := rE HO_9 ho0 hb; replace HO_14 := rE HO_14 ho0 hb; replace HO_15 := rE HO_15 ho0 hb; replace BK516 := kB BK516 hb; replace BK517 := kB BK517 hb; replace BK518 := kB BK518 hb; replace BK525 := kB BK525 hb; replace HB := sB HB hb; (try clear hb); (try clear hk); (try clear ho0); have hnb58 := NB525_517.1; have hnc58 := NB517_525.1; have hnb59 := NB525_518.1; have hnc59 := NB518_525.1; have hcz60_0 : w57.cell? ⟨gb525, 0, none⟩ = some (.int .i64 0) := cC BK525 0; have hcz60_1 : w57.cell? ⟨gb525, 1, none⟩ = some (.slice none 0 0) := cC BK525 1; have hfz60_0 := fC BK525 0; have hfz60_1 := fC BK525 1; obtain ⟨Ao61, co61, eo61⟩ := Kd.R_slice HO553.1; subst eo61) | ((with_reducible refine gC 45 ?_); refine gL 32 Try.func45 #[.slice A1 l1.length c1, .slice Ao56 y522.length co56] ?_; (with_reducible refine (tegularef35_Map_Give.calls kj17 _ _ l1 _ _ y522 t555 t556 _ ?side1 ?side2 ?side3 ?side4 A51.1).mono ?_); (case side1 => refine (Kd.V_reads' (e := 4) (base := w.heap.size) (ok := fun k_ => ((((P0_1_ k_ ∨ P1_ k_) ∨ w.heap.size ≤ k_) ∧ (nb k_ Ao56 y522.length co56 ∧ (nb k_ none 0 0 ∧ (nb k_ none 0 0 ∧ (k_ ≠ gb516 ∧ (k_ ≠ gb517 ∧ (k_ ≠ gb518 ∧ k_ ≠ gb525))))))) ∧ nb k_ Ao61 t551.length co61)) (n := l1.length) (c := c1) ?_).2.2; exact (vU (Kd.V_mono (Kd.V_far (p := ⟨gb525, 1, none⟩) (Kd.V_far (p := ⟨gb525, 0, none⟩) (Kd.V_mono HO_1.1 (fun k_ hk => (⟨hk, hk.1.2.2.2.2.2.2.2⟩ : _ ∧ k_ ≠ gb525))) (fun _ hk => hk.2) (.int .i64 t550)) (fun _ hk => hk.2) (.slice Ao61 t551.length co61)) (fun _ h_ => h_.1)))); (case side2 => exact (Kd.V_reads' HO_1.1).2.1); (case side3 => refine (Kd.R_reads' (e := 53) (base := w.heap.size) (ok := fun k_ => (((w.heap.size ≤ k_) ∧ (nb k_ none 0 0 ∧ nb k_ none 0 0)) ∧ nb k_ Ao61 t551.length co61)) (n := y522.length) (c := co56) ?_).2.2; exact (rU (Kd.R_mono (Kd.R_far (p := ⟨gb525, 1, none⟩) (Kd.R_far (p := ⟨gb525, 0, none⟩) (Kd.R_types HO_9.1 BK525.1 (by decide)) (fun _ hk => hk.2) (.int .i64 t550)) (fun _ hk => hk.2) (.slice Ao61 t551.length co61)) (fun _ h_ => h_.1)))); (case side4 => exact (Kd.R_reads' HO_9.1).2.1); rintro e w62 ⟨v557, rfl, ho0, hb⟩; refine ⟨_, rfl, ?_⟩; replace HO_1 := Aa (Kd.V_elder' (vU (Kd.V_mono (Kd.V_far (p := ⟨gb525, 1, none⟩) (Kd.V_far (p := ⟨gb525, 0, none⟩) (Kd.V_mono HO_1.1 (fun k_ hk => (⟨hk, hk.1.2.2.2.2.2.2.2⟩ : _ ∧ k_ ≠ gb525))) (fun _ hk => hk.2) (.int .i64 t550)) (fun _ hk => hk.2) (.slice Ao61 t551.length co61)) (fun _ h_ => h_.1))) (Kd.R_base ho0) hb); replace HO_9 := Aa (Kd.R_below (rU (Kd.R_mono (Kd.R_far (p := ⟨gb525, 1, none⟩) (Kd.R_far (p := ⟨gb525, 0, none⟩) (Kd.R_types HO_9.1 BK525.1 (by decide)) (fun _ hk => hk.2) (.int .i64 t550)) (fun _ hk => hk.2) (.slice Ao61 t551.length co61)) (fun _ h_ => h_.1))) hb); replace HO_14 := Aa (Kd.R_below (rU (Kd.R_mono (Kd.R_far (p := ⟨gb525, 1, none⟩) (Kd.R_far (p := ⟨gb525, 0, none⟩) (Kd.R_types HO_14.1 BK525.1 (by decide)) (fun _ hk => hk.2) (.int .i64 t550)) (fun _ hk => hk.2) (.slice Ao61 t551.length co61)) (fun _ h_ => h_.1))) hb); replace HO_15 := Aa (Kd.R_below (rU (Kd.R_mono (Kd.R_far (p := ⟨gb525, 1, none⟩) (Kd.R_far (p := ⟨gb525, 0, none⟩) (Kd.R_types HO_15.1 BK525.1 (by decide)) (fun _ hk => hk.2) (.int .i64 t550)) (fun _ hk => hk.2) (.slice Ao61 t551.length co61)) (fun _ h_ => h_.1))) hb); replace HO_517001 := Aa (Kd.V_elder' (vU (Kd.V_mono (Kd.V_far (p := ⟨gb525, 1, none⟩) (Kd.V_far (p := ⟨gb525, 0, none⟩) (Kd.V_mono HO_517001.1 (fun k_ hk => (⟨hk, hk.1.2.2.2.2.2.2.2⟩ : _ ∧ k_ ≠ gb525))) (fun _ hk => hk.2) (.int .i64 t550)) (fun _ hk => hk.2) (.slice Ao61 t551.length co61)) (fun _ h_ => h_.1))) (Kd.R_base ho0) hb); replace HO553 := Aa (Kd.R_below (rU (Kd.R_mono (Kd.R_far (p := ⟨gb525, 1, none⟩) (Kd.R_far (p := ⟨gb525, 0, none⟩) (Kd.R_types HO553.1 BK525.1 (by decide)) (fun _ hk => hk.2) (.int .i64 t550)) (fun _ hk => hk.2) (.slice Ao61 t551.length co61)) (fun _ h_ => h_.1))) hb); have HO558 := Aa (Kd.R_lower (Kd.R_newM (M := fun k_ => (w.heap.size ≤ k_)) ho0 (below_size (bS HB.1)) (fun k_ h_ => h_)) (below_size (bS HB.1))); replace BK516 := Aa (blk_below (g := gb516) (o := .cells #[.int .i64 a0_0, .slice A0_1 l0_1.length c0_1] 26 (0, 0)) (by refine kP ?_; refine blk_far ?_ NB516_525.1 _; refine kP ?_; refine blk_far ?_ NB516_525.1 _; refine kP ?_; exact BK516.1) hb); replace BK517 := Aa (blk_below (g := gb517) (o := .cells #[.int .u8 a2_0, .int .u8 a2_1, .int .u8 a2_2, .slice A2_3 l2_3.length c2_3] 57 (0, 0)) (by refine kP ?_; refine blk_far ?_ NB517_525.1 _; refine kP ?_; refine blk_far ?_ NB517_525.1 _; refine kP ?_; exact BK517.1) hb); replace BK518 := Aa (blk_below (g := gb518) (o := .cells #[.int .i64 0, .slice none 0 0] 26 (0, 0)) (by refine kP ?_; refine blk_far ?_ NB518_525.1 _; refine kP ?_; refine blk_far ?_ NB518_525.1 _; refine kP ?_; exact BK518.1) hb); replace BK525 := Aa (blk_below (g := gb525) (o := .cells #[.int .i64 t550, .slice Ao61 t551.length co61] 26 (0, 0)) (by refine kP ?_; refine blk_put (cs := #[.int .i64 t550, .slice none 0 0]) ?_ 1 _ rfl; refine kP ?_; refine blk_put (cs := #[.int .i64 0, .slice none 0 0]) ?_ 0 _ rfl; refine kP ?_; exact BK525.1) hb); replace HB := sB HB hb; (try clear hb); (try clear hk); (try clear ho0)))
       go_meet
       case rel => exact ⟨_, (t555), (t554), (t556), (([] : List (S53))), (([] : List (S53))), (t550), (t551), (.slice Ao61 t551.length co61), (by first | rfl | (simp; done) | (simp [*]; done)), (by first | rfl | (simp; done) | (simp [*]; done)), H', ⟨by have := HJ17.1; first | omega | exact Nat.le_refl _⟩, ⟨vU (Kd.V_mono HO_1.1 (fun _ hk => ⟨hk.1.1.1, ⟨hk.2, ⟨hk.1.1.2.2.1, ⟨hk.1.1.2.2.2.1, ⟨hk.1.1.2.2.2.2.1, ⟨hk.1.1.2.2.2.2.2.1, ⟨hk.1.1.2.2.2.2.2.2.1, hk.1.1.2.2.2.2.2.2.2⟩⟩⟩⟩⟩⟩⟩))⟩, ⟨rU (Kd.R_mono HO558.1 (fun _ hk => hk.1))⟩, ⟨rU (Kd.R_mono HO_14.1 (fun _ hk => by first | exact hk.1.1 | (refine ⟨hk.1.1, ?_⟩; intro h_; cases (show some _ = (none : Option Nat) from h_))))⟩, ⟨rU (Kd.R_mono HO_15.1 (fun _ hk => by first | exact hk.1.1 | (refine ⟨hk.1.1, ?_⟩; intro h_; cases (show some _ = (none : Option Nat) from h_))))⟩, ⟨vU (Kd.V_mono HO_517001.1 (fun _ hk => ⟨hk.1.1.1, ⟨hk.2, ⟨hk.1.1.2.2.1, ⟨hk.1.1.2.2.2.1, ⟨hk.1.1.2.2.2.2.1, ⟨hk.1.1.2.2.2.2.2.1, ⟨hk.1.1.2.2.2.2.2.2.1, hk.1.1.2.2.2.2.2.2.2⟩⟩⟩⟩⟩⟩⟩))⟩, ⟨Kd.V_mono (Kd.R_V (rU (Kd.R_mono (Kd.R_types (Kd.R_types (Kd.R_types (Kd.R_types (Kd.R_apart' HO553.1 (Kd.R_typed HO558.1) (by decide)) BK516.1 (by decide)) BK517.1 (by decide)) BK518.1 (by decide)) BK525.1 (by decide)) (fun _ hk => (And.intro hk.1.1.1.1.1.1.1.1.1 (And.intro hk.1.1.1.1.2 (And.intro hk.1.1.1.1.1.1.2 (And.intro hk.1.1.1.1.1.2 (And.intro hk.1.1.1.2 (And.intro hk.1.1.2 (And.intro hk.1.2 hk.2))))))))))) (fun k_ hk => by first | exact ⟨(.inr (hk.1)), hk.2⟩ | exact (.inr (hk)))⟩, ⟨by refine kP ?_; exact BK516.1⟩, ⟨by refine kP ?_; exact BK517.1⟩, ⟨by refine kP ?_; exact BK518.1⟩, ⟨by refine kP ?_; exact BK525.1⟩, ⟨bS HB.1⟩⟩
  case rest =>
   clear HC5
   try clear c1
   try clear c2
   try clear p2
   try clear c3
   try clear c4
   try clear c5
   try clear p6
   try clear c11
   try clear c12
   try clear c16
   try clear c19
   try clear c19b0
   try clear c19b1
   try clear c20
   try clear c22
   try clear c23
   try clear c24
   try clear c25
   try clear c26
   try clear c27
   try clear c28
   try clear c31
   try clear c36
   try clear c36b0
   try clear c36b1
   try clear c39
   try clear c40
   try clear c41
   try clear c45
   try clear c46
   try clear c52
   try clear c53
   try clear c54
   try clear c58
   try clear c59
   try clear hcz13_0
   try clear hcz13_1
   try clear hcz13_2
   try clear hcz13_3
   try clear hcz17_0
   try clear hcz17_1
   try clear hcz17_2
   try clear hcz17_3
   try clear hcz26_0
   try clear hcz26_1
   try clear hcz29_0
   try clear hcz29_1
   try clear hcz29_2
   try clear hcz29_3
   try clear hcz32_0
   try clear hcz32_1
   try clear hcz34_0
   try clear hcz34_1
   try clear hcz34_2
   try clear hcz34_3
   try clear hcz42_0
   try clear hcz42_1
   try clear hcz47_0
   try clear hcz47_1
   try clear hcz55_0
   try clear hcz55_1
   try clear hcz60_0
   try clear hcz60_1
   try clear hfz13_0
   try clear hfz13_1
   try clear hfz13_2
   try clear hfz13_3
   try clear hfz17_0
   try clear hfz17_1
   try clear hfz17_2
   try clear hfz17_3
   try clear hfz26_0
   try clear hfz26_1
   try clear hfz29_0
   try clear hfz29_1
   try clear hfz29_2
   try clear hfz29_3
   try clear hfz32_0
   try clear hfz32_1
   try clear hfz34_0
   try clear hfz34_1
   try clear hfz34_2
   try clear hfz34_3
   try clear hfz42_0
   try clear hfz42_1
   try clear hfz47_0
   try clear hfz47_1
   try clear hfz55_0
   try clear hfz55_1
   try clear hfz60_0
   try clear hfz60_1
   try clear p2
   obtain ⟨kq, x11_4, x12_4, x13_4, x14_4, x15_4, x526000_4, x526001_4, u526001, rfl, rfl, HA, HJ4, HO_1, HO_11, HO_14, HO_15, HO_517001, HO_526001, BK516, BK517, BK518, BK525, HB⟩ := hcut
   cases kq with
   | zero => exact absurd HA.1 (by simp [tegulalaw35_step.j1])
   | succ kj4 =>
    have H := HA.1
    clear HA
    simp only [tegulalaw35_step.j1] at H
    have HC63 := Aside0.mk H
    clear H
    go_upto_region 16 with (fail)
    go_cut [84] (fun v84 wc => ∃ (kq : Nat) (x84_62 : Bool), v84 = .bool x84_62 ∧ Aside0 (tegulalaw35_step.j2 kq l1 x11_4 x12_4 x84_62 a0_0 l0_1 x526000_4 x526001_4 = some (r1, r2, r3, r4)) ∧ Aside0 (kq ≤ kj4) ∧ Aside0 (Kd.V Kd.bool 4 wc w.heap.size (fun k_ => ((P0_1_ k_ ∨ P1_ k_) ∨ w.heap.size ≤ k_) ∧ some k_ ≠ (u11 : Value).ownBlock ∧ k_ ≠ gb516 ∧ k_ ≠ gb517 ∧ k_ ≠ gb518 ∧ k_ ≠ gb525) (.slice A1 l1.length c1) l1) ∧ Aside0 (Kd.R Kd.bool 4 wc w.heap.size (fun k_ => (w.heap.size ≤ k_)) u11 x11_4) ∧ Aside0 (Kd.V k53 53 wc w.heap.size (fun k_ => ((P0_1_ k_ ∨ P1_ k_) ∨ w.heap.size ≤ k_) ∧ some k_ ≠ (u11 : Value).ownBlock ∧ k_ ≠ gb516 ∧ k_ ≠ gb517 ∧ k_ ≠ gb518 ∧ k_ ≠ gb525) (.slice A0_1 l0_1.length c0_1) l0_1) ∧ Aside0 (Kd.V k53 53 wc w.heap.size (fun k_ => ((P0_1_ k_ ∨ P1_ k_) ∨ w.heap.size ≤ k_) ∧ some k_ ≠ (u11 : Value).ownBlock ∧ k_ ≠ gb516 ∧ k_ ≠ gb517 ∧ k_ ≠ gb518 ∧ k_ ≠ gb525) u526001 x526001_4) ∧ Aside0 (wc.heap[gb516]? = some (.cells #[.int .i64 a0_0, (.slice A0_1 l0_1.length c0_1)] 26 (0, 0))) ∧ Aside0 (wc.heap[gb517]? = some (.cells #[.int .u8 a2_0, .int .u8 a2_1, .int .u8 a2_2, (.slice A2_3 l2_3.length c2_3)] 57 (0, 0))) ∧ Aside0 (wc.heap[gb518]? = some (.cells #[.int .i64 0, (.slice none 0 0)] 26 (0, 0))) ∧ Aside0 (wc.heap[gb525]? = some (.cells #[.int .i64 x526000_4, u526001] 26 (0, 0))) ∧ Aside0 (Below w.heap.size w wc))
    case first =>
     have H := HC63.1
     clear HC63
     by_cases c64 : x12_4 = x13_4
     ·
      rw [if_pos c64] at H
      have c64b0 : (x12_4 == x13_4) = true := beq_iff_eq.mpr c64
      have c64b1 : (x12_4 != x13_4) = false := bne_eq_false_iff_eq.mpr c64
      clear c64
      (first | rw [c64b0] | (simp only [i64_w, i32_w]; rw [c64b0]) | skip)
      replace H := Option.bind_eq_some_iff.mp H
      obtain ⟨t559, A650, H⟩ := H
      replace H : (tegulalaw35_step.j2 kj4 l1 x11_4 x12_4 (!t559) a0_0 l0_1 x526000_4 x526001_4) = some (r1, r2, r3, r4) := H
      have A65 := Aside0.mk A650
      clear A650
      have H' := Aside0.mk H
      clear H
      obtain ⟨Ao66, co66, eo66⟩ := Kd.R_slice HO_14.1
      subst eo66
      obtain ⟨Ao67, co67, eo67⟩ := Kd.R_slice HO_15.1
      subst eo67
      go_wp2_with (first | (go_at_call 13; (with_reducible refine (tegularef32_Same.calls kj4 _ _ x14_4 _ _ x15_4 t559 _ ?side1 ?side2 ?side3 ?side4 A65.1).mono ?_); (case side1 => repeat (first | exact (Kd.R_reads' HO_14.1).2.2 | (with_reducible refine Kd.C_alloc ?_ _) | (with_reducible refine Kd.C_drewN ?_ _) | (with_reducible refine Kd.C_drew ?_))); (case side2 => exact (Kd.R_reads' HO_14.1).2.1); (case side3 => repeat (first | exact (Kd.R_reads' HO_15.1).2.2 | (with_reducible refine Kd.C_alloc ?_ _) | (with_reducible refine Kd.C_drewN ?_ _) | (with_reducible refine Kd.C_drew ?_))); (case side4 => exact (Kd.R_reads' HO_15.1).2.1); rintro e w' ⟨rfl, ⟨nd, rfl⟩⟩))
      go_meet
      case rel => exact ⟨_, (!t559), (by first | rfl | (simp; done) | (simp [*]; done)), H', ⟨by have := HJ4.1; first | omega | exact Nat.le_refl _⟩, ⟨vU (Kd.V_mono HO_1.1 (fun _ hk => ⟨hk.1, ⟨hk.2.1, ⟨hk.2.2.2.2.1, ⟨hk.2.2.2.2.2.1, ⟨hk.2.2.2.2.2.2.1, hk.2.2.2.2.2.2.2⟩⟩⟩⟩⟩))⟩, ⟨rU HO_11.1⟩, ⟨vU (Kd.V_mono HO_517001.1 (fun _ hk => ⟨hk.1, ⟨hk.2.1, ⟨hk.2.2.2.2.1, ⟨hk.2.2.2.2.2.1, ⟨hk.2.2.2.2.2.2.1, hk.2.2.2.2.2.2.2⟩⟩⟩⟩⟩))⟩, ⟨vU (Kd.V_mono HO_526001.1 (fun _ hk => ⟨hk.1, ⟨hk.2.1, ⟨hk.2.2.2.2.1, ⟨hk.2.2.2.2.2.1, ⟨hk.2.2.2.2.2.2.1, hk.2.2.2.2.2.2.2⟩⟩⟩⟩⟩))⟩, ⟨by refine kP ?_; exact BK516.1⟩, ⟨by refine kP ?_; exact BK517.1⟩, ⟨by refine kP ?_; exact BK518.1⟩, ⟨by refine kP ?_; exact BK525.1⟩, ⟨bS HB.1⟩⟩
     ·
      rw [if_neg c64] at H
      have c64b0 : (x12_4 == x13_4) = false := beq_eq_false_iff_ne.mpr c64
      have c64b1 : (x12_4 != x13_4) = true := bne_iff_ne.mpr c64
      (first | rw [c64b0] | (simp only [i64_w, i32_w]; rw [c64b0]) | skip)
      have H' := Aside0.mk H
      clear H
      go_wp2
      go_meet
      case rel => exact ⟨_, (true), (by first | rfl | (simp; done) | (simp [*]; done)), H', ⟨by have := HJ4.1; first | omega | exact Nat.le_refl _⟩, ⟨vU (Kd.V_mono HO_1.1 (fun _ hk => ⟨hk.1, ⟨hk.2.1, ⟨hk.2.2.2.2.1, ⟨hk.2.2.2.2.2.1, ⟨hk.2.2.2.2.2.2.1, hk.2.2.2.2.2.2.2⟩⟩⟩⟩⟩))⟩, ⟨rU HO_11.1⟩, ⟨vU (Kd.V_mono HO_517001.1 (fun _ hk => ⟨hk.1, ⟨hk.2.1, ⟨hk.2.2.2.2.1, ⟨hk.2.2.2.2.2.1, ⟨hk.2.2.2.2.2.2.1, hk.2.2.2.2.2.2.2⟩⟩⟩⟩⟩))⟩, ⟨vU (Kd.V_mono HO_526001.1 (fun _ hk => ⟨hk.1, ⟨hk.2.1, ⟨hk.2.2.2.2.1, ⟨hk.2.2.2.2.2.1, ⟨hk.2.2.2.2.2.2.1, hk.2.2.2.2.2.2.2⟩⟩⟩⟩⟩))⟩, ⟨by refine kP ?_; exact BK516.1⟩, ⟨by refine kP ?_; exact BK517.1⟩, ⟨by refine kP ?_; exact BK518.1⟩, ⟨by refine kP ?_; exact BK525.1⟩, ⟨bS HB.1⟩⟩
    case rest =>
     clear HC63
     try clear c1
     try clear c2
     try clear p2
     try clear c3
     try clear c4
     try clear c5
     try clear c6
     try clear p6
     try clear c11
     try clear c12
     try clear c16
     try clear c19
     try clear c19b0
     try clear c19b1
     try clear c20
     try clear c22
     try clear c23
     try clear c24
     try clear c25
     try clear c26
     try clear c27
     try clear c28
     try clear c31
     try clear c36
     try clear c36b0
     try clear c36b1
     try clear c39
     try clear c40
     try clear c41
     try clear c45
     try clear c46
     try clear c52
     try clear c53
     try clear c54
     try clear c58
     try clear c59
     try clear c64
     try clear c64b0
     try clear c64b1
     try clear p64
     try clear hcz13_0
     try clear hcz13_1
     try clear hcz13_2
     try clear hcz13_3
     try clear hcz17_0
     try clear hcz17_1
     try clear hcz17_2
     try clear hcz17_3
     try clear hcz26_0
     try clear hcz26_1
     try clear hcz29_0
     try clear hcz29_1
     try clear hcz29_2
     try clear hcz29_3
     try clear hcz32_0
     try clear hcz32_1
     try clear hcz34_0
     try clear hcz34_1
     try clear hcz34_2
     try clear hcz34_3
     try clear hcz42_0
     try clear hcz42_1
     try clear hcz47_0
     try clear hcz47_1
     try clear hcz55_0
     try clear hcz55_1
     try clear hcz60_0
     try clear hcz60_1
     try clear hfz13_0
     try clear hfz13_1
     try clear hfz13_2
     try clear hfz13_3
     try clear hfz17_0
     try clear hfz17_1
     try clear hfz17_2
     try clear hfz17_3
     try clear hfz26_0
     try clear hfz26_1
     try clear hfz29_0
     try clear hfz29_1
     try clear hfz29_2
     try clear hfz29_3
     try clear hfz32_0
     try clear hfz32_1
     try clear hfz34_0
     try clear hfz34_1
     try clear hfz34_2
     try clear hfz34_3
     try clear hfz42_0
     try clear hfz42_1
     try clear hfz47_0
     try clear hfz47_1
     try clear hfz55_0
     try clear hfz55_1
     try clear hfz60_0
     try clear hfz60_1
     try clear p2
     try clear p6
     obtain ⟨kq, x84_62, rfl, HA, HJ62, HO_1, HO_11, HO_517001, HO_526001, BK516, BK517, BK518, BK525, HB⟩ := hcut
     cases kq with
     | zero => exact absurd HA.1 (by simp [tegulalaw35_step.j2])
     | succ kj62 =>
      have H := HA.1
      clear HA
      simp only [tegulalaw35_step.j2] at H
      by_cases c68 : x84_62 = true
      ·
       subst c68
       have H1 : (some (a0_0, l0_1, l1, false)) = some (r1, r2, r3, r4) := by rw [if_pos rfl] at H; exact H
       clear H
       have H := H1
       clear H1
       simp only [Option.some.injEq, Prod.mk.injEq] at H
       obtain ⟨rfl, rfl, rfl, rfl⟩ := H
       have hnb69 := NB516_517.1
       have hnc69 := NB517_516.1
       have hnb70 := NB516_518.1
       have hnc70 := NB518_516.1
       have hnb71 := NB516_525.1
       have hnc71 := NB525_516.1
       have hcz72_0 : wc.cell? ⟨gb516, 0, none⟩ = some (.int .i64 a0_0) := cC BK516 0
       have hcz72_1 : wc.cell? ⟨gb516, 1, none⟩ = some (.slice A0_1 l0_1.length c0_1) := cC BK516 1
       have hfz72_0 := fC BK516 0
       have hfz72_1 := fC BK516 1
       have hnb73 := NB518_517.1
       have hnc73 := NB517_518.1
       have hnb74 := NB518_525.1
       have hnc74 := NB525_518.1
       have hcz75_0 : wc.cell? ⟨gb518, 0, none⟩ = some (.int .i64 0) := cC BK518 0
       have hcz75_1 : wc.cell? ⟨gb518, 1, none⟩ = some (.slice none 0 0) := cC BK518 1
       have hfz75_0 := fC BK518 0
       have hfz75_1 := fC BK518 1
       go_wp2
       refine bodyPost_ret (results_ctt rfl _ _ gb518 26 #[.int .i64 a0_0, .slice A0_1 l0_1.length c0_1] (0, 0) _ rfl (by refine kP ?_; refine blk_put (cs := #[.int .i64 a0_0, .slice none 0 0]) ?_ 1 _ rfl; refine kP ?_; refine blk_put (cs := #[.int .i64 0, .slice none 0 0]) ?_ 0 _ rfl; refine kP ?_; exact BK518.1) Try.underlying26 rfl (by kernel_rfl)) rfl ?_
       exact ⟨_, _, fT, vU (Kd.V_mono (Kd.V_far (p := ⟨gb518, 1, none⟩) (Kd.V_far (p := ⟨gb518, 0, none⟩) (Kd.V_mono HO_517001.1 (fun k_ hk => (⟨hk, hk.2.2.2.2.1⟩ : _ ∧ k_ ≠ gb518))) (fun _ hk => hk.2) (.int .i64 a0_0)) (fun _ hk => hk.2) (.slice A0_1 l0_1.length c0_1)) (fun _ hk => hk.1.1)), vU (Kd.V_mono (Kd.V_far (p := ⟨gb518, 1, none⟩) (Kd.V_far (p := ⟨gb518, 0, none⟩) (Kd.V_mono HO_1.1 (fun k_ hk => (⟨hk, hk.2.2.2.2.1⟩ : _ ∧ k_ ≠ gb518))) (fun _ hk => hk.2) (.int .i64 a0_0)) (fun _ hk => hk.2) (.slice A0_1 l0_1.length c0_1)) (fun _ hk => hk.1.1)), bS HB.1⟩
      ·
       replace c68 := Bool.eq_false_iff.mpr c68
       subst c68
       have H1 : (if x12_4 = 0 then (some (x526000_4, x526001_4, x11_4, true)) else (some (a0_0, l0_1, l1, true))) = some (r1, r2, r3, r4) := by rw [if_neg (show ¬ (false = true) by decide)] at H; exact H
       clear H
       have H := H1
       clear H1
       by_cases c76 : x12_4 = 0
       ·
        rw [if_pos c76] at H
        have c76b0 : (x12_4 == 0) = true := beq_iff_eq.mpr c76
        have c76b1 : (x12_4 != 0) = false := bne_eq_false_iff_eq.mpr c76
        clear c76
        simp only [Option.some.injEq, Prod.mk.injEq] at H
        obtain ⟨rfl, rfl, rfl, rfl⟩ := H
        have hnb77 := NB525_516.1
        have hnc77 := NB516_525.1
        have hnb78 := NB525_517.1
        have hnc78 := NB517_525.1
        have hnb79 := NB525_518.1
        have hnc79 := NB518_525.1
        have hcz80_0 : wc.cell? ⟨gb525, 0, none⟩ = some (.int .i64 x526000_4) := cC BK525 0
        have hcz80_1 : wc.cell? ⟨gb525, 1, none⟩ = some (u526001) := cC BK525 1
        have hfz80_0 := fC BK525 0
        have hfz80_1 := fC BK525 1
        have hnb81 := NB518_516.1
        have hnc81 := NB516_518.1
        have hnb82 := NB518_517.1
        have hnc82 := NB517_518.1
        have hcz83_0 : wc.cell? ⟨gb518, 0, none⟩ = some (.int .i64 0) := cC BK518 0
        have hcz83_1 : wc.cell? ⟨gb518, 1, none⟩ = some (.slice none 0 0) := cC BK518 1
        have hfz83_0 := fC BK518 0
        have hfz83_1 := fC BK518 1
        obtain ⟨Ao84, co84, eo84⟩ := Kd.V_slice HO_526001.1
        subst eo84
        go_wp2
        refine bodyPost_ret (results_ctt rfl _ _ gb518 26 #[.int .i64 x526000_4, .slice Ao84 x526001_4.length co84] (0, 0) _ rfl (by refine kP ?_; refine blk_put (cs := #[.int .i64 x526000_4, .slice none 0 0]) ?_ 1 _ rfl; refine kP ?_; refine blk_put (cs := #[.int .i64 0, .slice none 0 0]) ?_ 0 _ rfl; refine kP ?_; exact BK518.1) Try.underlying26 rfl (by kernel_rfl)) rfl ?_
        exact ⟨_, _, fT, vU (Kd.V_mono (Kd.V_far (p := ⟨gb518, 1, none⟩) (Kd.V_far (p := ⟨gb518, 0, none⟩) (Kd.V_mono HO_526001.1 (fun k_ hk => (⟨hk, hk.2.2.2.2.1⟩ : _ ∧ k_ ≠ gb518))) (fun _ hk => hk.2) (.int .i64 x526000_4)) (fun _ hk => hk.2) (.slice Ao84 x526001_4.length co84)) (fun _ hk => hk.1.1)), Kd.V_mono (Kd.R_V (rU (Kd.R_mono (Kd.R_far (p := ⟨gb518, 1, none⟩) (Kd.R_far (p := ⟨gb518, 0, none⟩) (Kd.R_types HO_11.1 BK518.1 (by decide)) (fun _ hk => hk.2) (.int .i64 x526000_4)) (fun _ hk => hk.2) (.slice Ao84 x526001_4.length co84)) (fun _ hk => hk.1)))) (fun k_ hk => by first | exact ⟨(.inr (hk.1)), hk.2⟩ | exact (.inr (hk))), bS HB.1⟩
       ·
        rw [if_neg c76] at H
        have c76b0 : (x12_4 == 0) = false := beq_eq_false_iff_ne.mpr c76
        have c76b1 : (x12_4 != 0) = true := bne_iff_ne.mpr c76
        simp only [Option.some.injEq, Prod.mk.injEq] at H
        obtain ⟨rfl, rfl, rfl, rfl⟩ := H
        have hnb85 := NB516_517.1
        have hnc85 := NB517_516.1
        have hnb86 := NB516_518.1
        have hnc86 := NB518_516.1
        have hnb87 := NB516_525.1
        have hnc87 := NB525_516.1
        have hcz88_0 : wc.cell? ⟨gb516, 0, none⟩ = some (.int .i64 a0_0) := cC BK516 0
        have hcz88_1 : wc.cell? ⟨gb516, 1, none⟩ = some (.slice A0_1 l0_1.length c0_1) := cC BK516 1
        have hfz88_0 := fC BK516 0
        have hfz88_1 := fC BK516 1
        have hnb89 := NB518_517.1
        have hnc89 := NB517_518.1
        have hnb90 := NB518_525.1
        have hnc90 := NB525_518.1
        have hcz91_0 : wc.cell? ⟨gb518, 0, none⟩ = some (.int .i64 0) := cC BK518 0
        have hcz91_1 : wc.cell? ⟨gb518, 1, none⟩ = some (.slice none 0 0) := cC BK518 1
        have hfz91_0 := fC BK518 0
        have hfz91_1 := fC BK518 1
        go_wp2
        refine bodyPost_ret (results_ctt rfl _ _ gb518 26 #[.int .i64 a0_0, .slice A0_1 l0_1.length c0_1] (0, 0) _ rfl (by refine kP ?_; refine blk_put (cs := #[.int .i64 a0_0, .slice none 0 0]) ?_ 1 _ rfl; refine kP ?_; refine blk_put (cs := #[.int .i64 0, .slice none 0 0]) ?_ 0 _ rfl; refine kP ?_; exact BK518.1) Try.underlying26 rfl (by kernel_rfl)) rfl ?_
        exact ⟨_, _, fT, vU (Kd.V_mono (Kd.V_far (p := ⟨gb518, 1, none⟩) (Kd.V_far (p := ⟨gb518, 0, none⟩) (Kd.V_mono HO_517001.1 (fun k_ hk => (⟨hk, hk.2.2.2.2.1⟩ : _ ∧ k_ ≠ gb518))) (fun _ hk => hk.2) (.int .i64 a0_0)) (fun _ hk => hk.2) (.slice A0_1 l0_1.length c0_1)) (fun _ hk => hk.1.1)), vU (Kd.V_mono (Kd.V_far (p := ⟨gb518, 1, none⟩) (Kd.V_far (p := ⟨gb518, 0, none⟩) (Kd.V_mono HO_1.1 (fun k_ hk => (⟨hk, hk.2.2.2.2.1⟩ : _ ∧ k_ ≠ gb518))) (fun _ hk => hk.2) (.int .i64 a0_0)) (fun _ hk => hk.2) (.slice A0_1 l0_1.length c0_1)) (fun _ hk => hk.1.1)), bS HB.1⟩
 ·
  rw [if_neg c4] at H
  exact absurd H (by simp)

/-! ### tegularef35_New: function 37 -/
def tegularef35_New.f (a0 : Int) : Option (List Bool × Int) := if a0 < 0 then (some (([] : List Bool), 1)) else (if a0 > 65536 then (some (([] : List Bool), 1)) else (if 0 ≤ a0 then (if (a0 : Int).toNat ≤ 281474976710656 then (some ((List.replicate (a0 : Int).toNat false), 0)) else (none)) else (none)))
set_option maxHeartbeats 8000000 in
set_option maxRecDepth 100000 in
theorem tegularef35_New.calls (a0 : Int) (r1 : List Bool) (r2 : Int) (w : World) (h : tegularef35_New.f a0 = some (r1, r2)) :
  Calls Try.prog 37 #[.int .i64 a0] w fun e w' => ∃ v0_ : Value, e = .returned (.tuple #[v0_, .int .i64 r2]) ∧ Kd.R Kd.bool 4 w' w.heap.size (fun _ => True) v0_ r1 ∧ Below w.heap.size w w' := by
 have HB := Aa (Below.refl w.heap.size w)
 have H : (if a0 < 0 then (some (([] : List Bool), 1)) else (if a0 > 65536 then (some (([] : List Bool), 1)) else (if 0 ≤ a0 then (if (a0 : Int).toNat ≤ 281474976710656 then (some ((List.replicate (a0 : Int).toNat false), 0)) else (none)) else (none)))) = some (r1, r2) := h
 clear h
 by_cases c2 : a0 < 0
 ·
  rw [if_pos c2] at H
  have c2b0 := decide_eq_true c2
  clear c2
  simp only [Option.some.injEq, Prod.mk.injEq] at H
  obtain ⟨rfl, rfl⟩ := H
  go_enter Try.func37, Try.ntmps37
  go_wp2
  go_ret2
  exact ⟨_, fT, by first | exact Kd.R_nil _ _ _ _ _ | exact Kd.N_nil _ _ _ _ _ | exact Kd.V_nil _ _ _ _ _ | exact Kd.Q_nil _ _ _ _ _ | exact Kd.S_nil _ _ _ _ _, bU HB.1⟩
 ·
  rw [if_neg c2] at H
  have c2b0 := decide_eq_false c2
  clear c2
  by_cases c3 : a0 > 65536
  ·
   rw [if_pos c3] at H
   have c3b0 := decide_eq_true c3
   clear c3
   simp only [Option.some.injEq, Prod.mk.injEq] at H
   obtain ⟨rfl, rfl⟩ := H
   go_enter Try.func37, Try.ntmps37
   go_wp2
   go_ret2
   exact ⟨_, fT, by first | exact Kd.R_nil _ _ _ _ _ | exact Kd.N_nil _ _ _ _ _ | exact Kd.V_nil _ _ _ _ _ | exact Kd.Q_nil _ _ _ _ _ | exact Kd.S_nil _ _ _ _ _, bU HB.1⟩
  ·
   rw [if_neg c3] at H
   have c3b0 := decide_eq_false c3
   clear c3
   by_cases c4 : 0 ≤ a0
   ·
    rw [if_pos c4] at H
    have c4b0 := eq_true c4
    have c4b1 := decide_eq_true c4
    clear c4
    by_cases c5 : (a0 : Int).toNat ≤ 281474976710656
    ·
     rw [if_pos c5] at H
     have c5b0 := eq_true c5
     have c5b1 := decide_eq_true c5
     clear c5
     obtain ⟨y560, hy560⟩ : ∃ y_ : List Bool, y_ = (List.replicate (a0 : Int).toNat false) := ⟨_, rfl⟩
     replace H : (some (y560, 0)) = some (r1, r2) := by first | (rw [hy560]; exact H) | exact H
     have Ny560 := Aside0.mk hy560
     clear hy560
     simp only [Option.some.injEq, Prod.mk.injEq] at H
     obtain ⟨rfl, rfl⟩ := H
     go_enter Try.func37, Try.ntmps37
     go_wp2_with (first | ((with_reducible refine gD 11 ?_); refine Kd.R_make Kd.bool _ 4 rfl (N := 11) rfl 42 _ _ rfl a0 rfl rfl Try.underlying42 (.bool false) 1 info4 rfl (by decide) (by omega) false (ok := fun _ => True) (okp := fun _ => True) rfl (fun _ hk => hk) trivial (dT) (Nat.le_trans (Nat.mul_le_mul_right _ (dT : a0.toNat ≤ 281474976710656)) (by omega)) (Below.refl _ _) (Nat.le_refl _) ?_; intro v561 w6 ho7 hb hg_ hnew_; clear hg_ hnew_; (first | rw [← Ny560.1] at ho7 | (simp only [Int.reduceToNat] at ho7; rw [← Ny560.1] at ho7)); have HO562 := Aa (Kd.R_lower ho7 (below_size (bU HB.1))); replace HB := sU HB hb; clear hb ho7))
     go_ret2
     exact ⟨_, fT, rU HO562.1, bU HB.1⟩
    ·
     rw [if_neg c5] at H
     exact absurd H (by simp)
   ·
    rw [if_neg c4] at H
    exact absurd H (by simp)

end Go.Proofs.Ytcjpikjbjehjeaa.PAllocB
