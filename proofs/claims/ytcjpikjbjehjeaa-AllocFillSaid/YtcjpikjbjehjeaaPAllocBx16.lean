-- Written for this claim by a program of this session (wip/), out of the translation's own print: Lean checks it
import Derived.Test.YtcjpikjbjehjeaaPAllocBx0
import Derived.Test.YtcjpikjbjehjeaaWGuard
namespace Go.Proofs.Ytcjpikjbjehjeaa.PAllocB
open Go.RowKit Go.Proofs.YtcjpikjbjehjeaaW.PrintWords Go.Proofs.YtcjpikjbjehjeaaW.PrintLast Go.Proofs.YtcjpikjbjehjeaaW.PrintMore
attribute [local go_sem] max2_int min2_int max_two min_two max_three min_three max_four min_four   -- for this text's walks alone
set_option linter.unusedVariables false
set_option linter.unusedSimpArgs false

/-! ### tegularef35_Map_change: function 54 -/
mutual
def tegularef35_Map_change.l0 : Nat → List Bool → List (S53) → Bool → List Bool → List Bool → Int → Option (List Bool × Int)
 | 0, _, _, _, _, _, _ => none
 | k + 1, x0, x1, x2, x8, x9, x10 => if x10 < (x1.length : Int) then (if 0 ≤ x10 then (if ((rd_T53 x1 x10).f1) < 1 then (tegularef35_Map_change.j1 k x0 x1 x2 x8 x9 x10 true) else (if ((rd_T53 x1 x10).f2) < 0 then (tegularef35_Map_change.j1 k x0 x1 x2 x8 x9 x10 true) else (if ((rd_T53 x1 x10).f2) ≥ (x0.length : Int) then (tegularef35_Map_change.j1 k x0 x1 x2 x8 x9 x10 true) else (tegularef35_Map_change.j1 k x0 x1 x2 x8 x9 x10 (decide (((rd_T53 x1 x10).f1) > (wrap64 ((x0.length : Int) - ((rd_T53 x1 x10).f2))))))))) else (none)) else (tegularef35_Map_change.l2 k x0 x2 x8 x9 0)
def tegularef35_Map_change.j1 : Nat → List Bool → List (S53) → Bool → List Bool → List Bool → Int → Bool → Option (List Bool × Int)
 | 0, _, _, _, _, _, _, _ => none
 | k + 1, x0, x1, x2, x8, x9, x10, x64 => if x64 = true then (some (([] : List Bool), 2)) else (if 0 ≤ x10 then (if x10 < (x1.length : Int) then (tegularef35_Map_change.l1 k x0 x1 x2 x8 x9 x10 ((rd_T53 x1 x10).f2)) else (none)) else (none))
def tegularef35_Map_change.l1 : Nat → List Bool → List (S53) → Bool → List Bool → List Bool → Int → Int → Option (List Bool × Int)
 | 0, _, _, _, _, _, _, _ => none
 | k + 1, x0, x1, x2, x8, x9, x10, x11 => if 0 ≤ x10 then (if x10 < (x1.length : Int) then (if x11 < (wrap64 (((rd_T53 x1 x10).f2) + ((rd_T53 x1 x10).f1))) then (if 0 ≤ x11 then (if x11 < (x9.length : Int) then (if rdOf false x9 x11 = true then (some (([] : List Bool), 2)) else (tegularef35_Map_change.l1 k x0 x1 x2 x8 (x9.set (x11 : Int).toNat true) x10 (wrap64 (x11 + 1)))) else (none)) else (none)) else (tegularef35_Map_change.l0 k x0 x1 x2 x8 x9 (wrap64 (x10 + 1)))) else (none)) else (none)
def tegularef35_Map_change.l2 : Nat → List Bool → Bool → List Bool → List Bool → Int → Option (List Bool × Int)
 | 0, _, _, _, _, _ => none
 | k + 1, x0, x2, x8, x9, x12 => if x12 < (x0.length : Int) then (if 0 ≤ x12 then (if x12 < (x9.length : Int) then (if rdOf false x9 x12 = true then (if ((rdOf false x0 x12) == x2) = true then (some (([] : List Bool), 8)) else (if x12 < (x8.length : Int) then (tegularef35_Map_change.l2 k x0 x2 (x8.set (x12 : Int).toNat x2) x9 (wrap64 (x12 + 1))) else (none))) else (tegularef35_Map_change.l2 k x0 x2 x8 x9 (wrap64 (x12 + 1)))) else (none)) else (none)) else (some (x8, 0))
end
def tegularef35_Map_change.f (k : Nat) (l0 : List Bool) (l1 : List (S53)) (a2 : Bool) : Option (List Bool × Int) := (some (([] : List Bool) : List Bool)).bind fun y452 => (if y452.length + l0.length < 140737488355328 then (if 0 ≤ (l0.length : Int) then (if ((l0.length : Int) : Int).toNat ≤ 281474976710656 then (tegularef35_Map_change.l0 k l0 l1 a2 (y452 ++ l0) (List.replicate ((l0.length : Int) : Int).toNat false) 0) else (none)) else (none)) else (none))
theorem tegularef35_Map_change.mono_l : ∀ k, (∀ y0 y1 y2 y3 y4 y5, LeO (tegularef35_Map_change.l0 k y0 y1 y2 y3 y4 y5) (tegularef35_Map_change.l0 (k + 1) y0 y1 y2 y3 y4 y5)) ∧ (∀ y0 y1 y2 y3 y4 y5 y6, LeO (tegularef35_Map_change.j1 k y0 y1 y2 y3 y4 y5 y6) (tegularef35_Map_change.j1 (k + 1) y0 y1 y2 y3 y4 y5 y6)) ∧ (∀ y0 y1 y2 y3 y4 y5 y6, LeO (tegularef35_Map_change.l1 k y0 y1 y2 y3 y4 y5 y6) (tegularef35_Map_change.l1 (k + 1) y0 y1 y2 y3 y4 y5 y6)) ∧ (∀ y0 y1 y2 y3 y4, LeO (tegularef35_Map_change.l2 k y0 y1 y2 y3 y4) (tegularef35_Map_change.l2 (k + 1) y0 y1 y2 y3 y4))
 | 0 => ⟨fun _ _ _ _ _ _ r h => by simp [tegularef35_Map_change.l0] at h, fun _ _ _ _ _ _ _ r h => by simp [tegularef35_Map_change.j1] at h, fun _ _ _ _ _ _ _ r h => by simp [tegularef35_Map_change.l1] at h, fun _ _ _ _ _ r h => by simp [tegularef35_Map_change.l2] at h⟩
 | k + 1 => by
  obtain ⟨ih0, ih1, ih2, ih3⟩ := tegularef35_Map_change.mono_l k
  refine ⟨?_, ?_, ?_, ?_⟩
  all_goals (intros; (first | unfold tegularef35_Map_change.l0 | unfold tegularef35_Map_change.j1 | unfold tegularef35_Map_change.l1 | unfold tegularef35_Map_change.l2))
  all_goals repeat' first
  | (with_reducible exact ih0 _ _ _ _ _ _)
  | (with_reducible exact ih1 _ _ _ _ _ _ _)
  | (with_reducible exact ih2 _ _ _ _ _ _ _)
  | (with_reducible exact ih3 _ _ _ _ _)
  | (with_reducible exact LeO.refl _)
  | (with_reducible exact LeO.none _)
  | (with_reducible refine LeO.ite ?_ ?_)
  | (with_reducible refine LeO.bind ?_ (fun _ => ?_))
  | exact ih0 _ _ _ _ _ _
  | exact ih1 _ _ _ _ _ _ _
  | exact ih2 _ _ _ _ _ _ _
  | exact ih3 _ _ _ _ _
  | exact LeO.none _
  | refine LeO.ite ?_ ?_
  | refine LeO.bind ?_ (fun _ => ?_)
theorem tegularef35_Map_change.mono : ∀ a0 a1 a2 k, LeO (tegularef35_Map_change.f k a0 a1 a2) (tegularef35_Map_change.f (k + 1) a0 a1 a2) := by
 intro a0 a1 a2 k
 obtain ⟨ih0, ih1, ih2, ih3⟩ := tegularef35_Map_change.mono_l k
 unfold tegularef35_Map_change.f
 repeat' first
   | (with_reducible exact ih0 _ _ _ _ _ _)
   | (with_reducible exact ih1 _ _ _ _ _ _ _)
   | (with_reducible exact ih2 _ _ _ _ _ _ _)
   | (with_reducible exact ih3 _ _ _ _ _)
   | (with_reducible exact LeO.refl _)
   | (with_reducible exact LeO.none _)
   | (with_reducible refine LeO.ite ?_ ?_)
   | (with_reducible refine LeO.bind ?_ (fun _ => ?_))
   | exact ih0 _ _ _ _ _ _
   | exact ih1 _ _ _ _ _ _ _
   | exact ih2 _ _ _ _ _ _ _
   | exact ih3 _ _ _ _ _
   | exact LeO.none _
   | refine LeO.ite ?_ ?_
   | refine LeO.bind ?_ (fun _ => ?_)
set_option maxHeartbeats 8000000 in
set_option maxRecDepth 100000 in
theorem tegularef35_Map_change.calls (k : Nat) (A0 : Option Addr) (c0 : Nat) (l0 : List Bool) (A1 : Option Addr) (c1 : Nat) (l1 : List (S53)) (a2 : Bool) (r1 : List Bool) (r2 : Int) (w : World) (hr0 : Kd.C Kd.bool w A0 l0.length l0) (hc0 : l0.length ≤ c0) (hr1 : Kd.C k53 w A1 l1.length l1) (hc1 : l1.length ≤ c1) (h : tegularef35_Map_change.f k l0 l1 a2 = some (r1, r2)) :
  Calls Try.prog 54 #[.slice A0 l0.length c0, .slice A1 l1.length c1, .bool a2] w fun e w' => ∃ v0_ : Value, e = .returned (.tuple #[v0_, .int .i64 r2]) ∧ Kd.R Kd.bool 4 w' w.heap.size (fun _ => True) v0_ r1 ∧ Below w.heap.size w w' := by
 have HR0 := Aside0.mk hr0
 have HC0 := Aside0.mk hc0
 clear hr0 hc0
 have HR1 := Aside0.mk hr1
 have HC1 := Aside0.mk hc1
 clear hr1 hc1
 have HB := Aa (Below.refl w.heap.size w)
 have H : ((some (([] : List Bool) : List Bool)).bind fun y452 => (if y452.length + l0.length < 140737488355328 then (if 0 ≤ (l0.length : Int) then (if ((l0.length : Int) : Int).toNat ≤ 281474976710656 then (tegularef35_Map_change.l0 k l0 l1 a2 (y452 ++ l0) (List.replicate ((l0.length : Int) : Int).toNat false) 0) else (none)) else (none)) else (none))) = some (r1, r2) := h
 clear h
 obtain ⟨y452, hy452⟩ : ∃ y_ : List Bool, y_ = (([] : List Bool)) := ⟨_, rfl⟩
 replace H : (if y452.length + l0.length < 140737488355328 then (if 0 ≤ (l0.length : Int) then (if ((l0.length : Int) : Int).toNat ≤ 281474976710656 then (tegularef35_Map_change.l0 k l0 l1 a2 (y452 ++ l0) (List.replicate ((l0.length : Int) : Int).toNat false) 0) else (none)) else (none)) else (none)) = some (r1, r2) := by first | (rw [hy452]; exact H) | exact H
 have Ny452 := Aside0.mk hy452
 clear hy452
 by_cases c4 : y452.length + l0.length < 140737488355328
 ·
  rw [if_pos c4] at H
  have LMc4 := Aside0.mk c4
  clear c4
  obtain ⟨y455, hy455⟩ : ∃ y_ : List Bool, y_ = (y452 ++ l0) := ⟨_, rfl⟩
  replace H : (if 0 ≤ (l0.length : Int) then (if ((l0.length : Int) : Int).toNat ≤ 281474976710656 then (tegularef35_Map_change.l0 k l0 l1 a2 y455 (List.replicate ((l0.length : Int) : Int).toNat false) 0) else (none)) else (none)) = some (r1, r2) := by first | (rw [hy455]; exact H) | exact H
  have Ny455 := Aside0.mk hy455
  clear hy455
  by_cases c5 : 0 ≤ (l0.length : Int)
  ·
   rw [if_pos c5] at H
   have c5b0 := eq_true c5
   have c5b1 := decide_eq_true c5
   clear c5
   by_cases c6 : ((l0.length : Int) : Int).toNat ≤ 281474976710656
   ·
    rw [if_pos c6] at H
    have c6b0 := eq_true c6
    have c6b1 := decide_eq_true c6
    clear c6
    obtain ⟨y458, hy458⟩ : ∃ y_ : List Bool, y_ = (List.replicate ((l0.length : Int) : Int).toNat false) := ⟨_, rfl⟩
    replace H : (tegularef35_Map_change.l0 k l0 l1 a2 y455 y458 0) = some (r1, r2) := by first | (rw [hy458]; exact H) | exact H
    have Ny458 := Aside0.mk hy458
    clear hy458
    have H' := Aside0.mk H
    clear H
    go_enter Try.func54, Try.ntmps54
    go_wp2_with (first | ((with_reducible refine gD 13 ?_); (try (refine gate_guard (by rfl) ?_; dsimp only)); refine Kd.R_lit Kd.bool _ 4 ?hg (N := 13) ?hd (xs := ([] : List Bool)) (inner := []) (ok := fun _ => True) (okp := fun _ => True) ?hr ?hp (fun _ hk => hk) trivial (Below.refl _ _) (Nat.le_refl _) (by simp) ?_; (case hd => rfl); (case hg => rfl); (case hr => first | (go_simp; done) | (go_simp; rfl)); (case hp => exact (Reps.none _ _)); intro v453 w7 ho8 hb hg_ hnew_; clear hg_ hnew_; (first | rw [← Ny452.1] at ho8 | (simp only [Int.reduceToNat] at ho8; rw [← Ny452.1] at ho8)); have HO454 := Aa (Kd.R_lower ho8 (below_size (bU HB.1))); replace HB := sU HB hb; clear hb ho8) | ((with_reducible refine gate_builtin (b := .append) (xs := #[.tmp 13, .tmp 14]) rfl ?_); (try (refine gate_guard (by rfl) ?_; dsimp only)); at_builtin; refine Kd.R_append_rows Kd.bool (w0 := w) w.heap.size rfl (.tmp 13) (.tmp 14) 42 4 (.bool false) 1 rfl Try.underlying42 info4 rfl (by decide) (by omega) v453 y452 l0 _ _ _ (fun _ => True) (fun _ => False) rfl rfl ?aO ?aR (fun _ _ h => h) (fun _ h => h.elim) ?aF ?aB ?aS ?aL ?_; (case aR => repeat (first | exact (Kd.C_below HR0.1 HB.1) | (with_reducible refine Kd.C_alloc ?_ _) | (with_reducible refine Kd.C_drewN ?_ _) | (with_reducible refine Kd.C_drew ?_))); (case aB => exact (bU HB.1)); (case aF => exact (fun _ _ => trivial)); (case aO => exact (rU HO454.1)); (case aS => exact (below_size (bU HB.1))); (case aL => have := LMc4.1; omega); intro v456 w9 ho hb hg hat; rw [← Ny455.1] at ho; have n0_ := Aa (hb); have n1_ := Aa (ho); clear HB; clear HO454; have HB := n0_; have HO457 := n1_; clear n0_ n1_; clear ho hb hg hat) | ((with_reducible refine gD 18 ?_); (try (refine gate_guard (by rfl) ?_; dsimp only)); refine Kd.R_make Kd.bool _ 4 rfl (N := 18) rfl 41 _ _ rfl (l0.length : Int) rfl rfl Try.underlying41 (.bool false) 1 info4 rfl (by decide) (by omega) false (ok := fun _ => True) (okp := fun _ => True) rfl (fun _ hk => hk) trivial (dT) (Nat.le_trans (Nat.mul_le_mul_right _ (dT : (l0.length : Int).toNat ≤ 281474976710656)) (by omega)) (Below.refl _ _) (Nat.le_refl _) ?_; intro v459 w10 ho11 hb hg_ hnew_; clear hg_ hnew_; (first | rw [← Ny458.1] at ho11 | (simp only [Int.reduceToNat] at ho11; rw [← Ny458.1] at ho11)); have HO460 := Aa (Kd.R_lower (Kd.R_new' ho11 (Kd.R_lt (rU HO457.1))) (below_size (bU HB.1))); replace HO457 := rE HO457 ho11 hb; replace HB := sU HB hb; clear hb ho11))
    repeat (go_quiet (first | ((with_reducible refine gD 13 ?_); (try (refine gate_guard (by rfl) ?_; dsimp only)); refine Kd.R_lit Kd.bool _ 4 ?hg (N := 13) ?hd (xs := ([] : List Bool)) (inner := []) (ok := fun _ => True) (okp := fun _ => True) ?hr ?hp (fun _ hk => hk) trivial (Below.refl _ _) (Nat.le_refl _) (by simp) ?_; (case hd => rfl); (case hg => rfl); (case hr => first | (go_simp; done) | (go_simp; rfl)); (case hp => exact (Reps.none _ _)); intro v453 w7 ho8 hb hg_ hnew_; clear hg_ hnew_; (first | rw [← Ny452.1] at ho8 | (simp only [Int.reduceToNat] at ho8; rw [← Ny452.1] at ho8)); have HO454 := Aa (Kd.R_lower ho8 (below_size (bU HB.1))); replace HB := sU HB hb; clear hb ho8) | ((with_reducible refine gate_builtin (b := .append) (xs := #[.tmp 13, .tmp 14]) rfl ?_); (try (refine gate_guard (by rfl) ?_; dsimp only)); at_builtin; refine Kd.R_append_rows Kd.bool (w0 := w) w.heap.size rfl (.tmp 13) (.tmp 14) 42 4 (.bool false) 1 rfl Try.underlying42 info4 rfl (by decide) (by omega) v453 y452 l0 _ _ _ (fun _ => True) (fun _ => False) rfl rfl ?aO ?aR (fun _ _ h => h) (fun _ h => h.elim) ?aF ?aB ?aS ?aL ?_; (case aR => repeat (first | exact (Kd.C_below HR0.1 HB.1) | (with_reducible refine Kd.C_alloc ?_ _) | (with_reducible refine Kd.C_drewN ?_ _) | (with_reducible refine Kd.C_drew ?_))); (case aB => exact (bU HB.1)); (case aF => exact (fun _ _ => trivial)); (case aO => exact (rU HO454.1)); (case aS => exact (below_size (bU HB.1))); (case aL => have := LMc4.1; omega); intro v456 w9 ho hb hg hat; rw [← Ny455.1] at ho; have n0_ := Aa (hb); have n1_ := Aa (ho); clear HB; clear HO454; have HB := n0_; have HO457 := n1_; clear n0_ n1_; clear ho hb hg hat) | ((with_reducible refine gD 18 ?_); (try (refine gate_guard (by rfl) ?_; dsimp only)); refine Kd.R_make Kd.bool _ 4 rfl (N := 18) rfl 41 _ _ rfl (l0.length : Int) rfl rfl Try.underlying41 (.bool false) 1 info4 rfl (by decide) (by omega) false (ok := fun _ => True) (okp := fun _ => True) rfl (fun _ hk => hk) trivial (dT) (Nat.le_trans (Nat.mul_le_mul_right _ (dT : (l0.length : Int).toNat ≤ 281474976710656)) (by omega)) (Below.refl _ _) (Nat.le_refl _) ?_; intro v459 w10 ho11 hb hg_ hnew_; clear hg_ hnew_; (first | rw [← Ny458.1] at ho11 | (simp only [Int.reduceToNat] at ho11; rw [← Ny458.1] at ho11)); have HO460 := Aa (Kd.R_lower (Kd.R_new' ho11 (Kd.R_lt (rU HO457.1))) (below_size (bU HB.1))); replace HO457 := rE HO457 ho11 hb; replace HB := sU HB hb; clear hb ho11)); try go_wp2_with (first | ((with_reducible refine gD 13 ?_); (try (refine gate_guard (by rfl) ?_; dsimp only)); refine Kd.R_lit Kd.bool _ 4 ?hg (N := 13) ?hd (xs := ([] : List Bool)) (inner := []) (ok := fun _ => True) (okp := fun _ => True) ?hr ?hp (fun _ hk => hk) trivial (Below.refl _ _) (Nat.le_refl _) (by simp) ?_; (case hd => rfl); (case hg => rfl); (case hr => first | (go_simp; done) | (go_simp; rfl)); (case hp => exact (Reps.none _ _)); intro v453 w7 ho8 hb hg_ hnew_; clear hg_ hnew_; (first | rw [← Ny452.1] at ho8 | (simp only [Int.reduceToNat] at ho8; rw [← Ny452.1] at ho8)); have HO454 := Aa (Kd.R_lower ho8 (below_size (bU HB.1))); replace HB := sU HB hb; clear hb ho8) | ((with_reducible refine gate_builtin (b := .append) (xs := #[.tmp 13, .tmp 14]) rfl ?_); (try (refine gate_guard (by rfl) ?_; dsimp only)); at_builtin; refine Kd.R_append_rows Kd.bool (w0 := w) w.heap.size rfl (.tmp 13) (.tmp 14) 42 4 (.bool false) 1 rfl Try.underlying42 info4 rfl (by decide) (by omega) v453 y452 l0 _ _ _ (fun _ => True) (fun _ => False) rfl rfl ?aO ?aR (fun _ _ h => h) (fun _ h => h.elim) ?aF ?aB ?aS ?aL ?_; (case aR => repeat (first | exact (Kd.C_below HR0.1 HB.1) | (with_reducible refine Kd.C_alloc ?_ _) | (with_reducible refine Kd.C_drewN ?_ _) | (with_reducible refine Kd.C_drew ?_))); (case aB => exact (bU HB.1)); (case aF => exact (fun _ _ => trivial)); (case aO => exact (rU HO454.1)); (case aS => exact (below_size (bU HB.1))); (case aL => have := LMc4.1; omega); intro v456 w9 ho hb hg hat; rw [← Ny455.1] at ho; have n0_ := Aa (hb); have n1_ := Aa (ho); clear HB; clear HO454; have HB := n0_; have HO457 := n1_; clear n0_ n1_; clear ho hb hg hat) | ((with_reducible refine gD 18 ?_); (try (refine gate_guard (by rfl) ?_; dsimp only)); refine Kd.R_make Kd.bool _ 4 rfl (N := 18) rfl 41 _ _ rfl (l0.length : Int) rfl rfl Try.underlying41 (.bool false) 1 info4 rfl (by decide) (by omega) false (ok := fun _ => True) (okp := fun _ => True) rfl (fun _ hk => hk) trivial (dT) (Nat.le_trans (Nat.mul_le_mul_right _ (dT : (l0.length : Int).toNat ≤ 281474976710656)) (by omega)) (Below.refl _ _) (Nat.le_refl _) ?_; intro v459 w10 ho11 hb hg_ hnew_; clear hg_ hnew_; (first | rw [← Ny458.1] at ho11 | (simp only [Int.reduceToNat] at ho11; rw [← Ny458.1] at ho11)); have HO460 := Aa (Kd.R_lower (Kd.R_new' ho11 (Kd.R_lt (rU HO457.1))) (below_size (bU HB.1))); replace HO457 := rE HO457 ho11 hb; replace HB := sU HB hb; clear hb ho11)))
    go_loopg [10] k (fun kq v10 w' => ∃ (x9_1 : List Bool) (x10_1 : Int), v10 = .int .i64 x10_1 ∧ Aside0 (tegularef35_Map_change.l0 kq l0 l1 a2 y455 x9_1 x10_1 = some (r1, r2)) ∧ Aside0 (kq ≤ k) ∧ Aside0 (Kd.R Kd.bool 4 w' w.heap.size (fun k_ => some k_ ≠ (v459 : Value).ownBlock) v456 y455) ∧ Aside0 (Kd.R Kd.bool 4 w' w.heap.size (fun k_ => some k_ ≠ (v456 : Value).ownBlock) v459 x9_1) ∧ Aside0 (Below w.heap.size w w'))
    case atStart => exact ⟨(y458), (0), (by first | rfl | (simp; done) | (simp [*]; done)), H', ⟨Nat.le_refl _⟩, ⟨rU (Kd.R_mono HO457.1 (fun _ hk => hk.2))⟩, ⟨rU (Kd.R_mono HO460.1 (fun _ hk => hk.2))⟩, ⟨bU HB.1⟩⟩
    case round =>
     clear H'
     try clear c1
     try clear p2
     try clear c4
     try clear c5
     try clear c5b0
     try clear c5b1
     try clear c6
     try clear c6b0
     try clear c6b1
     obtain ⟨x9_1, x10_1, rfl, HA, HK1, HO_8, HO_9, HB⟩ := hrel
     cases gk with
     | zero => exact absurd HA.1 (by simp [tegularef35_Map_change.l0])
     | succ k1 =>
      have H := HA.1
      clear HA
      simp only [tegularef35_Map_change.l0] at H
      by_cases c12 : x10_1 < (l1.length : Int)
      ·
       rw [if_pos c12] at H
       have c12b0 := decide_eq_true c12
       clear c12
       have HC13 := Aside0.mk H
       clear H
       go_upto_region 6 with (fail)
       repeat (go_quiet (fail); go_upto_region 6 with (fail))
       go_cut [64] (fun v64 wc => ∃ (kq : Nat) (x64_12 : Bool), v64 = .bool x64_12 ∧ Aside0 (tegularef35_Map_change.j1 kq l0 l1 a2 y455 x9_1 x10_1 x64_12 = some (r1, r2)) ∧ Aside0 (kq ≤ k1) ∧ Aside0 (Kd.R Kd.bool 4 wc w.heap.size (fun k_ => some k_ ≠ (v459 : Value).ownBlock) v456 y455) ∧ Aside0 (Kd.R Kd.bool 4 wc w.heap.size (fun k_ => some k_ ≠ (v456 : Value).ownBlock) v459 x9_1) ∧ Aside0 (Below w.heap.size w wc))
       case first =>
        have H := HC13.1
        clear HC13
        by_cases c14 : 0 ≤ x10_1
        ·
         rw [if_pos c14] at H
         have c14b0 := decide_eq_true c14
         clear c14
         (first | rw [c14b0] | (simp only [i64_w, i32_w]; rw [c14b0]) | skip)
         by_cases c15 : ((rd_T53 l1 x10_1).f1) < 1
         ·
          rw [if_pos c15] at H
          have c15b0 := decide_eq_true c15
          clear c15
          have H' := Aside0.mk H
          clear H
          have p461 : 0 ≤ (x10_1 : Int) := dT
          have q461 : x10_1 < (l1.length : Int) := dT
          obtain ⟨ad461, e461, hx461_0, hx461_1, hx461_2⟩ := at_T53 HR1.1 x10_1 p461 q461
          cases e461
          replace hx461_0 := cB HB hx461_0
          replace hx461_1 := cB HB hx461_1
          replace hx461_2 := cB HB hx461_2
          replace p461 := eq_true p461
          replace q461 := eq_true q461
          go_wp2
          repeat (go_quiet (fail); try go_wp2)
          go_meet
          case rel => exact ⟨_, (true), (by first | rfl | (simp; done) | (simp [*]; done)), H', ⟨by have := HK1.1; first | omega | exact Nat.le_refl _⟩, ⟨rU HO_8.1⟩, ⟨rU HO_9.1⟩, ⟨bU HB.1⟩⟩
         ·
          rw [if_neg c15] at H
          have c15b0 := decide_eq_false c15
          clear c15
          by_cases c16 : ((rd_T53 l1 x10_1).f2) < 0
          ·
           rw [if_pos c16] at H
           have c16b0 := decide_eq_true c16
           clear c16
           have H' := Aside0.mk H
           clear H
           have p461 : 0 ≤ (x10_1 : Int) := dT
           have q461 : x10_1 < (l1.length : Int) := dT
           obtain ⟨ad461, e461, hx461_0, hx461_1, hx461_2⟩ := at_T53 HR1.1 x10_1 p461 q461
           cases e461
           replace hx461_0 := cB HB hx461_0
           replace hx461_1 := cB HB hx461_1
           replace hx461_2 := cB HB hx461_2
           replace p461 := eq_true p461
           replace q461 := eq_true q461
           have p462 : 0 ≤ (x10_1 : Int) := dT
           have q462 : x10_1 < (l1.length : Int) := dT
           obtain ⟨ad462, e462, hx462_0, hx462_1, hx462_2⟩ := at_T53 HR1.1 x10_1 p462 q462
           obtain rfl : ad461 = ad462 := (by injection e462)
           replace hx462_0 := cB HB hx462_0
           replace hx462_1 := cB HB hx462_1
           replace hx462_2 := cB HB hx462_2
           replace p462 := eq_true p462
           replace q462 := eq_true q462
           go_wp2
           repeat (go_quiet (fail); try go_wp2)
           go_meet
           case rel => exact ⟨_, (true), (by first | rfl | (simp; done) | (simp [*]; done)), H', ⟨by have := HK1.1; first | omega | exact Nat.le_refl _⟩, ⟨rU HO_8.1⟩, ⟨rU HO_9.1⟩, ⟨bU HB.1⟩⟩
          ·
           rw [if_neg c16] at H
           have c16b0 := decide_eq_false c16
           clear c16
           by_cases c17 : ((rd_T53 l1 x10_1).f2) ≥ (l0.length : Int)
           ·
            rw [if_pos c17] at H
            have c17b0 := decide_eq_true c17
            clear c17
            have H' := Aside0.mk H
            clear H
            have p461 : 0 ≤ (x10_1 : Int) := dT
            have q461 : x10_1 < (l1.length : Int) := dT
            obtain ⟨ad461, e461, hx461_0, hx461_1, hx461_2⟩ := at_T53 HR1.1 x10_1 p461 q461
            cases e461
            replace hx461_0 := cB HB hx461_0
            replace hx461_1 := cB HB hx461_1
            replace hx461_2 := cB HB hx461_2
            replace p461 := eq_true p461
            replace q461 := eq_true q461
            have p462 : 0 ≤ (x10_1 : Int) := dT
            have q462 : x10_1 < (l1.length : Int) := dT
            obtain ⟨ad462, e462, hx462_0, hx462_1, hx462_2⟩ := at_T53 HR1.1 x10_1 p462 q462
            obtain rfl : ad461 = ad462 := (by injection e462)
            replace hx462_0 := cB HB hx462_0
            replace hx462_1 := cB HB hx462_1
            replace hx462_2 := cB HB hx462_2
            replace p462 := eq_true p462
            replace q462 := eq_true q462
            have p463 : 0 ≤ (x10_1 : Int) := dT
            have q463 : x10_1 < (l1.length : Int) := dT
            obtain ⟨ad463, e463, hx463_0, hx463_1, hx463_2⟩ := at_T53 HR1.1 x10_1 p463 q463
            obtain rfl : ad461 = ad463 := (by injection e463)
            replace hx463_0 := cB HB hx463_0
            replace hx463_1 := cB HB hx463_1
            replace hx463_2 := cB HB hx463_2
            replace p463 := eq_true p463
            replace q463 := eq_true q463
            go_wp2
            repeat (go_quiet (fail); try go_wp2)
            go_meet
            case rel => exact ⟨_, (true), (by first | rfl | (simp; done) | (simp [*]; done)), H', ⟨by have := HK1.1; first | omega | exact Nat.le_refl _⟩, ⟨rU HO_8.1⟩, ⟨rU HO_9.1⟩, ⟨bU HB.1⟩⟩
           ·
            rw [if_neg c17] at H
            have c17b0 := decide_eq_false c17
            clear c17
            have H' := Aside0.mk H
            clear H
            have p461 : 0 ≤ (x10_1 : Int) := dT
            have q461 : x10_1 < (l1.length : Int) := dT
            obtain ⟨ad461, e461, hx461_0, hx461_1, hx461_2⟩ := at_T53 HR1.1 x10_1 p461 q461
            cases e461
            replace hx461_0 := cB HB hx461_0
            replace hx461_1 := cB HB hx461_1
            replace hx461_2 := cB HB hx461_2
            replace p461 := eq_true p461
            replace q461 := eq_true q461
            have p462 : 0 ≤ (x10_1 : Int) := dT
            have q462 : x10_1 < (l1.length : Int) := dT
            obtain ⟨ad462, e462, hx462_0, hx462_1, hx462_2⟩ := at_T53 HR1.1 x10_1 p462 q462
            obtain rfl : ad461 = ad462 := (by injection e462)
            replace hx462_0 := cB HB hx462_0
            replace hx462_1 := cB HB hx462_1
            replace hx462_2 := cB HB hx462_2
            replace p462 := eq_true p462
            replace q462 := eq_true q462
            have p463 : 0 ≤ (x10_1 : Int) := dT
            have q463 : x10_1 < (l1.length : Int) := dT
            obtain ⟨ad463, e463, hx463_0, hx463_1, hx463_2⟩ := at_T53 HR1.1 x10_1 p463 q463
            obtain rfl : ad461 = ad463 := (by injection e463)
            replace hx463_0 := cB HB hx463_0
            replace hx463_1 := cB HB hx463_1
            replace hx463_2 := cB HB hx463_2
            replace p463 := eq_true p463
            replace q463 := eq_true q463
            have p464 : 0 ≤ (x10_1 : Int) := dT
            have q464 : x10_1 < (l1.length : Int) := dT
            obtain ⟨ad464, e464, hx464_0, hx464_1, hx464_2⟩ := at_T53 HR1.1 x10_1 p464 q464
            obtain rfl : ad461 = ad464 := (by injection e464)
            replace hx464_0 := cB HB hx464_0
            replace hx464_1 := cB HB hx464_1
            replace hx464_2 := cB HB hx464_2
            replace p464 := eq_true p464
            replace q464 := eq_true q464
            have p465 : 0 ≤ (x10_1 : Int) := dT
            have q465 : x10_1 < (l1.length : Int) := dT
            obtain ⟨ad465, e465, hx465_0, hx465_1, hx465_2⟩ := at_T53 HR1.1 x10_1 p465 q465
            obtain rfl : ad461 = ad465 := (by injection e465)
            replace hx465_0 := cB HB hx465_0
            replace hx465_1 := cB HB hx465_1
            replace hx465_2 := cB HB hx465_2
            replace p465 := eq_true p465
            replace q465 := eq_true q465
            go_wp2
            repeat (go_quiet (fail); try go_wp2)
            go_meet
            case rel => exact ⟨_, (decide (((rd_T53 l1 x10_1).f1) > (wrap64 ((l0.length : Int) - ((rd_T53 l1 x10_1).f2))))), (by first | rfl | (simp; done) | (simp [*]; done)), H', ⟨by have := HK1.1; first | omega | exact Nat.le_refl _⟩, ⟨rU HO_8.1⟩, ⟨rU HO_9.1⟩, ⟨bU HB.1⟩⟩
        ·
         rw [if_neg c14] at H
         exact absurd H (by simp)
       case rest =>
        clear HC13
        try clear c1
        try clear p2
        try clear c4
        try clear p4
        try clear q4
        try clear hx4
        try clear c5
        try clear c5b0
        try clear c5b1
        try clear c6
        try clear c6b0
        try clear c6b1
        try clear p6
        try clear c12
        try clear c12b0
        try clear c14
        try clear c14b0
        try clear c15
        try clear c15b0
        try clear c16
        try clear c16b0
        try clear c17
        try clear c17b0
        try clear hx461_0
        try clear hx461_1
        try clear hx461_2
        try clear hx462_0
        try clear hx462_1
        try clear hx462_2
        try clear hx463_0
        try clear hx463_1
        try clear hx463_2
        try clear hx464_0
        try clear hx464_1
        try clear hx464_2
        try clear hx465_0
        try clear hx465_1
        try clear hx465_2
        try clear p2
        try clear p461
        try clear p462
        try clear p463
        try clear p464
        try clear p465
        try clear q461
        try clear q462
        try clear q463
        try clear q464
        try clear q465
        obtain ⟨kq, x64_12, rfl, HA, HJ12, HO_8, HO_9, HB⟩ := hcut
        cases kq with
        | zero => exact absurd HA.1 (by simp [tegularef35_Map_change.j1])
        | succ kj12 =>
         have H := HA.1
         clear HA
         simp only [tegularef35_Map_change.j1] at H
         by_cases c18 : x64_12 = true
         ·
          subst c18
          have H1 : (some (([] : List Bool), 2)) = some (r1, r2) := by rw [if_pos rfl] at H; exact H
          clear H
          have H := H1
          clear H1
          simp only [Option.some.injEq, Prod.mk.injEq] at H
          obtain ⟨rfl, rfl⟩ := H
          go_wp2
          repeat (go_quiet (fail); try go_wp2)
          go_ret2
          exact ⟨_, fT, by first | exact Kd.R_nil _ _ _ _ _ | exact Kd.N_nil _ _ _ _ _ | exact Kd.V_nil _ _ _ _ _ | exact Kd.Q_nil _ _ _ _ _ | exact Kd.S_nil _ _ _ _ _, bU HB.1⟩
         ·
          replace c18 := Bool.eq_false_iff.mpr c18
          subst c18
          have H1 : (if 0 ≤ x10_1 then (if x10_1 < (l1.length : Int) then (tegularef35_Map_change.l1 kj12 l0 l1 a2 y455 x9_1 x10_1 ((rd_T53 l1 x10_1).f2)) else (none)) else (none)) = some (r1, r2) := by rw [if_neg (show ¬ (false = true) by decide)] at H; exact H
          clear H
          have H := H1
          clear H1
          by_cases c19 : 0 ≤ x10_1
          ·
           rw [if_pos c19] at H
           have c19b0 := decide_eq_true c19
           clear c19
           by_cases c20 : x10_1 < (l1.length : Int)
           ·
            rw [if_pos c20] at H
            have c20b0 := decide_eq_true c20
            clear c20
            have H' := Aside0.mk H
            clear H
            have p466 : 0 ≤ (x10_1 : Int) := dT
            have q466 : x10_1 < (l1.length : Int) := dT
            obtain ⟨ad466, e466, hx466_0, hx466_1, hx466_2⟩ := at_T53 HR1.1 x10_1 p466 q466
            cases e466
            replace hx466_0 := cB HB hx466_0
            replace hx466_1 := cB HB hx466_1
            replace hx466_2 := cB HB hx466_2
            replace p466 := eq_true p466
            replace q466 := eq_true q466
            go_wp2
            repeat (go_quiet (fail); try go_wp2)
            go_loopg [11] kj12 (fun kq v11 w' => ∃ (x9_3 : List Bool) (x11_3 : Int), v11 = .int .i64 x11_3 ∧ Aside0 (tegularef35_Map_change.l1 kq l0 l1 a2 y455 x9_3 x10_1 x11_3 = some (r1, r2)) ∧ Aside0 (kq ≤ kj12) ∧ Aside0 (Kd.R Kd.bool 4 w' w.heap.size (fun k_ => some k_ ≠ (v459 : Value).ownBlock) v456 y455) ∧ Aside0 (Kd.R Kd.bool 4 w' w.heap.size (fun k_ => some k_ ≠ (v456 : Value).ownBlock) v459 x9_3) ∧ Aside0 (Below w.heap.size w w'))
            case atStart => exact ⟨(x9_1), ((rd_T53 l1 x10_1).f2), (by first | rfl | (simp; done) | (simp [*]; done)), H', ⟨Nat.le_refl _⟩, ⟨rU HO_8.1⟩, ⟨rU HO_9.1⟩, ⟨bU HB.1⟩⟩
            case round =>
             clear H'
             try clear c1
             try clear c2
             try clear p2
             try clear c4
             try clear p4
             try clear q4
             try clear hx4
             try clear c5
             try clear c5b0
             try clear c5b1
             try clear c6
             try clear c6b0
             try clear c6b1
             try clear p6
             try clear c12
             try clear c12b0
             try clear c14
             try clear c14b0
             try clear c15
             try clear c15b0
             try clear c16
             try clear c16b0
             try clear c17
             try clear c17b0
             try clear c18
             try clear c19
             try clear c19b0
             try clear c20
             try clear c20b0
             try clear hx461_0
             try clear hx461_1
             try clear hx461_2
             try clear hx462_0
             try clear hx462_1
             try clear hx462_2
             try clear hx463_0
             try clear hx463_1
             try clear hx463_2
             try clear hx464_0
             try clear hx464_1
             try clear hx464_2
             try clear hx465_0
             try clear hx465_1
             try clear hx465_2
             try clear hx466_0
             try clear hx466_1
             try clear hx466_2
             try clear p2
             try clear p4
             try clear p461
             try clear p462
             try clear p463
             try clear p464
             try clear p465
             try clear p466
             try clear p6
             try clear q4
             try clear q461
             try clear q462
             try clear q463
             try clear q464
             try clear q465
             try clear q466
             obtain ⟨x9_3, x11_3, rfl, HA, HK3, HO_8, HO_9, HB⟩ := hrel
             cases gk with
             | zero => exact absurd HA.1 (by simp [tegularef35_Map_change.l1])
             | succ k3 =>
              have H := HA.1
              clear HA
              simp only [tegularef35_Map_change.l1] at H
              by_cases c21 : 0 ≤ x10_1
              ·
               rw [if_pos c21] at H
               have c21b0 := decide_eq_true c21
               clear c21
               by_cases c22 : x10_1 < (l1.length : Int)
               ·
                rw [if_pos c22] at H
                have c22b0 := decide_eq_true c22
                clear c22
                by_cases c23 : x11_3 < (wrap64 (((rd_T53 l1 x10_1).f2) + ((rd_T53 l1 x10_1).f1)))
                ·
                 rw [if_pos c23] at H
                 have c23b0 := decide_eq_true c23
                 clear c23
                 by_cases c24 : 0 ≤ x11_3
                 ·
                  rw [if_pos c24] at H
                  have c24b0 := decide_eq_true c24
                  clear c24
                  by_cases c25 : x11_3 < (x9_3.length : Int)
                  ·
                   rw [if_pos c25] at H
                   have c25b0 := decide_eq_true c25
                   clear c25
                   obtain ⟨bq26, hbq26⟩ : ∃ b_ : Bool, b_ = (rdOf false x9_3 x11_3) := ⟨_, rfl⟩
                   replace H : (if bq26 = true then (some (([] : List Bool), 2)) else (tegularef35_Map_change.l1 k3 l0 l1 a2 y455 (x9_3.set (x11_3 : Int).toNat true) x10_1 (wrap64 (x11_3 + 1)))) = some (r1, r2) := by rw [← hbq26] at H; exact H
                   have Nbq26 := Aside0.mk hbq26
                   clear hbq26
                   by_cases c27 : bq26 = true
                   ·
                    subst c27
                    have H1 : (some (([] : List Bool), 2)) = some (r1, r2) := by rw [if_pos rfl] at H; exact H
                    clear H
                    have H := H1
                    clear H1
                    simp only [Option.some.injEq, Prod.mk.injEq] at H
                    obtain ⟨rfl, rfl⟩ := H
                    have p467 : 0 ≤ (x10_1 : Int) := dT
                    have q467 : x10_1 < (l1.length : Int) := dT
                    obtain ⟨ad467, e467, hx467_0, hx467_1, hx467_2⟩ := at_T53 HR1.1 x10_1 p467 q467
                    obtain rfl : ad466 = ad467 := (by injection e467)
                    replace hx467_0 := cB HB hx467_0
                    replace hx467_1 := cB HB hx467_1
                    replace hx467_2 := cB HB hx467_2
                    replace p467 := eq_true p467
                    replace q467 := eq_true q467
                    have p468 : 0 ≤ (x10_1 : Int) := dT
                    have q468 : x10_1 < (l1.length : Int) := dT
                    obtain ⟨ad468, e468, hx468_0, hx468_1, hx468_2⟩ := at_T53 HR1.1 x10_1 p468 q468
                    obtain rfl : ad466 = ad468 := (by injection e468)
                    replace hx468_0 := cB HB hx468_0
                    replace hx468_1 := cB HB hx468_1
                    replace hx468_2 := cB HB hx468_2
                    replace p468 := eq_true p468
                    replace q468 := eq_true q468
                    obtain ⟨Ao28, co28, eo28⟩ := Kd.R_slice HO_9.1
                    subst eo28
                    have p469 : 0 ≤ (x11_3 : Int) := dT
                    have q469 : x11_3 < (x9_3.length : Int) := dT
                    obtain ⟨ad469, e469, hx469_0⟩ := Kd.at_bool (Kd.R_reads' HO_9.1).2.2 x11_3 p469 q469
                    (try rw [← Nbq26.1] at hx469_0)
                    cases e469
                    replace p469 := eq_true p469
                    replace q469 := eq_true q469
                    go_wp2
                    repeat (go_quiet (fail); try go_wp2)
                    go_ret2
                    exact ⟨_, fT, by first | exact Kd.R_nil _ _ _ _ _ | exact Kd.N_nil _ _ _ _ _ | exact Kd.V_nil _ _ _ _ _ | exact Kd.Q_nil _ _ _ _ _ | exact Kd.S_nil _ _ _ _ _, bU HB.1⟩
                   ·
                    replace c27 := Bool.eq_false_iff.mpr c27
                    subst c27
                    have H1 : (tegularef35_Map_change.l1 k3 l0 l1 a2 y455 (x9_3.set (x11_3 : Int).toNat true) x10_1 (wrap64 (x11_3 + 1))) = some (r1, r2) := by rw [if_neg (show ¬ (false = true) by decide)] at H; exact H
                    clear H
                    have H := H1
                    clear H1
                    obtain ⟨y470, hy470⟩ : ∃ y_ : List Bool, y_ = (x9_3.set (x11_3 : Int).toNat true) := ⟨_, rfl⟩
                    replace H : (tegularef35_Map_change.l1 k3 l0 l1 a2 y455 y470 x10_1 (wrap64 (x11_3 + 1))) = some (r1, r2) := by first | (rw [hy470]; exact H) | exact H
                    have Ny470 := Aside0.mk hy470
                    clear hy470
                    have H' := Aside0.mk H
                    clear H
                    have p467 : 0 ≤ (x10_1 : Int) := dT
                    have q467 : x10_1 < (l1.length : Int) := dT
                    obtain ⟨ad467, e467, hx467_0, hx467_1, hx467_2⟩ := at_T53 HR1.1 x10_1 p467 q467
                    obtain rfl : ad466 = ad467 := (by injection e467)
                    replace hx467_0 := cB HB hx467_0
                    replace hx467_1 := cB HB hx467_1
                    replace hx467_2 := cB HB hx467_2
                    replace p467 := eq_true p467
                    replace q467 := eq_true q467
                    have p468 : 0 ≤ (x10_1 : Int) := dT
                    have q468 : x10_1 < (l1.length : Int) := dT
                    obtain ⟨ad468, e468, hx468_0, hx468_1, hx468_2⟩ := at_T53 HR1.1 x10_1 p468 q468
                    obtain rfl : ad466 = ad468 := (by injection e468)
                    replace hx468_0 := cB HB hx468_0
                    replace hx468_1 := cB HB hx468_1
                    replace hx468_2 := cB HB hx468_2
                    replace p468 := eq_true p468
                    replace q468 := eq_true q468
                    obtain ⟨Ao30, co30, eo30⟩ := Kd.R_slice HO_9.1
                    subst eo30
                    have p469 : 0 ≤ (x11_3 : Int) := dT
                    have q469 : x11_3 < (x9_3.length : Int) := dT
                    obtain ⟨ad469, e469, hx469_0⟩ := Kd.at_bool (Kd.R_reads' HO_9.1).2.2 x11_3 p469 q469
                    (try rw [← Nbq26.1] at hx469_0)
                    cases e469
                    replace p469 := eq_true p469
                    replace q469 := eq_true q469
                    have p29 : 0 ≤ (x11_3 : Int) := dT
                    have q29 : (x11_3 : Int) < ((x9_3.length : Int) : Int) := dT
                    obtain ⟨go29, co29, eo29, gb29, gl29, cl29, HG29⟩ := Kd.R_form HO_9.1 (by omega)
                    (first | cases eo29 | (injection eo29 with ea_ en_ ec_; (first | subst ea_ | (injection ea_ with ea_; subst ea_)); subst ec_; clear en_))
                    have GB29 := Aside0.mk gb29
                    have GG29 := Aside0.mk HG29
                    clear gb29 gl29 HG29
                    (first | simp only [add_plain] at hx469_0 | skip)
                    obtain ⟨hx29_0, hf29_0⟩ := Kd.R_celln false HO_9.1 (x11_3 : Int) p29 q29
                    replace p29 := eq_true p29
                    replace q29 := eq_true q29
                    go_wp2
                    go_quiet (fail)
                    go_wp2_with (fail)
                    have n0_ := Kd.R_putg (Kd.R_drewN HO_9.1 nq) (x11_3 : Int) true
                    rw [← Ny470.1] at n0_
                    have n1_ := Aa (below_set (j := (x11_3 : Int).toNat) (v := (.bool true)) (pw_below_drewN HB.1 nq) GB29.1)
                    replace HO_8 := Aa (Kd.R_after (v := (.slice (some ⟨go29, 0, none⟩) x9_3.length co30)) (v1 := (.slice (some ⟨go29, 0, none⟩) x9_3.length co30)) (ok := (fun _ => True)) (rU (Kd.R_mono HO_8.1 (fun _ hk => ⟨trivial, hk⟩))) n0_.2 (.inl rfl))
                    have HO_9 := Aside0.mk n0_.1
                    have HB := n1_
                    go_roundg k3
                    case measure => have := HK1.1; have := HJ12.1; have := HK3.1; omega
                    case rel => exact ⟨(y470), (wrap64 (x11_3 + 1)), (by first | rfl | (simp; done) | (simp [*]; done)), H', ⟨by have := HK1.1; have := HJ12.1; have := HK3.1; omega⟩, ⟨rU (Kd.R_mono HO_8.1 (fun _ hk => hk.2))⟩, ⟨rU HO_9.1⟩, ⟨bU HB.1⟩⟩
                  ·
                   rw [if_neg c25] at H
                   exact absurd H (by simp)
                 ·
                  rw [if_neg c24] at H
                  exact absurd H (by simp)
                ·
                 rw [if_neg c23] at H
                 have c23b0 := decide_eq_false c23
                 clear c23
                 have H' := Aside0.mk H
                 clear H
                 have p467 : 0 ≤ (x10_1 : Int) := dT
                 have q467 : x10_1 < (l1.length : Int) := dT
                 obtain ⟨ad467, e467, hx467_0, hx467_1, hx467_2⟩ := at_T53 HR1.1 x10_1 p467 q467
                 obtain rfl : ad466 = ad467 := (by injection e467)
                 replace hx467_0 := cB HB hx467_0
                 replace hx467_1 := cB HB hx467_1
                 replace hx467_2 := cB HB hx467_2
                 replace p467 := eq_true p467
                 replace q467 := eq_true q467
                 have p468 : 0 ≤ (x10_1 : Int) := dT
                 have q468 : x10_1 < (l1.length : Int) := dT
                 obtain ⟨ad468, e468, hx468_0, hx468_1, hx468_2⟩ := at_T53 HR1.1 x10_1 p468 q468
                 obtain rfl : ad466 = ad468 := (by injection e468)
                 replace hx468_0 := cB HB hx468_0
                 replace hx468_1 := cB HB hx468_1
                 replace hx468_2 := cB HB hx468_2
                 replace p468 := eq_true p468
                 replace q468 := eq_true q468
                 go_wp2
                 repeat (go_quiet (fail); try go_wp2)
                 go_roundg k3
                 case measure => have := HK1.1; have := HJ12.1; have := HK3.1; omega
                 case rel => exact ⟨(x9_3), (wrap64 (x10_1 + 1)), (by first | rfl | (simp; done) | (simp [*]; done)), H', ⟨by have := HK1.1; have := HJ12.1; have := HK3.1; omega⟩, ⟨rU HO_8.1⟩, ⟨rU HO_9.1⟩, ⟨bU HB.1⟩⟩
               ·
                rw [if_neg c22] at H
                exact absurd H (by simp)
              ·
               rw [if_neg c21] at H
               exact absurd H (by simp)
           ·
            rw [if_neg c20] at H
            exact absurd H (by simp)
          ·
           rw [if_neg c19] at H
           exact absurd H (by simp)
      ·
       rw [if_neg c12] at H
       have c12b0 := decide_eq_false c12
       clear c12
       have H' := Aside0.mk H
       clear H
       go_wp2
       repeat (go_quiet (fail); try go_wp2)
       go_loopg [12] k1 (fun kq v12 w' => ∃ (x8_2 : List Bool) (x12_2 : Int), v12 = .int .i64 x12_2 ∧ Aside0 (tegularef35_Map_change.l2 kq l0 a2 x8_2 x9_1 x12_2 = some (r1, r2)) ∧ Aside0 (kq ≤ k1) ∧ Aside0 (Kd.R Kd.bool 4 w' w.heap.size (fun k_ => some k_ ≠ (v459 : Value).ownBlock) v456 x8_2) ∧ Aside0 (Kd.R Kd.bool 4 w' w.heap.size (fun k_ => some k_ ≠ (v456 : Value).ownBlock) v459 x9_1) ∧ Aside0 (Below w.heap.size w w'))
       case atStart => exact ⟨(y455), (0), (by first | rfl | (simp; done) | (simp [*]; done)), H', ⟨Nat.le_refl _⟩, ⟨rU HO_8.1⟩, ⟨rU HO_9.1⟩, ⟨bU HB.1⟩⟩
       case round =>
        clear H'
        try clear c1
        try clear c2
        try clear p2
        try clear q2
        try clear hx2
        try clear c4
        try clear p4
        try clear q4
        try clear hx4
        try clear c5
        try clear c5b0
        try clear c5b1
        try clear c6
        try clear c6b0
        try clear c6b1
        try clear p6
        try clear c12
        try clear c12b0
        try clear c14
        try clear c14b0
        try clear c15
        try clear c15b0
        try clear c16
        try clear c16b0
        try clear c17
        try clear c17b0
        try clear c18
        try clear c19
        try clear c19b0
        try clear c20
        try clear c20b0
        try clear c21
        try clear c21b0
        try clear c22
        try clear c22b0
        try clear c23
        try clear c23b0
        try clear c24
        try clear c24b0
        try clear c25
        try clear c25b0
        try clear q26
        try clear c27
        try clear p29
        try clear q29
        try clear hx29
        try clear hf29
        try clear hx29_0
        try clear hx461_0
        try clear hx461_1
        try clear hx461_2
        try clear hx462_0
        try clear hx462_1
        try clear hx462_2
        try clear hx463_0
        try clear hx463_1
        try clear hx463_2
        try clear hx464_0
        try clear hx464_1
        try clear hx464_2
        try clear hx465_0
        try clear hx465_1
        try clear hx465_2
        try clear hx466_0
        try clear hx466_1
        try clear hx466_2
        try clear hx467_0
        try clear hx467_1
        try clear hx467_2
        try clear hx468_0
        try clear hx468_1
        try clear hx468_2
        try clear hx469_0
        try clear p2
        try clear p29
        try clear p4
        try clear p461
        try clear p462
        try clear p463
        try clear p464
        try clear p465
        try clear p466
        try clear p467
        try clear p468
        try clear p469
        try clear p6
        try clear q29
        try clear q4
        try clear q461
        try clear q462
        try clear q463
        try clear q464
        try clear q465
        try clear q466
        try clear q467
        try clear q468
        try clear q469
        obtain ⟨x8_2, x12_2, rfl, HA, HK2, HO_8, HO_9, HB⟩ := hrel
        cases gk with
        | zero => exact absurd HA.1 (by simp [tegularef35_Map_change.l2])
        | succ k2 =>
         have H := HA.1
         clear HA
         simp only [tegularef35_Map_change.l2] at H
         by_cases c33 : x12_2 < (l0.length : Int)
         ·
          rw [if_pos c33] at H
          have c33b0 := decide_eq_true c33
          clear c33
          by_cases c34 : 0 ≤ x12_2
          ·
           rw [if_pos c34] at H
           have c34b0 := decide_eq_true c34
           clear c34
           by_cases c35 : x12_2 < (x9_1.length : Int)
           ·
            rw [if_pos c35] at H
            have c35b0 := decide_eq_true c35
            clear c35
            obtain ⟨bq36, hbq36⟩ : ∃ b_ : Bool, b_ = (rdOf false x9_1 x12_2) := ⟨_, rfl⟩
            replace H : (if bq36 = true then (if ((rdOf false l0 x12_2) == a2) = true then (some (([] : List Bool), 8)) else (if x12_2 < (x8_2.length : Int) then (tegularef35_Map_change.l2 k2 l0 a2 (x8_2.set (x12_2 : Int).toNat a2) x9_1 (wrap64 (x12_2 + 1))) else (none))) else (tegularef35_Map_change.l2 k2 l0 a2 x8_2 x9_1 (wrap64 (x12_2 + 1)))) = some (r1, r2) := by rw [← hbq36] at H; exact H
            have Nbq36 := Aside0.mk hbq36
            clear hbq36
            by_cases c37 : bq36 = true
            ·
             subst c37
             have H1 : (if ((rdOf false l0 x12_2) == a2) = true then (some (([] : List Bool), 8)) else (if x12_2 < (x8_2.length : Int) then (tegularef35_Map_change.l2 k2 l0 a2 (x8_2.set (x12_2 : Int).toNat a2) x9_1 (wrap64 (x12_2 + 1))) else (none))) = some (r1, r2) := by rw [if_pos rfl] at H; exact H
             clear H
             have H := H1
             clear H1
             by_cases c38 : ((rdOf false l0 x12_2) == a2) = true
             ·
              rw [if_pos c38] at H
              have c38b0 : ((rdOf false l0 x12_2) == a2) = true := c38
              (try (have c38b1 : decide ((rdOf false l0 x12_2) = a2) = true := by simpa using c38))
              (try (have c38b2 : ((rdOf false l0 x12_2) == a2) = true := by simpa using c38))
              clear c38
              simp only [Option.some.injEq, Prod.mk.injEq] at H
              obtain ⟨rfl, rfl⟩ := H
              obtain ⟨Ao39, co39, eo39⟩ := Kd.R_slice HO_9.1
              subst eo39
              have p471 : 0 ≤ (x12_2 : Int) := dT
              have q471 : x12_2 < (x9_1.length : Int) := dT
              obtain ⟨ad471, e471, hx471_0⟩ := Kd.at_bool (Kd.R_reads' HO_9.1).2.2 x12_2 p471 q471
              (try rw [← Nbq36.1] at hx471_0)
              cases e471
              replace p471 := eq_true p471
              replace q471 := eq_true q471
              have p472 : 0 ≤ (x12_2 : Int) := dT
              have q472 : x12_2 < (l0.length : Int) := dT
              obtain ⟨ad472, e472, hx472_0⟩ := Kd.at_bool HR0.1 x12_2 p472 q472
              (try rw [← Nbq36.1] at hx472_0)
              cases e472
              replace hx472_0 := cB HB hx472_0
              replace p472 := eq_true p472
              replace q472 := eq_true q472
              go_wp2
              repeat (go_quiet (fail); try go_wp2)
              go_ret2
              exact ⟨_, fT, by first | exact Kd.R_nil _ _ _ _ _ | exact Kd.N_nil _ _ _ _ _ | exact Kd.V_nil _ _ _ _ _ | exact Kd.Q_nil _ _ _ _ _ | exact Kd.S_nil _ _ _ _ _, bU HB.1⟩
             ·
              rw [if_neg c38] at H
              have c38b0 : ((rdOf false l0 x12_2) == a2) = false := by simpa using c38
              (try (have c38b1 : decide ((rdOf false l0 x12_2) = a2) = false := by simpa using c38))
              (try (have c38b2 : ((rdOf false l0 x12_2) == a2) = false := by simpa using c38))
              (try (have c38b3 : ¬ ((rdOf false l0 x12_2) = a2) := by simpa using c38))
              clear c38
              by_cases c40 : x12_2 < (x8_2.length : Int)
              ·
               rw [if_pos c40] at H
               have c40b0 := decide_eq_true c40
               clear c40
               obtain ⟨y473, hy473⟩ : ∃ y_ : List Bool, y_ = (x8_2.set (x12_2 : Int).toNat a2) := ⟨_, rfl⟩
               replace H : (tegularef35_Map_change.l2 k2 l0 a2 y473 x9_1 (wrap64 (x12_2 + 1))) = some (r1, r2) := by first | (rw [hy473]; exact H) | exact H
               have Ny473 := Aside0.mk hy473
               clear hy473
               have H' := Aside0.mk H
               clear H
               obtain ⟨Ao42, co42, eo42⟩ := Kd.R_slice HO_9.1
               subst eo42
               have p471 : 0 ≤ (x12_2 : Int) := dT
               have q471 : x12_2 < (x9_1.length : Int) := dT
               obtain ⟨ad471, e471, hx471_0⟩ := Kd.at_bool (Kd.R_reads' HO_9.1).2.2 x12_2 p471 q471
               (try rw [← Nbq36.1] at hx471_0)
               cases e471
               replace p471 := eq_true p471
               replace q471 := eq_true q471
               have p472 : 0 ≤ (x12_2 : Int) := dT
               have q472 : x12_2 < (l0.length : Int) := dT
               obtain ⟨ad472, e472, hx472_0⟩ := Kd.at_bool HR0.1 x12_2 p472 q472
               (try rw [← Nbq36.1] at hx472_0)
               cases e472
               replace hx472_0 := cB HB hx472_0
               replace p472 := eq_true p472
               replace q472 := eq_true q472
               have p41 : 0 ≤ (x12_2 : Int) := dT
               have q41 : (x12_2 : Int) < ((x8_2.length : Int) : Int) := dT
               obtain ⟨go41, co41, eo41, gb41, gl41, cl41, HG41⟩ := Kd.R_form HO_8.1 (by omega)
               (first | cases eo41 | (injection eo41 with ea_ en_ ec_; (first | subst ea_ | (injection ea_ with ea_; subst ea_)); subst ec_; clear en_))
               have GB41 := Aside0.mk gb41
               have GG41 := Aside0.mk HG41
               clear gb41 gl41 HG41
               obtain ⟨hx41_0, hf41_0⟩ := Kd.R_celln false HO_8.1 (x12_2 : Int) p41 q41
               replace p41 := eq_true p41
               replace q41 := eq_true q41
               have HP43 := Kd.R_putg HO_8.1 (x12_2 : Int) a2
               go_wp2_with (first | ((with_reducible refine gate_store (t := 4) (p := 111) rfl ?_); (try (rw [drewN_self wr]; generalize hq_ : World.drewN wr _ = wr; have n0_ := Aa (Kd.R_at hq_ HO_8.1); have n1_ := Aa (Kd.R_at hq_ HO_9.1); have n2_ := Aa (below_at hq_ HB.1); clear hq_ HO_8 HO_9 HB; have HO_8 := n0_; have HO_9 := n1_; have HB := n2_; clear n0_ n1_ n2_; (try (have HP43 := Kd.R_putg HO_8.1 (x12_2 : Int) a2)))); refine store_event (t := 4) (p := 111) (v := ?vo_w44) (w1 := (wr.setCell ⟨go41, (x12_2 : Int).toNat, none⟩ (.bool a2))) ?hg ?ho ?hn ?hr ?_; (case ho => rfl); (case hg => rfl); (case hn => rfl); (case hr => first | (go_simp; done) | (go_simp; rfl)); intro w44 hw; have hg : wr.grownBy w44 (some go41) := (by rw [hw]; exact HP43.2); have hp_ : Kd.R Kd.bool 4 w44 w.heap.size (fun k_ => nb k_ (some ad471) x9_1.length co42) (.slice (some ⟨go41, 0, none⟩) x8_2.length co41) y473 := (by rw [hw, Ny473.1]; exact HP43.1); clear HP43; replace HO_8 := Aa (hp_); replace HO_9 := Aa (Kd.R_after (v := (.slice (some ⟨go41, 0, none⟩) x8_2.length co41)) (v1 := (.slice (some ⟨go41, 0, none⟩) x8_2.length co41)) (ok := (fun _ => True)) (rU (Kd.R_mono HO_9.1 (fun _ hk => ⟨trivial, hk⟩))) hg (.inl rfl)); replace HB := Aa ((by rw [hw]; exact below_set (HB.1) GB41.1 : Below w.heap.size w w44)); clear hg hw hp_))
               repeat (go_quiet (first | ((with_reducible refine gate_store (t := 4) (p := 111) rfl ?_); (try (rw [drewN_self wr]; generalize hq_ : World.drewN wr _ = wr; have n0_ := Aa (Kd.R_at hq_ HO_8.1); have n1_ := Aa (Kd.R_at hq_ HO_9.1); have n2_ := Aa (below_at hq_ HB.1); clear hq_ HO_8 HO_9 HB; have HO_8 := n0_; have HO_9 := n1_; have HB := n2_; clear n0_ n1_ n2_; (try (have HP43 := Kd.R_putg HO_8.1 (x12_2 : Int) a2)))); refine store_event (t := 4) (p := 111) (v := ?vo_w44) (w1 := (wr.setCell ⟨go41, (x12_2 : Int).toNat, none⟩ (.bool a2))) ?hg ?ho ?hn ?hr ?_; (case ho => rfl); (case hg => rfl); (case hn => rfl); (case hr => first | (go_simp; done) | (go_simp; rfl)); intro w44 hw; have hg : wr.grownBy w44 (some go41) := (by rw [hw]; exact HP43.2); have hp_ : Kd.R Kd.bool 4 w44 w.heap.size (fun k_ => nb k_ (some ad471) x9_1.length co42) (.slice (some ⟨go41, 0, none⟩) x8_2.length co41) y473 := (by rw [hw, Ny473.1]; exact HP43.1); clear HP43; replace HO_8 := Aa (hp_); replace HO_9 := Aa (Kd.R_after (v := (.slice (some ⟨go41, 0, none⟩) x8_2.length co41)) (v1 := (.slice (some ⟨go41, 0, none⟩) x8_2.length co41)) (ok := (fun _ => True)) (rU (Kd.R_mono HO_9.1 (fun _ hk => ⟨trivial, hk⟩))) hg (.inl rfl)); replace HB := Aa ((by rw [hw]; exact below_set (HB.1) GB41.1 : Below w.heap.size w w44)); clear hg hw hp_)); try go_wp2_with (first | ((with_reducible refine gate_store (t := 4) (p := 111) rfl ?_); (try (rw [drewN_self wr]; generalize hq_ : World.drewN wr _ = wr; have n0_ := Aa (Kd.R_at hq_ HO_8.1); have n1_ := Aa (Kd.R_at hq_ HO_9.1); have n2_ := Aa (below_at hq_ HB.1); clear hq_ HO_8 HO_9 HB; have HO_8 := n0_; have HO_9 := n1_; have HB := n2_; clear n0_ n1_ n2_; (try (have HP43 := Kd.R_putg HO_8.1 (x12_2 : Int) a2)))); refine store_event (t := 4) (p := 111) (v := ?vo_w44) (w1 := (wr.setCell ⟨go41, (x12_2 : Int).toNat, none⟩ (.bool a2))) ?hg ?ho ?hn ?hr ?_; (case ho => rfl); (case hg => rfl); (case hn => rfl); (case hr => first | (go_simp; done) | (go_simp; rfl)); intro w44 hw; have hg : wr.grownBy w44 (some go41) := (by rw [hw]; exact HP43.2); have hp_ : Kd.R Kd.bool 4 w44 w.heap.size (fun k_ => nb k_ (some ad471) x9_1.length co42) (.slice (some ⟨go41, 0, none⟩) x8_2.length co41) y473 := (by rw [hw, Ny473.1]; exact HP43.1); clear HP43; replace HO_8 := Aa (hp_); replace HO_9 := Aa (Kd.R_after (v := (.slice (some ⟨go41, 0, none⟩) x8_2.length co41)) (v1 := (.slice (some ⟨go41, 0, none⟩) x8_2.length co41)) (ok := (fun _ => True)) (rU (Kd.R_mono HO_9.1 (fun _ hk => ⟨trivial, hk⟩))) hg (.inl rfl)); replace HB := Aa ((by rw [hw]; exact below_set (HB.1) GB41.1 : Below w.heap.size w w44)); clear hg hw hp_)))
               go_roundg k2
               case measure => have := HK1.1; have := HK2.1; omega
               case rel => exact ⟨(y473), (wrap64 (x12_2 + 1)), (by first | rfl | (simp; done) | (simp [*]; done)), H', ⟨by have := HK1.1; have := HK2.1; omega⟩, ⟨rU HO_8.1⟩, ⟨rU (Kd.R_mono HO_9.1 (fun _ hk => hk.2))⟩, ⟨bU HB.1⟩⟩
              ·
               rw [if_neg c40] at H
               exact absurd H (by simp)
            ·
             replace c37 := Bool.eq_false_iff.mpr c37
             subst c37
             have H1 : (tegularef35_Map_change.l2 k2 l0 a2 x8_2 x9_1 (wrap64 (x12_2 + 1))) = some (r1, r2) := by rw [if_neg (show ¬ (false = true) by decide)] at H; exact H
             clear H
             have H := H1
             clear H1
             have H' := Aside0.mk H
             clear H
             obtain ⟨Ao45, co45, eo45⟩ := Kd.R_slice HO_9.1
             subst eo45
             have p471 : 0 ≤ (x12_2 : Int) := dT
             have q471 : x12_2 < (x9_1.length : Int) := dT
             obtain ⟨ad471, e471, hx471_0⟩ := Kd.at_bool (Kd.R_reads' HO_9.1).2.2 x12_2 p471 q471
             (try rw [← Nbq36.1] at hx471_0)
             cases e471
             replace p471 := eq_true p471
             replace q471 := eq_true q471
             go_wp2
             repeat (go_quiet (fail); try go_wp2)
             go_roundg k2
             case measure => have := HK1.1; have := HK2.1; omega
             case rel => exact ⟨(x8_2), (wrap64 (x12_2 + 1)), (by first | rfl | (simp; done) | (simp [*]; done)), H', ⟨by have := HK1.1; have := HK2.1; omega⟩, ⟨rU HO_8.1⟩, ⟨rU HO_9.1⟩, ⟨bU HB.1⟩⟩
           ·
            rw [if_neg c35] at H
            exact absurd H (by simp)
          ·
           rw [if_neg c34] at H
           exact absurd H (by simp)
         ·
          rw [if_neg c33] at H
          have c33b0 := decide_eq_false c33
          clear c33
          simp only [Option.some.injEq, Prod.mk.injEq] at H
          obtain ⟨rfl, rfl⟩ := H
          go_wp2
          repeat (go_quiet (fail); try go_wp2)
          go_ret2
          exact ⟨_, fT, rU (Kd.R_mono HO_8.1 (fun _ hk => trivial)), bU HB.1⟩
   ·
    rw [if_neg c6] at H
    exact absurd H (by simp)
  ·
   rw [if_neg c5] at H
   exact absurd H (by simp)
 ·
  rw [if_neg c4] at H
  exact absurd H (by simp)

end Go.Proofs.Ytcjpikjbjehjeaa.PAllocB
