-- Written for this claim by a program of this session (wip/), out of the translation's own print: Lean checks it
import Derived.Test.YtcjpikjbjehjeaaPAllocBx0
import Derived.Test.YtcjpikjbjehjeaaPAllocBx11
import Derived.Test.YtcjpikjbjehjeaaPAllocBx15
import Derived.Test.YtcjpikjbjehjeaaPAllocBx16
namespace Go.Proofs.Ytcjpikjbjehjeaa.PAllocB
open Go.RowKit Go.Proofs.YtcjpikjbjehjeaaW.PrintWords Go.Proofs.YtcjpikjbjehjeaaW.PrintLast Go.Proofs.YtcjpikjbjehjeaaW.PrintMore
attribute [local go_sem] max2_int min2_int max_two min_two max_three min_three max_four min_four   -- for this text's walks alone
set_option linter.unusedVariables false
set_option linter.unusedSimpArgs false

/-! ### tegularef35_Map_Mark: function 39 -/
def tegularef35_Map_Mark.f (k : Nat) (l0 : List Bool) (l1 : List (S53)) : Option (List Bool × Int) := (tegularef35_Map_change.f k l0 l1 true).bind fun bt474 => (some (bt474.1, bt474.2))
theorem tegularef35_Map_Mark.mono : ∀ a0 a1 k, LeO (tegularef35_Map_Mark.f k a0 a1) (tegularef35_Map_Mark.f (k + 1) a0 a1) := by
 intro a0 a1 k
 unfold tegularef35_Map_Mark.f
 repeat' first
   | (with_reducible exact tegularef35_Map_change.mono _ _ _ _)
   | (with_reducible exact LeO.refl _)
   | (with_reducible exact LeO.none _)
   | (with_reducible refine LeO.ite ?_ ?_)
   | (with_reducible refine LeO.bind ?_ (fun _ => ?_))
   | exact tegularef35_Map_change.mono _ _ _ _
   | exact LeO.none _
   | refine LeO.ite ?_ ?_
   | refine LeO.bind ?_ (fun _ => ?_)
set_option maxHeartbeats 8000000 in
set_option maxRecDepth 100000 in
theorem tegularef35_Map_Mark.calls (k : Nat) (A0 : Option Addr) (c0 : Nat) (l0 : List Bool) (A1 : Option Addr) (c1 : Nat) (l1 : List (S53)) (r1 : List Bool) (r2 : Int) (w : World) (hr0 : Kd.C Kd.bool w A0 l0.length l0) (hc0 : l0.length ≤ c0) (hr1 : Kd.C k53 w A1 l1.length l1) (hc1 : l1.length ≤ c1) (h : tegularef35_Map_Mark.f k l0 l1 = some (r1, r2)) :
  Calls Try.prog 39 #[.slice A0 l0.length c0, .slice A1 l1.length c1] w fun e w' => ∃ v0_ : Value, e = .returned (.tuple #[v0_, .int .i64 r2]) ∧ Kd.R Kd.bool 4 w' w.heap.size (fun _ => True) v0_ r1 ∧ Below w.heap.size w w' := by
 have HR0 := Aside0.mk hr0
 have HC0 := Aside0.mk hc0
 clear hr0 hc0
 have HR1 := Aside0.mk hr1
 have HC1 := Aside0.mk hc1
 clear hr1 hc1
 have HB := Aa (Below.refl w.heap.size w)
 have H : ((tegularef35_Map_change.f k l0 l1 true).bind fun bt474 => (some (bt474.1, bt474.2))) = some (r1, r2) := h
 clear h
 replace H := Option.bind_eq_some_iff.mp H
 obtain ⟨⟨t474, t475⟩, A30, H⟩ := H
 replace H : (some (t474, t475)) = some (r1, r2) := H
 have A3 := Aside0.mk A30
 clear A30
 simp only [Option.some.injEq, Prod.mk.injEq] at H
 obtain ⟨rfl, rfl⟩ := H
 go_enter Try.func39, Try.ntmps39
 go_wp2_with (first | ((with_reducible refine gC 54 ?_); refine gL 8 Try.func54 #[.slice A0 l0.length c0, .slice A1 l1.length c1, .bool true] ?_; (with_reducible refine (tegularef35_Map_change.calls k _ _ l0 _ _ l1 true t474 t475 _ ?side1 ?side2 ?side3 ?side4 A3.1).mono ?_); (case side1 => repeat (first | exact HR0.1 | (with_reducible refine Kd.C_alloc ?_ _) | (with_reducible refine Kd.C_drewN ?_ _) | (with_reducible refine Kd.C_drew ?_))); (case side2 => exact HC0.1); (case side3 => repeat (first | exact HR1.1 | (with_reducible refine Kd.C_alloc ?_ _) | (with_reducible refine Kd.C_drewN ?_ _) | (with_reducible refine Kd.C_drew ?_))); (case side4 => exact HC1.1); rintro e w4 ⟨v476, rfl, ho0, hb⟩; refine ⟨_, rfl, ?_⟩; have HO477 := Aa (Kd.R_lower ho0 (below_size (bU HB.1))); replace HB := sU HB hb; (try clear hb); (try clear ho0)))
 go_ret2
 exact ⟨_, fT, rU HO477.1, bU HB.1⟩

/-! ### tegularef35_Map_Take: function 22 -/
def tegularef35_Map_Take.j0 : Nat → List Bool → Int → Int → Bool → Option ((List (S53)) × List Bool × Int)
 | 0, _, _, _, _ => none
 | k + 1, x0, x1, x2, x12 => if x12 = true then (some (([] : List (S53)), ([] : List Bool), 1)) else ((tegularef35_Map_Free.f k x0).bind fun t478 => (if x1 > t478 then (some (([] : List (S53)), ([] : List Bool), 11)) else ((tegularef35_Map_choose.f k x0 x1 x2).bind fun t479 => ((tegularef35_Map_Mark.f k x0 t479).bind fun bt482 => (some (t479, bt482.1, bt482.2))))))
def tegularef35_Map_Take.f (k : Nat) (l0 : List Bool) (a1 : Int) (a2 : Int) : Option ((List (S53)) × List Bool × Int) := if a1 < 0 then (tegularef35_Map_Take.j0 k l0 a1 a2 true) else (if a2 < 0 then (tegularef35_Map_Take.j0 k l0 a1 a2 true) else (tegularef35_Map_Take.j0 k l0 a1 a2 (decide (a2 > (l0.length : Int)))))
theorem tegularef35_Map_Take.mono_l : ∀ k, (∀ y0 y1 y2 y3, LeO (tegularef35_Map_Take.j0 k y0 y1 y2 y3) (tegularef35_Map_Take.j0 (k + 1) y0 y1 y2 y3))
 | 0 => fun _ _ _ _ r h => by simp [tegularef35_Map_Take.j0] at h
 | k + 1 => by
  have ih0 := tegularef35_Map_Take.mono_l k
  ·
   intro y0 y1 y2 y3
   unfold tegularef35_Map_Take.j0
   repeat' first
   | (with_reducible exact ih0 _ _ _ _)
   | (with_reducible exact tegularef35_Map_Free.mono _ _)
   | (with_reducible exact tegularef35_Map_Mark.mono _ _ _)
   | (with_reducible exact tegularef35_Map_choose.mono _ _ _ _)
   | (with_reducible exact LeO.refl _)
   | (with_reducible exact LeO.none _)
   | (with_reducible refine LeO.ite ?_ ?_)
   | (with_reducible refine LeO.bind ?_ (fun _ => ?_))
   | exact ih0 _ _ _ _
   | exact tegularef35_Map_Free.mono _ _
   | exact tegularef35_Map_Mark.mono _ _ _
   | exact tegularef35_Map_choose.mono _ _ _ _
   | exact LeO.none _
   | refine LeO.ite ?_ ?_
   | refine LeO.bind ?_ (fun _ => ?_)
theorem tegularef35_Map_Take.mono : ∀ a0 a1 a2 k, LeO (tegularef35_Map_Take.f k a0 a1 a2) (tegularef35_Map_Take.f (k + 1) a0 a1 a2) := by
 intro a0 a1 a2 k
 have ih0 := tegularef35_Map_Take.mono_l k
 unfold tegularef35_Map_Take.f
 repeat' first
   | (with_reducible exact ih0 _ _ _ _)
   | (with_reducible exact tegularef35_Map_Free.mono _ _)
   | (with_reducible exact tegularef35_Map_Mark.mono _ _ _)
   | (with_reducible exact tegularef35_Map_choose.mono _ _ _ _)
   | (with_reducible exact LeO.refl _)
   | (with_reducible exact LeO.none _)
   | (with_reducible refine LeO.ite ?_ ?_)
   | (with_reducible refine LeO.bind ?_ (fun _ => ?_))
   | exact ih0 _ _ _ _
   | exact tegularef35_Map_Free.mono _ _
   | exact tegularef35_Map_Mark.mono _ _ _
   | exact tegularef35_Map_choose.mono _ _ _ _
   | exact LeO.none _
   | refine LeO.ite ?_ ?_
   | refine LeO.bind ?_ (fun _ => ?_)
set_option maxHeartbeats 8000000 in
set_option maxRecDepth 100000 in
theorem tegularef35_Map_Take.calls (k : Nat) (A0 : Option Addr) (c0 : Nat) (l0 : List Bool) (a1 : Int) (a2 : Int) (r1 : List (S53)) (r2 : List Bool) (r3 : Int) (w : World) (hr0 : Kd.C Kd.bool w A0 l0.length l0) (hc0 : l0.length ≤ c0) (h : tegularef35_Map_Take.f k l0 a1 a2 = some (r1, r2, r3)) :
  Calls Try.prog 22 #[.slice A0 l0.length c0, .int .i64 a1, .int .i64 a2] w fun e w' => ∃ v0_ v1_ : Value, e = .returned (.tuple #[v0_, v1_, .int .i64 r3]) ∧ Kd.R k53 53 w' w.heap.size (fun _ => True) v0_ r1 ∧ Kd.R Kd.bool 4 w' w.heap.size (fun _ => True) v1_ r2 ∧ Below w.heap.size w w' := by
 have HR0 := Aside0.mk hr0
 have HC0 := Aside0.mk hc0
 clear hr0 hc0
 have HB := Aa (Below.refl w.heap.size w)
 have H : (if a1 < 0 then (tegularef35_Map_Take.j0 k l0 a1 a2 true) else (if a2 < 0 then (tegularef35_Map_Take.j0 k l0 a1 a2 true) else (tegularef35_Map_Take.j0 k l0 a1 a2 (decide (a2 > (l0.length : Int)))))) = some (r1, r2, r3) := h
 clear h
 have HC4 := Aside0.mk H
 clear H
 go_enter Try.func22, Try.ntmps22
 go_upto_region 1 with (fail)
 go_cut [12] (fun v12 wc => ∃ (kq : Nat) (x12_3 : Bool), v12 = .bool x12_3 ∧ Aside0 (tegularef35_Map_Take.j0 kq l0 a1 a2 x12_3 = some (r1, r2, r3)) ∧ Aside0 (kq ≤ k) ∧ Aside0 (Below w.heap.size w wc))
 case first =>
  have H := HC4.1
  clear HC4
  by_cases c5 : a1 < 0
  ·
   rw [if_pos c5] at H
   have c5b0 := decide_eq_true c5
   clear c5
   (first | rw [c5b0] | (simp only [i64_w, i32_w]; rw [c5b0]) | skip)
   have H' := Aside0.mk H
   clear H
   go_wp2
   go_meet
   case rel => exact ⟨_, (true), (by first | rfl | (simp; done) | (simp [*]; done)), H', ⟨by first | omega | exact Nat.le_refl _⟩, ⟨bU HB.1⟩⟩
  ·
   rw [if_neg c5] at H
   have c5b0 := decide_eq_false c5
   clear c5
   (first | rw [c5b0] | (simp only [i64_w, i32_w]; rw [c5b0]) | skip)
   by_cases c6 : a2 < 0
   ·
    rw [if_pos c6] at H
    have c6b0 := decide_eq_true c6
    clear c6
    have H' := Aside0.mk H
    clear H
    go_wp2
    go_meet
    case rel => exact ⟨_, (true), (by first | rfl | (simp; done) | (simp [*]; done)), H', ⟨by first | omega | exact Nat.le_refl _⟩, ⟨bU HB.1⟩⟩
   ·
    rw [if_neg c6] at H
    have c6b0 := decide_eq_false c6
    clear c6
    have H' := Aside0.mk H
    clear H
    go_wp2
    go_meet
    case rel => exact ⟨_, (decide (a2 > (l0.length : Int))), (by first | rfl | (simp; done) | (simp [*]; done)), H', ⟨by first | omega | exact Nat.le_refl _⟩, ⟨bU HB.1⟩⟩
 case rest =>
  clear HC4
  try clear c2
  try clear p2
  try clear c5
  try clear c5b0
  try clear c6
  try clear c6b0
  obtain ⟨kq, x12_3, rfl, HA, HJ3, HB⟩ := hcut
  cases kq with
  | zero => exact absurd HA.1 (by simp [tegularef35_Map_Take.j0])
  | succ kj3 =>
   have H := HA.1
   clear HA
   simp only [tegularef35_Map_Take.j0] at H
   by_cases c7 : x12_3 = true
   ·
    subst c7
    have H1 : (some (([] : List (S53)), ([] : List Bool), 1)) = some (r1, r2, r3) := by rw [if_pos rfl] at H; exact H
    clear H
    have H := H1
    clear H1
    simp only [Option.some.injEq, Prod.mk.injEq] at H
    obtain ⟨rfl, rfl, rfl⟩ := H
    go_wp2
    go_ret3
    exact ⟨_, _, fT, by first | exact Kd.R_nil _ _ _ _ _ | exact Kd.N_nil _ _ _ _ _ | exact Kd.V_nil _ _ _ _ _ | exact Kd.Q_nil _ _ _ _ _ | exact Kd.S_nil _ _ _ _ _, by first | exact Kd.R_nil _ _ _ _ _ | exact Kd.N_nil _ _ _ _ _ | exact Kd.V_nil _ _ _ _ _ | exact Kd.Q_nil _ _ _ _ _ | exact Kd.S_nil _ _ _ _ _, bU HB.1⟩
   ·
    replace c7 := Bool.eq_false_iff.mpr c7
    subst c7
    have H1 : ((tegularef35_Map_Free.f kj3 l0).bind fun t478 => (if a1 > t478 then (some (([] : List (S53)), ([] : List Bool), 11)) else ((tegularef35_Map_choose.f kj3 l0 a1 a2).bind fun t479 => ((tegularef35_Map_Mark.f kj3 l0 t479).bind fun bt482 => (some (t479, bt482.1, bt482.2)))))) = some (r1, r2, r3) := by rw [if_neg (show ¬ (false = true) by decide)] at H; exact H
    clear H
    have H := H1
    clear H1
    replace H := Option.bind_eq_some_iff.mp H
    obtain ⟨t478, A80, H⟩ := H
    replace H : (if a1 > t478 then (some (([] : List (S53)), ([] : List Bool), 11)) else ((tegularef35_Map_choose.f kj3 l0 a1 a2).bind fun t479 => ((tegularef35_Map_Mark.f kj3 l0 t479).bind fun bt482 => (some (t479, bt482.1, bt482.2))))) = some (r1, r2, r3) := H
    have A8 := Aside0.mk A80
    clear A80
    by_cases c9 : a1 > t478
    ·
     rw [if_pos c9] at H
     have c9b0 := decide_eq_true c9
     clear c9
     simp only [Option.some.injEq, Prod.mk.injEq] at H
     obtain ⟨rfl, rfl, rfl⟩ := H
     go_wp2_with (first | ((with_reducible refine gC 23 ?_); refine gL 28 Try.func23 #[.slice A0 l0.length c0] ?_; (with_reducible refine (tegularef35_Map_Free.calls kj3 _ _ l0 t478 _ ?side1 ?side2 A8.1).mono ?_); (case side1 => exact cU (Kd.C_below HR0.1 HB.1)); (case side2 => exact HC0.1); rintro e w' ⟨rfl, ⟨nd, rfl⟩⟩; refine ⟨_, rfl, ?_⟩))
     go_ret3
     exact ⟨_, _, fT, by first | exact Kd.R_nil _ _ _ _ _ | exact Kd.N_nil _ _ _ _ _ | exact Kd.V_nil _ _ _ _ _ | exact Kd.Q_nil _ _ _ _ _ | exact Kd.S_nil _ _ _ _ _, by first | exact Kd.R_nil _ _ _ _ _ | exact Kd.N_nil _ _ _ _ _ | exact Kd.V_nil _ _ _ _ _ | exact Kd.Q_nil _ _ _ _ _ | exact Kd.S_nil _ _ _ _ _, bU HB.1⟩
    ·
     rw [if_neg c9] at H
     have c9b0 := decide_eq_false c9
     clear c9
     replace H := Option.bind_eq_some_iff.mp H
     obtain ⟨t479, A100, H⟩ := H
     replace H : ((tegularef35_Map_Mark.f kj3 l0 t479).bind fun bt482 => (some (t479, bt482.1, bt482.2))) = some (r1, r2, r3) := H
     have A10 := Aside0.mk A100
     clear A100
     replace H := Option.bind_eq_some_iff.mp H
     obtain ⟨⟨t482, t483⟩, A110, H⟩ := H
     replace H : (some (t479, t482, t483)) = some (r1, r2, r3) := H
     have A11 := Aside0.mk A110
     clear A110
     simp only [Option.some.injEq, Prod.mk.injEq] at H
     obtain ⟨rfl, rfl, rfl⟩ := H
     go_wp2_with (first | ((with_reducible refine gC 23 ?_); refine gL 28 Try.func23 #[.slice A0 l0.length c0] ?_; (with_reducible refine (tegularef35_Map_Free.calls kj3 _ _ l0 t478 _ ?side1 ?side2 A8.1).mono ?_); (case side1 => exact cU (Kd.C_below HR0.1 HB.1)); (case side2 => exact HC0.1); rintro e w' ⟨rfl, ⟨nd, rfl⟩⟩; refine ⟨_, rfl, ?_⟩) | ((with_reducible refine gC 38 ?_); refine gL 33 Try.func38 #[.slice A0 l0.length c0, .int .i64 a1, .int .i64 a2] ?_; (with_reducible refine (tegularef35_Map_choose.calls kj3 _ _ l0 a1 a2 t479 _ ?side1 ?side2 A10.1).mono ?_); (case side1 => repeat (first | exact (Kd.C_below HR0.1 (bU HB.1)) | (with_reducible refine Kd.C_alloc ?_ _) | (with_reducible refine Kd.C_drewN ?_ _) | (with_reducible refine Kd.C_drew ?_))); (case side2 => exact HC0.1); rintro e w12 ⟨v480, rfl, ho0, hb⟩; refine ⟨_, rfl, ?_⟩; have HO481 := Aa (Kd.R_lower ho0 (below_size (bU HB.1))); replace HB := sU HB hb; (try clear hb); (try clear ho0); obtain ⟨Ao13, co13, eo13⟩ := Kd.R_slice HO481.1; subst eo13) | ((with_reducible refine gC 39 ?_); refine gL 37 Try.func39 #[.slice A0 l0.length c0, .slice Ao13 t479.length co13] ?_; (with_reducible refine (tegularef35_Map_Mark.calls kj3 _ _ l0 _ _ t479 t482 t483 _ ?side1 ?side2 ?side3 ?side4 A11.1).mono ?_); (case side1 => exact cU (Kd.C_below HR0.1 HB.1)); (case side2 => exact HC0.1); (case side3 => repeat (first | exact (Kd.R_reads' HO481.1).2.2 | (with_reducible refine Kd.C_alloc ?_ _) | (with_reducible refine Kd.C_drewN ?_ _) | (with_reducible refine Kd.C_drew ?_))); (case side4 => exact (Kd.R_reads' HO481.1).2.1); rintro e w14 ⟨v484, rfl, ho0, hb⟩; refine ⟨_, rfl, ?_⟩; replace HO481 := rB HO481 hb; have HO485 := Aa (Kd.R_lower ho0 (below_size (bU HB.1))); replace HB := sU HB hb; (try clear hb); (try clear ho0)))
     go_ret3
     exact ⟨_, _, fT, rU HO481.1, rU HO485.1, bU HB.1⟩

-- MAKES
/-- slices.Grow of no row at all, as slices.Concat calls it. -/
def api_Extent_60.f (n : Int) : Option (List S53) := if 0 ≤ n ∧ n ≤ 1000000000 then some [] else none
set_option maxHeartbeats 2000000 in
theorem api_Extent_60.calls (a0 : Int) (r : List S53) (w : World) (h : api_Extent_60.f a0 = some r) :
  Calls Try.prog 60 #[.slice none 0 0, .int .i64 a0] w fun e w' => ∃ v0_ : Value, e = .returned (v0_) ∧ Kd.R k53 53 w' w.heap.size (fun _ => True) v0_ r ∧ Below w.heap.size w w' := by
 unfold api_Extent_60.f at h
 split at h
 ·
  rename_i hn
  obtain ⟨h0, h1⟩ := hn
  obtain rfl := Option.some.inj h
  have hu53 := Try.underlying53
  have hu24 := Try.underlying24
  have hw : wrap64 a0 = a0 := by unfold wrap64; omega
  have hlt : ¬ a0 < 0 := by omega
  by_cases hp : a0 > 0
  ·
   go_enter Try.func60, Try.ntmps60
   go_wp2_with (first
    | ((with_reducible refine gate_builtin (b := .append) (xs := #[.tmp 20, .tmp 21]) rfl ?_); refine @Kd.R_append_zeros Try.prog _ _ _ _ _ S53 k53 w w w.heap.size rfl (.tmp 20) (.tmp 21) 24 3 53 (.agg #[(.int .i64 0), (.int .i64 0), (.int .i64 0)]) 24 rfl Try.underlying24 _ Try.underlying3 info53 rfl (by decide) (by decide) (.slice none 0 0) [] (⟨0, 0, 0⟩ : S53) _ a0 (fun _ => True) rfl rfl (k53_mkM _ _ _ (⟨0, 0, 0⟩ : S53)) (fun _ _ => trivial) (Kd.R_nil _ _ _ _ _) h0 (Below.refl _ _) (Nat.le_refl _) (by simp; omega) ?_; intro v196 w5 ho hb hg hat; have HO2 := Aside0.mk ho; have HB2 := Aside0.mk hb; clear ho hb hg hat; obtain ⟨Aq, cq, eq_⟩ := Kd.R_slice HO2.1; subst eq_))
   go_ret
   exact ⟨_, rfl, Kd.R_take (m := 0) HO2.1 (Nat.zero_le _), HB2.1⟩
  ·
   have hz : a0 = 0 := by omega
   subst hz
   go_enter Try.func60, Try.ntmps60
   go_wp2
   go_ret
   exact ⟨_, rfl, Kd.R_nil _ _ _ _ _, Below.refl _ _⟩
 ·
  cases h

/-! ### api_Extent_44: function 44 -/
mutual
def api_Extent_44.l0 : Nat → List (List (S53)) → Int → List (List (S53)) → Int → Int → Option ((List (S53)))
 | 0, _, _, _, _, _ => none
 | k + 1, x0, x3, x9, x10, x11 => if x11 < x10 then (if 0 ≤ x11 then (if x11 < (x9.length : Int) then (if (wrap64 (x3 + ((rd_L2 x9 x11).length : Int))) < 0 then (none) else (api_Extent_44.l0 k x0 (wrap64 (x3 + ((rd_L2 x9 x11).length : Int))) x9 x10 (wrap64 (x11 + 1)))) else (none)) else (none)) else ((api_Extent_60.f x3).bind fun t487 => (api_Extent_44.l1 k t487 x0 (x0.length : Int) 0))
def api_Extent_44.l1 : Nat → List (S53) → List (List (S53)) → Int → Int → Option ((List (S53)))
 | 0, _, _, _, _ => none
 | k + 1, x6, x25, x26, x27 => if x27 < x26 then (if 0 ≤ x27 then (if x27 < (x25.length : Int) then (if x6.length + (rd_L2 x25 x27).length < 5864062014805 then (api_Extent_44.l1 k (x6 ++ (rd_L2 x25 x27)) x25 x26 (wrap64 (x27 + 1))) else (none)) else (none)) else (none)) else (some x6)
end
def api_Extent_44.f (k : Nat) (l0 : List (List (S53))) : Option ((List (S53))) := api_Extent_44.l0 k l0 0 l0 (l0.length : Int) 0
theorem api_Extent_44.mono_l : ∀ k, (∀ y0 y1 y2 y3 y4, LeO (api_Extent_44.l0 k y0 y1 y2 y3 y4) (api_Extent_44.l0 (k + 1) y0 y1 y2 y3 y4)) ∧ (∀ y0 y1 y2 y3, LeO (api_Extent_44.l1 k y0 y1 y2 y3) (api_Extent_44.l1 (k + 1) y0 y1 y2 y3))
 | 0 => ⟨fun _ _ _ _ _ r h => by simp [api_Extent_44.l0] at h, fun _ _ _ _ r h => by simp [api_Extent_44.l1] at h⟩
 | k + 1 => by
  obtain ⟨ih0, ih1⟩ := api_Extent_44.mono_l k
  refine ⟨?_, ?_⟩
  all_goals (intros; (first | unfold api_Extent_44.l0 | unfold api_Extent_44.l1))
  all_goals repeat' first
  | (with_reducible exact ih0 _ _ _ _ _)
  | (with_reducible exact ih1 _ _ _ _)
  | (with_reducible exact LeO.refl _)
  | (with_reducible exact LeO.none _)
  | (with_reducible refine LeO.ite ?_ ?_)
  | (with_reducible refine LeO.bind ?_ (fun _ => ?_))
  | exact ih0 _ _ _ _ _
  | exact ih1 _ _ _ _
  | exact LeO.none _
  | refine LeO.ite ?_ ?_
  | refine LeO.bind ?_ (fun _ => ?_)
theorem api_Extent_44.mono : ∀ a0 k, LeO (api_Extent_44.f k a0) (api_Extent_44.f (k + 1) a0) := by
 intro a0 k
 obtain ⟨ih0, ih1⟩ := api_Extent_44.mono_l k
 unfold api_Extent_44.f
 repeat' first
   | (with_reducible exact ih0 _ _ _ _ _)
   | (with_reducible exact ih1 _ _ _ _)
   | (with_reducible exact LeO.refl _)
   | (with_reducible exact LeO.none _)
   | (with_reducible refine LeO.ite ?_ ?_)
   | (with_reducible refine LeO.bind ?_ (fun _ => ?_))
   | exact ih0 _ _ _ _ _
   | exact ih1 _ _ _ _
   | exact LeO.none _
   | refine LeO.ite ?_ ?_
   | refine LeO.bind ?_ (fun _ => ?_)
set_option maxHeartbeats 8000000 in
set_option maxRecDepth 100000 in
theorem api_Extent_44.calls (k : Nat) (A0 : Option Addr) (c0 : Nat) (l0 : List (List (S53))) (r : List (S53)) (w : World) (hr0 : Kd.C (Kd.slice 53 k53) w A0 l0.length l0) (hc0 : l0.length ≤ c0) (h : api_Extent_44.f k l0 = some r) :
  Calls Try.prog 44 #[.slice A0 l0.length c0] w fun e w' => ∃ v0_ : Value, e = .returned (v0_) ∧ Kd.R k53 53 w' w.heap.size (fun _ => True) v0_ r ∧ Below w.heap.size w w' := by
 have HR0 := Aside0.mk hr0
 have HC0 := Aside0.mk hc0
 clear hr0 hc0
 have HB := Aa (Below.refl w.heap.size w)
 have H : (api_Extent_44.l0 k l0 0 l0 (l0.length : Int) 0) = some r := h
 clear h
 have H' := Aside0.mk H
 clear H
 go_enter Try.func44, Try.ntmps44
 go_wp2
 go_loopg [3, 11] k (fun kq v3 v11 w' => ∃ (x3_1 : Int) (x11_1 : Int), v3 = .int .i64 x3_1 ∧ v11 = .int .i64 x11_1 ∧ Aside0 (api_Extent_44.l0 kq l0 x3_1 l0 (l0.length : Int) x11_1 = some r) ∧ Aside0 (kq ≤ k) ∧ Aside0 (Below w.heap.size w w'))
 case atStart => exact ⟨(0), (0), (by first | rfl | (simp; done) | (simp [*]; done)), (by first | rfl | (simp; done) | (simp [*]; done)), H', ⟨Nat.le_refl _⟩, ⟨bU HB.1⟩⟩
 case round =>
  clear H'
  obtain ⟨x3_1, x11_1, rfl, rfl, HA, HK1, HB⟩ := hrel
  cases gk with
  | zero => exact absurd HA.1 (by simp [api_Extent_44.l0])
  | succ k1 =>
   have H := HA.1
   clear HA
   simp only [api_Extent_44.l0] at H
   by_cases c2 : x11_1 < (l0.length : Int)
   ·
    rw [if_pos c2] at H
    have c2b0 := decide_eq_true c2
    clear c2
    by_cases c3 : 0 ≤ x11_1
    ·
     rw [if_pos c3] at H
     have c3b0 := decide_eq_true c3
     clear c3
     by_cases c4 : x11_1 < (l0.length : Int)
     ·
      rw [if_pos c4] at H
      have c4b0 := decide_eq_true c4
      clear c4
      by_cases c5 : (wrap64 (x3_1 + ((rd_L2 l0 x11_1).length : Int))) < 0
      ·
       rw [if_pos c5] at H
       exact absurd H (by simp)
      ·
       rw [if_neg c5] at H
       have c5b0 := decide_eq_false c5
       clear c5
       have H' := Aside0.mk H
       clear H
       have p486 : 0 ≤ (x11_1 : Int) := dT
       have q486 : x11_1 < (l0.length : Int) := dT
       obtain ⟨ad486, A486_0, c486_0, e486, hx486_0, hl486_0, hi486_0⟩ := at_L2 HR0.1 x11_1 p486 q486
       cases e486
       replace hx486_0 := cB HB hx486_0
       have HR486_0 := Aside0.mk hi486_0
       have HC486_0 := Aside0.mk hl486_0
       clear hi486_0 hl486_0
       replace p486 := eq_true p486
       replace q486 := eq_true q486
       go_wp2
       go_roundg k1
       case measure => have := HK1.1; omega
       case rel => exact ⟨(wrap64 (x3_1 + ((rd_L2 l0 x11_1).length : Int))), (wrap64 (x11_1 + 1)), (by first | rfl | (simp; done) | (simp [*]; done)), (by first | rfl | (simp; done) | (simp [*]; done)), H', ⟨by have := HK1.1; omega⟩, ⟨bU HB.1⟩⟩
     ·
      rw [if_neg c4] at H
      exact absurd H (by simp)
    ·
     rw [if_neg c3] at H
     exact absurd H (by simp)
   ·
    rw [if_neg c2] at H
    have c2b0 := decide_eq_false c2
    clear c2
    replace H := Option.bind_eq_some_iff.mp H
    obtain ⟨t487, A60, H⟩ := H
    replace H : (api_Extent_44.l1 k1 t487 l0 (l0.length : Int) 0) = some r := H
    have A6 := Aside0.mk A60
    clear A60
    have H' := Aside0.mk H
    clear H
    go_wp2_with (first | ((with_reducible refine gC 60 ?_); refine gL 24 Try.func60 #[.slice none 0 0, .int .i64 x3_1] ?_; (with_reducible refine (api_Extent_60.calls x3_1 t487 _ A6.1).mono ?_); rintro e w7 ⟨v488, rfl, ho0, hb⟩; refine ⟨_, rfl, ?_⟩; have HO489 := Aa (Kd.R_lower ho0 (below_size (bU HB.1))); replace HB := sU HB hb; (try clear hb); (try clear ho0)))
    go_loopg [6, 27] k1 (fun kq v6 v27 w' => ∃ (x6_2 : List (S53)) (x27_2 : Int), v27 = .int .i64 x27_2 ∧ Aside0 (api_Extent_44.l1 kq x6_2 l0 (l0.length : Int) x27_2 = some r) ∧ Aside0 (kq ≤ k1) ∧ Aside0 (Kd.R k53 53 w' w.heap.size (fun _ => True) v6 x6_2) ∧ Aside0 (Below w.heap.size w w'))
    case atStart => exact ⟨(t487), (0), (by first | rfl | (simp; done) | (simp [*]; done)), H', ⟨Nat.le_refl _⟩, ⟨rU HO489.1⟩, ⟨bU HB.1⟩⟩
    case round =>
     clear H'
     try clear c2
     try clear c2b0
     try clear p2
     try clear c3
     try clear c3b0
     try clear c4
     try clear c4b0
     try clear p4
     try clear q4
     try clear hx4
     try clear c5
     try clear c5b0
     try clear c6
     try clear p6
     try clear hx486_0
     try clear p486
     try clear q486
     obtain ⟨x6_2, x27_2, rfl, HA, HK2, HO_6, HB⟩ := hrel
     cases gk with
     | zero => exact absurd HA.1 (by simp [api_Extent_44.l1])
     | succ k2 =>
      have H := HA.1
      clear HA
      simp only [api_Extent_44.l1] at H
      by_cases c8 : x27_2 < (l0.length : Int)
      ·
       rw [if_pos c8] at H
       have c8b0 := decide_eq_true c8
       clear c8
       by_cases c9 : 0 ≤ x27_2
       ·
        rw [if_pos c9] at H
        have c9b0 := decide_eq_true c9
        clear c9
        by_cases c10 : x27_2 < (l0.length : Int)
        ·
         rw [if_pos c10] at H
         have c10b0 := decide_eq_true c10
         clear c10
         by_cases c11 : x6_2.length + (rd_L2 l0 x27_2).length < 5864062014805
         ·
          rw [if_pos c11] at H
          have LMc11 := Aside0.mk c11
          clear c11
          obtain ⟨y491, hy491⟩ : ∃ y_ : List (S53), y_ = (x6_2 ++ (rd_L2 l0 x27_2)) := ⟨_, rfl⟩
          replace H : (api_Extent_44.l1 k2 y491 l0 (l0.length : Int) (wrap64 (x27_2 + 1))) = some r := by first | (rw [hy491]; exact H) | exact H
          have Ny491 := Aside0.mk hy491
          clear hy491
          have H' := Aside0.mk H
          clear H
          have p490 : 0 ≤ (x27_2 : Int) := dT
          have q490 : x27_2 < (l0.length : Int) := dT
          obtain ⟨ad490, A490_0, c490_0, e490, hx490_0, hl490_0, hi490_0⟩ := at_L2 HR0.1 x27_2 p490 q490
          cases e490
          replace hx490_0 := cB HB hx490_0
          have HR490_0 := Aside0.mk hi490_0
          have HC490_0 := Aside0.mk hl490_0
          clear hi490_0 hl490_0
          replace p490 := eq_true p490
          replace q490 := eq_true q490
          go_wp2_with (first | ((with_reducible refine gate_builtin (b := .append) (xs := #[.tmp 31, .tmp 32]) rfl ?_); at_builtin; refine Kd.R_append_rows k53 (w0 := w) w.heap.size rfl (.tmp 31) (.tmp 32) 24 53 (.agg #[(.int .i64 0), (.int .i64 0), (.int .i64 0)]) 24 rfl Try.underlying24 info53 rfl (by decide) (by omega) u6 x6_2 (rd_L2 l0 x27_2) _ _ _ (fun _ => True) (fun _ => False) rfl rfl ?aO ?aR (fun _ _ h => h) (fun _ h => h.elim) ?aF ?aB ?aS ?aL ?_; (case aR => repeat (first | exact (Kd.C_below HR490_0.1 HB.1) | (with_reducible refine Kd.C_alloc ?_ _) | (with_reducible refine Kd.C_drewN ?_ _) | (with_reducible refine Kd.C_drew ?_))); (case aB => exact (bU HB.1)); (case aF => exact (fun _ _ => trivial)); (case aO => exact (rU HO_6.1)); (case aS => exact (below_size (bU HB.1))); (case aL => have := LMc11.1; omega); intro v492 w12 ho hb hg hat; rw [← Ny491.1] at ho; have n0_ := Aa (hb); have n1_ := Aa (ho); clear HB; clear HO_6; have HB := n0_; have HO493 := n1_; clear n0_ n1_; clear ho hb hg hat))
          go_roundg k2
          case measure => have := HK1.1; have := HK2.1; omega
          case rel => exact ⟨(y491), (wrap64 (x27_2 + 1)), (by first | rfl | (simp; done) | (simp [*]; done)), H', ⟨by have := HK1.1; have := HK2.1; omega⟩, ⟨rU HO493.1⟩, ⟨bU HB.1⟩⟩
         ·
          rw [if_neg c11] at H
          exact absurd H (by simp)
        ·
         rw [if_neg c10] at H
         exact absurd H (by simp)
       ·
        rw [if_neg c9] at H
        exact absurd H (by simp)
      ·
       rw [if_neg c8] at H
       have c8b0 := decide_eq_false c8
       clear c8
       obtain rfl := Option.some.inj H
       go_wp2
       go_ret
       exact ⟨_, fT, rU HO_6.1, bU HB.1⟩

end Go.Proofs.Ytcjpikjbjehjeaa.PAllocB
