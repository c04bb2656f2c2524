-- Written for this claim by a program of this session (wip/), out of the translation's own print: Lean checks it
import Derived.Test.YtcjpikjbjehjeaaPAllocBx0
import Derived.Test.YtcjpikjbjehjeaaWGuard
import Derived.Test.YtcjpikjbjehjeaaPAllocBx12
namespace Go.Proofs.Ytcjpikjbjehjeaa.PAllocB
open Go.RowKit Go.Proofs.YtcjpikjbjehjeaaW.PrintWords Go.Proofs.YtcjpikjbjehjeaaW.PrintLast Go.Proofs.YtcjpikjbjehjeaaW.PrintMore
attribute [local go_sem] max2_int min2_int max_two min_two max_three min_three max_four min_four   -- for this text's walks alone
set_option linter.unusedVariables false
set_option linter.unusedSimpArgs false

/-! ### tegularef35_Map_some: function 52 -/
mutual
def tegularef35_Map_some.l0 : Nat → List Bool → Int → Int → List (S53) → Int → Option ((List (S53)))
 | 0, _, _, _, _, _ => none
 | k + 1, x0, x2, x3, x9, x10 => if x10 < x2 then (tegularef35_Map_some.j1 k x0 x2 x3 x9 x10 (decide ((x9.length : Int) < x3))) else (tegularef35_Map_some.j1 k x0 x2 x3 x9 x10 false)
def tegularef35_Map_some.j1 : Nat → List Bool → Int → Int → List (S53) → Int → Bool → Option ((List (S53)))
 | 0, _, _, _, _, _, _ => none
 | k + 1, x0, x2, x3, x9, x10, x20 => if x20 = true then (if 0 ≤ x10 then (if x10 < (x0.length : Int) then (if rdOf false x0 x10 = true then (tegularef35_Map_some.l0 k x0 x2 x3 x9 (wrap64 (x10 + 1))) else (if x9.length < 5864062014805 then (tegularef35_Map_some.l0 k x0 x2 x3 (x9 ++ [(⟨0, 1, x10⟩ : S53)]) (wrap64 (x10 + 1))) else (none))) else (none)) else (none)) else ((tegularef32_Runs.f k x9).bind fun t405 => (some t405))
end
def tegularef35_Map_some.f (k : Nat) (l0 : List Bool) (a1 : Int) (a2 : Int) (a3 : Int) : Option ((List (S53))) := tegularef35_Map_some.l0 k l0 a2 a3 ([] : List (S53)) a1
theorem tegularef35_Map_some.mono_l : ∀ k, (∀ y0 y1 y2 y3 y4, LeO (tegularef35_Map_some.l0 k y0 y1 y2 y3 y4) (tegularef35_Map_some.l0 (k + 1) y0 y1 y2 y3 y4)) ∧ (∀ y0 y1 y2 y3 y4 y5, LeO (tegularef35_Map_some.j1 k y0 y1 y2 y3 y4 y5) (tegularef35_Map_some.j1 (k + 1) y0 y1 y2 y3 y4 y5))
 | 0 => ⟨fun _ _ _ _ _ r h => by simp [tegularef35_Map_some.l0] at h, fun _ _ _ _ _ _ r h => by simp [tegularef35_Map_some.j1] at h⟩
 | k + 1 => by
  obtain ⟨ih0, ih1⟩ := tegularef35_Map_some.mono_l k
  refine ⟨?_, ?_⟩
  all_goals (intros; (first | unfold tegularef35_Map_some.l0 | unfold tegularef35_Map_some.j1))
  all_goals repeat' first
  | (with_reducible exact ih0 _ _ _ _ _)
  | (with_reducible exact ih1 _ _ _ _ _ _)
  | (with_reducible exact tegularef32_Runs.mono _ _)
  | (with_reducible exact LeO.refl _)
  | (with_reducible exact LeO.none _)
  | (with_reducible refine LeO.ite ?_ ?_)
  | (with_reducible refine LeO.bind ?_ (fun _ => ?_))
  | exact ih0 _ _ _ _ _
  | exact ih1 _ _ _ _ _ _
  | exact tegularef32_Runs.mono _ _
  | exact LeO.none _
  | refine LeO.ite ?_ ?_
  | refine LeO.bind ?_ (fun _ => ?_)
theorem tegularef35_Map_some.mono : ∀ a0 a1 a2 a3 k, LeO (tegularef35_Map_some.f k a0 a1 a2 a3) (tegularef35_Map_some.f (k + 1) a0 a1 a2 a3) := by
 intro a0 a1 a2 a3 k
 obtain ⟨ih0, ih1⟩ := tegularef35_Map_some.mono_l k
 unfold tegularef35_Map_some.f
 repeat' first
   | (with_reducible exact ih0 _ _ _ _ _)
   | (with_reducible exact ih1 _ _ _ _ _ _)
   | (with_reducible exact tegularef32_Runs.mono _ _)
   | (with_reducible exact LeO.refl _)
   | (with_reducible exact LeO.none _)
   | (with_reducible refine LeO.ite ?_ ?_)
   | (with_reducible refine LeO.bind ?_ (fun _ => ?_))
   | exact ih0 _ _ _ _ _
   | exact ih1 _ _ _ _ _ _
   | exact tegularef32_Runs.mono _ _
   | exact LeO.none _
   | refine LeO.ite ?_ ?_
   | refine LeO.bind ?_ (fun _ => ?_)
set_option maxHeartbeats 8000000 in
set_option maxRecDepth 100000 in
theorem tegularef35_Map_some.calls (k : Nat) (A0 : Option Addr) (c0 : Nat) (l0 : List Bool) (a1 : Int) (a2 : Int) (a3 : Int) (r : List (S53)) (w : World) (hr0 : Kd.C Kd.bool w A0 l0.length l0) (hc0 : l0.length ≤ c0) (h : tegularef35_Map_some.f k l0 a1 a2 a3 = some r) :
  Calls Try.prog 52 #[.slice A0 l0.length c0, .int .i64 a1, .int .i64 a2, .int .i64 a3] w fun e w' => ∃ v0_ : Value, e = .returned (v0_) ∧ Kd.R k53 53 w' w.heap.size (fun _ => True) v0_ r ∧ Below w.heap.size w w' := by
 have hu53 := Try.underlying53
 have HR0 := Aside0.mk hr0
 have HC0 := Aside0.mk hc0
 clear hr0 hc0
 have HB := Aa (Below.refl w.heap.size w)
 have H : (tegularef35_Map_some.l0 k l0 a2 a3 ([] : List (S53)) a1) = some r := h
 clear h
 have H' := Aside0.mk H
 clear H
 go_enter Try.func52, Try.ntmps52
 go_wp2
 go_loopg [9, 10] k (fun kq v9 v10 w' => ∃ (x9_1 : List (S53)) (x10_1 : Int), v10 = .int .i64 x10_1 ∧ Aside0 (tegularef35_Map_some.l0 kq l0 a2 a3 x9_1 x10_1 = some r) ∧ Aside0 (kq ≤ k) ∧ Aside0 (Kd.R k53 53 w' w.heap.size (fun _ => True) v9 x9_1) ∧ Aside0 (Below w.heap.size w w'))
 case atStart => exact ⟨(([] : List (S53))), (a1), (by first | rfl | (simp; done) | (simp [*]; done)), H', ⟨Nat.le_refl _⟩, ⟨by first | exact Kd.R_nil _ _ _ _ _ | exact Kd.N_nil _ _ _ _ _ | exact Kd.V_nil _ _ _ _ _ | exact Kd.Q_nil _ _ _ _ _ | exact Kd.S_nil _ _ _ _ _⟩, ⟨bU HB.1⟩⟩
 case round =>
  clear H'
  try clear p2
  obtain ⟨x9_1, x10_1, rfl, HA, HK1, HO_9, HB⟩ := hrel
  cases gk with
  | zero => exact absurd HA.1 (by simp [tegularef35_Map_some.l0])
  | succ k1 =>
   have H := HA.1
   clear HA
   simp only [tegularef35_Map_some.l0] at H
   have HC5 := Aside0.mk H
   clear H
   go_upto_region 3 with (fail)
   go_cut [20] (fun v20 wc => ∃ (kq : Nat) (x20_4 : Bool), v20 = .bool x20_4 ∧ Aside0 (tegularef35_Map_some.j1 kq l0 a2 a3 x9_1 x10_1 x20_4 = some r) ∧ Aside0 (kq ≤ k1) ∧ Aside0 (Kd.R k53 53 wc w.heap.size (fun _ => True) u9 x9_1) ∧ Aside0 (Below w.heap.size w wc))
   case first =>
    have H := HC5.1
    clear HC5
    by_cases c6 : x10_1 < a2
    ·
     rw [if_pos c6] at H
     have c6b0 := decide_eq_true c6
     clear c6
     (first | rw [c6b0] | (simp only [i64_w, i32_w]; rw [c6b0]) | skip)
     have H' := Aside0.mk H
     clear H
     obtain ⟨Ao7, co7, eo7⟩ := Kd.R_slice HO_9.1
     subst eo7
     go_wp2
     go_meet
     case rel => exact ⟨_, (decide ((x9_1.length : Int) < a3)), (by first | rfl | (simp; done) | (simp [*]; done)), H', ⟨by have := HK1.1; first | omega | exact Nat.le_refl _⟩, ⟨rU HO_9.1⟩, ⟨bU HB.1⟩⟩
    ·
     rw [if_neg c6] at H
     have c6b0 := decide_eq_false c6
     clear c6
     (first | rw [c6b0] | (simp only [i64_w, i32_w]; rw [c6b0]) | skip)
     have H' := Aside0.mk H
     clear H
     go_wp2
     go_meet
     case rel => exact ⟨_, (false), (by first | rfl | (simp; done) | (simp [*]; done)), H', ⟨by have := HK1.1; first | omega | exact Nat.le_refl _⟩, ⟨rU HO_9.1⟩, ⟨bU HB.1⟩⟩
   case rest =>
    clear HC5
    try clear p2
    try clear c5
    try clear c6
    try clear c6b0
    try clear p2
    obtain ⟨kq, x20_4, rfl, HA, HJ4, HO_9, HB⟩ := hcut
    cases kq with
    | zero => exact absurd HA.1 (by simp [tegularef35_Map_some.j1])
    | succ kj4 =>
     have H := HA.1
     clear HA
     simp only [tegularef35_Map_some.j1] at H
     by_cases c8 : x20_4 = true
     ·
      subst c8
      have H1 : (if 0 ≤ x10_1 then (if x10_1 < (l0.length : Int) then (if rdOf false l0 x10_1 = true then (tegularef35_Map_some.l0 kj4 l0 a2 a3 x9_1 (wrap64 (x10_1 + 1))) else (if x9_1.length < 5864062014805 then (tegularef35_Map_some.l0 kj4 l0 a2 a3 (x9_1 ++ [(⟨0, 1, x10_1⟩ : S53)]) (wrap64 (x10_1 + 1))) else (none))) else (none)) else (none)) = some r := by rw [if_pos rfl] at H; exact H
      clear H
      have H := H1
      clear H1
      by_cases c9 : 0 ≤ x10_1
      ·
       rw [if_pos c9] at H
       have c9b0 := decide_eq_true c9
       clear c9
       by_cases c10 : x10_1 < (l0.length : Int)
       ·
        rw [if_pos c10] at H
        have c10b0 := decide_eq_true c10
        clear c10
        obtain ⟨bq11, hbq11⟩ : ∃ b_ : Bool, b_ = (rdOf false l0 x10_1) := ⟨_, rfl⟩
        replace H : (if bq11 = true then (tegularef35_Map_some.l0 kj4 l0 a2 a3 x9_1 (wrap64 (x10_1 + 1))) else (if x9_1.length < 5864062014805 then (tegularef35_Map_some.l0 kj4 l0 a2 a3 (x9_1 ++ [(⟨0, 1, x10_1⟩ : S53)]) (wrap64 (x10_1 + 1))) else (none))) = some r := by rw [← hbq11] at H; exact H
        have Nbq11 := Aside0.mk hbq11
        clear hbq11
        by_cases c12 : bq11 = true
        ·
         subst c12
         have H1 : (tegularef35_Map_some.l0 kj4 l0 a2 a3 x9_1 (wrap64 (x10_1 + 1))) = some r := by rw [if_pos rfl] at H; exact H
         clear H
         have H := H1
         clear H1
         have H' := Aside0.mk H
         clear H
         have p401 : 0 ≤ (x10_1 : Int) := dT
         have q401 : x10_1 < (l0.length : Int) := dT
         obtain ⟨ad401, e401, hx401_0⟩ := Kd.at_bool HR0.1 x10_1 p401 q401
         (try rw [← Nbq11.1] at hx401_0)
         cases e401
         replace hx401_0 := cB HB hx401_0
         replace p401 := eq_true p401
         replace q401 := eq_true q401
         go_wp2
         go_roundg kj4
         case measure => have := HK1.1; have := HJ4.1; omega
         case rel => exact ⟨(x9_1), (wrap64 (x10_1 + 1)), (by first | rfl | (simp; done) | (simp [*]; done)), H', ⟨by have := HK1.1; have := HJ4.1; omega⟩, ⟨rU HO_9.1⟩, ⟨bU HB.1⟩⟩
        ·
         replace c12 := Bool.eq_false_iff.mpr c12
         subst c12
         have H1 : (if x9_1.length < 5864062014805 then (tegularef35_Map_some.l0 kj4 l0 a2 a3 (x9_1 ++ [(⟨0, 1, x10_1⟩ : S53)]) (wrap64 (x10_1 + 1))) else (none)) = some r := by rw [if_neg (show ¬ (false = true) by decide)] at H; exact H
         clear H
         have H := H1
         clear H1
         by_cases c13 : x9_1.length < 5864062014805
         ·
          rw [if_pos c13] at H
          have LMc13 := Aside0.mk c13
          clear c13
          obtain ⟨y402, hy402⟩ : ∃ y_ : List (S53), y_ = (x9_1 ++ [(⟨0, 1, x10_1⟩ : S53)]) := ⟨_, rfl⟩
          replace H : (tegularef35_Map_some.l0 kj4 l0 a2 a3 y402 (wrap64 (x10_1 + 1))) = some r := by first | (rw [hy402]; exact H) | exact H
          have Ny402 := Aside0.mk hy402
          clear hy402
          have H' := Aside0.mk H
          clear H
          have p401 : 0 ≤ (x10_1 : Int) := dT
          have q401 : x10_1 < (l0.length : Int) := dT
          obtain ⟨ad401, e401, hx401_0⟩ := Kd.at_bool HR0.1 x10_1 p401 q401
          (try rw [← Nbq11.1] at hx401_0)
          cases e401
          replace hx401_0 := cB HB hx401_0
          replace p401 := eq_true p401
          replace q401 := eq_true q401
          go_wp2_with (first | ((with_reducible refine gate_builtin (b := .append) (xs := #[.tmp 28, .tmp 31]) rfl ?_); (try (refine gate_guard (by rfl) ?_; dsimp only)); at_builtin; refine Kd.R_append k53 (w0 := w) w.heap.size rfl (.tmp 28) (.tmp 31) 24 53 (.agg #[(.int .i64 0), (.int .i64 0), (.int .i64 0)]) 24 rfl Try.underlying24 info53 rfl (by decide) (by omega) u9 x9_1 (⟨0, 1, x10_1⟩ : S53) [.int .i64 0, .int .i64 1, .int .i64 x10_1] (fun _ => True) (fun _ => False) rfl rfl ?aP (fun _ hk => hk.elim) ?aF ?aO ?aB ?aS ?aL ?_; (case aP => exact k53_mkM _ _ _ (⟨0, 1, x10_1⟩ : S53)); (case aB => exact (bU HB.1)); (case aF => exact (fun _ _ => trivial)); (case aO => exact (rU HO_9.1)); (case aS => exact (below_size (bU HB.1))); (case aL => have := LMc13.1; omega); intro v403 w14 ho hb hg hat; rw [← Ny402.1] at ho; have n0_ := Aa (hb); have n1_ := Aa (ho); clear HB; clear HO_9; have HB := n0_; have HO404 := n1_; clear n0_ n1_; clear ho hb hg hat))
          go_roundg kj4
          case measure => have := HK1.1; have := HJ4.1; omega
          case rel => exact ⟨(y402), (wrap64 (x10_1 + 1)), (by first | rfl | (simp; done) | (simp [*]; done)), H', ⟨by have := HK1.1; have := HJ4.1; omega⟩, ⟨rU HO404.1⟩, ⟨bU HB.1⟩⟩
         ·
          rw [if_neg c13] at H
          exact absurd H (by simp)
       ·
        rw [if_neg c10] at H
        exact absurd H (by simp)
      ·
       rw [if_neg c9] at H
       exact absurd H (by simp)
     ·
      replace c8 := Bool.eq_false_iff.mpr c8
      subst c8
      have H1 : ((tegularef32_Runs.f kj4 x9_1).bind fun t405 => (some t405)) = some r := by rw [if_neg (show ¬ (false = true) by decide)] at H; exact H
      clear H
      have H := H1
      clear H1
      replace H := Option.bind_eq_some_iff.mp H
      obtain ⟨t405, A150, H⟩ := H
      replace H : (some t405) = some r := H
      have A15 := Aside0.mk A150
      clear A150
      obtain rfl := Option.some.inj H
      obtain ⟨Ao16, co16, eo16⟩ := Kd.R_slice HO_9.1
      subst eo16
      go_wp2_with (first | ((with_reducible refine gC 64 ?_); refine gL 34 Try.func64 #[.slice Ao16 x9_1.length co16] ?_; (with_reducible refine (tegularef32_Runs.calls kj4 _ _ x9_1 t405 _ ?side1 ?side2 A15.1).mono ?_); (case side1 => repeat (first | exact (Kd.R_reads' HO_9.1).2.2 | (with_reducible refine Kd.C_alloc ?_ _) | (with_reducible refine Kd.C_drewN ?_ _) | (with_reducible refine Kd.C_drew ?_))); (case side2 => exact (Kd.R_reads' HO_9.1).2.1); rintro e w17 ⟨v406, rfl, ho0, hb⟩; refine ⟨_, rfl, ?_⟩; have HO407 := Aa (Kd.R_lower (Kd.R_new' ho0 (Kd.R_lt (rU HO_9.1))) (below_size (bU HB.1))); replace HO_9 := rE HO_9 ho0 hb; replace HB := sU HB hb; (try clear hb); (try clear ho0)))
      go_ret
      exact ⟨_, fT, rU (Kd.R_mono HO407.1 (fun _ hk => trivial)), bU HB.1⟩

/-! ### tegularef35_Map_Runs: function 41 -/
def tegularef35_Map_Runs.f (k : Nat) (l0 : List Bool) : Option ((List (S53))) := (tegularef35_Map_some.f k l0 0 (l0.length : Int) (l0.length : Int)).bind fun t408 => (some t408)
theorem tegularef35_Map_Runs.mono : ∀ a0 k, LeO (tegularef35_Map_Runs.f k a0) (tegularef35_Map_Runs.f (k + 1) a0) := by
 intro a0 k
 unfold tegularef35_Map_Runs.f
 repeat' first
   | (with_reducible exact tegularef35_Map_some.mono _ _ _ _ _)
   | (with_reducible exact LeO.refl _)
   | (with_reducible exact LeO.none _)
   | (with_reducible refine LeO.ite ?_ ?_)
   | (with_reducible refine LeO.bind ?_ (fun _ => ?_))
   | exact tegularef35_Map_some.mono _ _ _ _ _
   | exact LeO.none _
   | refine LeO.ite ?_ ?_
   | refine LeO.bind ?_ (fun _ => ?_)
set_option maxHeartbeats 8000000 in
set_option maxRecDepth 100000 in
theorem tegularef35_Map_Runs.calls (k : Nat) (A0 : Option Addr) (c0 : Nat) (l0 : List Bool) (r : List (S53)) (w : World) (hr0 : Kd.C Kd.bool w A0 l0.length l0) (hc0 : l0.length ≤ c0) (h : tegularef35_Map_Runs.f k l0 = some r) :
  Calls Try.prog 41 #[.slice A0 l0.length c0] w fun e w' => ∃ v0_ : Value, e = .returned (v0_) ∧ Kd.R k53 53 w' w.heap.size (fun _ => True) v0_ r ∧ Below w.heap.size w w' := by
 have HR0 := Aside0.mk hr0
 have HC0 := Aside0.mk hc0
 clear hr0 hc0
 have HB := Aa (Below.refl w.heap.size w)
 have H : ((tegularef35_Map_some.f k l0 0 (l0.length : Int) (l0.length : Int)).bind fun t408 => (some t408)) = some r := h
 clear h
 replace H := Option.bind_eq_some_iff.mp H
 obtain ⟨t408, A20, H⟩ := H
 replace H : (some t408) = some r := H
 have A2 := Aside0.mk A20
 clear A20
 obtain rfl := Option.some.inj H
 go_enter Try.func41, Try.ntmps41
 go_wp2_with (first | ((with_reducible refine gC 52 ?_); refine gL 8 Try.func52 #[.slice A0 l0.length c0, .int .i64 0, .int .i64 (l0.length : Int), .int .i64 (l0.length : Int)] ?_; (with_reducible refine (tegularef35_Map_some.calls k _ _ l0 0 (l0.length : Int) (l0.length : Int) t408 _ ?side1 ?side2 A2.1).mono ?_); (case side1 => repeat (first | exact HR0.1 | (with_reducible refine Kd.C_alloc ?_ _) | (with_reducible refine Kd.C_drewN ?_ _) | (with_reducible refine Kd.C_drew ?_))); (case side2 => exact HC0.1); rintro e w3 ⟨v409, rfl, ho0, hb⟩; refine ⟨_, rfl, ?_⟩; have HO410 := Aa (Kd.R_lower ho0 (below_size (bU HB.1))); replace HB := sU HB hb; (try clear hb); (try clear ho0)))
 go_ret
 exact ⟨_, fT, rU HO410.1, bU HB.1⟩

/-! ### tegularef35_Map_Largest: function 40 -/
def tegularef35_Map_Largest.l0 : Nat → Int → List (S53) → Int → Option (Int)
 | 0, _, _, _ => none
 | k + 1, x3, x4, x5 => if x5 < (x4.length : Int) then (if 0 ≤ x5 then (tegularef35_Map_Largest.l0 k (mx x3 ((rd_T53 x4 x5).f1)) x4 (wrap64 (x5 + 1))) else (none)) else (some x3)
def tegularef35_Map_Largest.f (k : Nat) (l0 : List Bool) : Option (Int) := (tegularef35_Map_Runs.f k l0).bind fun t411 => (tegularef35_Map_Largest.l0 k 0 t411 0)
theorem tegularef35_Map_Largest.mono_l : ∀ k, (∀ y0 y1 y2, LeO (tegularef35_Map_Largest.l0 k y0 y1 y2) (tegularef35_Map_Largest.l0 (k + 1) y0 y1 y2))
 | 0 => fun _ _ _ r h => by simp [tegularef35_Map_Largest.l0] at h
 | k + 1 => by
  have ih0 := tegularef35_Map_Largest.mono_l k
  ·
   intro y0 y1 y2
   unfold tegularef35_Map_Largest.l0
   repeat' first
   | (with_reducible exact ih0 _ _ _)
   | (with_reducible exact tegularef35_Map_Runs.mono _ _)
   | (with_reducible exact LeO.refl _)
   | (with_reducible exact LeO.none _)
   | (with_reducible refine LeO.ite ?_ ?_)
   | (with_reducible refine LeO.bind ?_ (fun _ => ?_))
   | exact ih0 _ _ _
   | exact tegularef35_Map_Runs.mono _ _
   | exact LeO.none _
   | refine LeO.ite ?_ ?_
   | refine LeO.bind ?_ (fun _ => ?_)
theorem tegularef35_Map_Largest.mono : ∀ a0 k, LeO (tegularef35_Map_Largest.f k a0) (tegularef35_Map_Largest.f (k + 1) a0) := by
 intro a0 k
 have ih0 := tegularef35_Map_Largest.mono_l k
 unfold tegularef35_Map_Largest.f
 repeat' first
   | (with_reducible exact ih0 _ _ _)
   | (with_reducible exact tegularef35_Map_Runs.mono _ _)
   | (with_reducible exact LeO.refl _)
   | (with_reducible exact LeO.none _)
   | (with_reducible refine LeO.ite ?_ ?_)
   | (with_reducible refine LeO.bind ?_ (fun _ => ?_))
   | exact ih0 _ _ _
   | exact tegularef35_Map_Runs.mono _ _
   | exact LeO.none _
   | refine LeO.ite ?_ ?_
   | refine LeO.bind ?_ (fun _ => ?_)
set_option maxHeartbeats 8000000 in
set_option maxRecDepth 100000 in
theorem tegularef35_Map_Largest.calls (k : Nat) (A0 : Option Addr) (c0 : Nat) (l0 : List Bool) (r : Int) (w : World) (hr0 : Kd.C Kd.bool w A0 l0.length l0) (hc0 : l0.length ≤ c0) (h : tegularef35_Map_Largest.f k l0 = some r) :
  Calls Try.prog 40 #[.slice A0 l0.length c0] w fun e w' => e = .returned (.int .i64 r) ∧ Below w.heap.size w w' := by
 have HR0 := Aside0.mk hr0
 have HC0 := Aside0.mk hc0
 clear hr0 hc0
 have HB := Aa (Below.refl w.heap.size w)
 have H : ((tegularef35_Map_Runs.f k l0).bind fun t411 => (tegularef35_Map_Largest.l0 k 0 t411 0)) = some r := h
 clear h
 replace H := Option.bind_eq_some_iff.mp H
 obtain ⟨t411, A20, H⟩ := H
 replace H : (tegularef35_Map_Largest.l0 k 0 t411 0) = some r := H
 have A2 := Aside0.mk A20
 clear A20
 have H' := Aside0.mk H
 clear H
 go_enter Try.func40, Try.ntmps40
 go_wp2_with (first | ((with_reducible refine gC 41 ?_); refine gL 7 Try.func41 #[.slice A0 l0.length c0] ?_; (with_reducible refine (tegularef35_Map_Runs.calls k _ _ l0 t411 _ ?side1 ?side2 A2.1).mono ?_); (case side1 => repeat (first | exact HR0.1 | (with_reducible refine Kd.C_alloc ?_ _) | (with_reducible refine Kd.C_drewN ?_ _) | (with_reducible refine Kd.C_drew ?_))); (case side2 => exact HC0.1); rintro e w3 ⟨v412, rfl, ho0, hb⟩; refine ⟨_, rfl, ?_⟩; have HO413 := Aa (Kd.R_lower ho0 (below_size (bU HB.1))); replace HB := sU HB hb; (try clear hb); (try clear ho0)))
 go_loopg [3, 5] k (fun kq v3 v5 w' => ∃ (x3_1 : Int) (x5_1 : Int), v3 = .int .i64 x3_1 ∧ v5 = .int .i64 x5_1 ∧ Aside0 (tegularef35_Map_Largest.l0 kq x3_1 t411 x5_1 = some r) ∧ Aside0 (kq ≤ k) ∧ Aside0 (Kd.R k53 53 w' w.heap.size (fun _ => True) v412 t411) ∧ Aside0 (Below w.heap.size w w'))
 case atStart => exact ⟨(0), (0), (by first | rfl | (simp; done) | (simp [*]; done)), (by first | rfl | (simp; done) | (simp [*]; done)), H', ⟨Nat.le_refl _⟩, ⟨rU HO413.1⟩, ⟨bU HB.1⟩⟩
 case round =>
  clear H'
  try clear p2
  obtain ⟨x3_1, x5_1, rfl, rfl, HA, HK1, HO_4, HB⟩ := hrel
  cases gk with
  | zero => exact absurd HA.1 (by simp [tegularef35_Map_Largest.l0])
  | succ k1 =>
   have H := HA.1
   clear HA
   simp only [tegularef35_Map_Largest.l0] at H
   by_cases c4 : x5_1 < (t411.length : Int)
   ·
    rw [if_pos c4] at H
    have c4b0 := decide_eq_true c4
    clear c4
    by_cases c5 : 0 ≤ x5_1
    ·
     rw [if_pos c5] at H
     have c5b0 := decide_eq_true c5
     clear c5
     obtain ⟨ji6, hji6⟩ : ∃ j_ : Int, (mx x3_1 ((rd_T53 t411 x5_1).f1)) = j_ := ⟨_, rfl⟩
     replace H : (tegularef35_Map_Largest.l0 k1 ji6 t411 (wrap64 (x5_1 + 1))) = some r := by first | (rw [hji6] at H; exact H) | (simp only [hji6] at H ⊢; exact H)
     have hji6_ : (if x3_1 < ((rd_T53 t411 x5_1).f1) then ((rd_T53 t411 x5_1).f1) else x3_1) = ji6 := hji6
     have H' := Aside0.mk H
     clear H
     obtain ⟨Ao7, co7, eo7⟩ := Kd.R_slice HO_4.1
     subst eo7
     have p414 : 0 ≤ (x5_1 : Int) := dT
     have q414 : x5_1 < (t411.length : Int) := dT
     obtain ⟨ad414, e414, hx414_0, hx414_1, hx414_2⟩ := at_T53 (Kd.R_reads' HO_4.1).2.2 x5_1 p414 q414
     cases e414
     replace p414 := eq_true p414
     replace q414 := eq_true q414
     go_wp2
     go_roundg k1
     case measure => have := HK1.1; omega
     case rel => exact ⟨(ji6), (wrap64 (x5_1 + 1)), (by first | rfl | (simp; done) | (simp only [← hji6] <;> (first | rfl | simp)) | (simp [*]; done)), (by first | rfl | (simp; done) | (simp [*]; done)), H', ⟨by have := HK1.1; omega⟩, ⟨rU HO_4.1⟩, ⟨bU HB.1⟩⟩
    ·
     rw [if_neg c5] at H
     exact absurd H (by simp)
   ·
    rw [if_neg c4] at H
    have c4b0 := decide_eq_false c4
    clear c4
    obtain rfl := Option.some.inj H
    obtain ⟨Ao8, co8, eo8⟩ := Kd.R_slice HO_4.1
    subst eo8
    go_wp2
    go_ret
    exact ⟨fT, bU HB.1⟩

end Go.Proofs.Ytcjpikjbjehjeaa.PAllocB
