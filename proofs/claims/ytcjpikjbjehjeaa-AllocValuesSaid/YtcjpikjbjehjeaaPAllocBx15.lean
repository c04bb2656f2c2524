-- Written for this claim by a program of this session (wip/), out of the translation's own print: Lean checks it
import Derived.Test.YtcjpikjbjehjeaaPAllocBx0
import Derived.Test.YtcjpikjbjehjeaaWRepsOne
import Derived.Test.YtcjpikjbjehjeaaPAllocBx13
namespace Go.Proofs.Ytcjpikjbjehjeaa.PAllocB
open Go.RowKit Go.Proofs.YtcjpikjbjehjeaaW.PrintWords Go.Proofs.YtcjpikjbjehjeaaW.PrintLast Go.Proofs.YtcjpikjbjehjeaaW.PrintMore
attribute [local go_sem] max2_int min2_int max_two min_two max_three min_three max_four min_four   -- for this text's walks alone
set_option linter.unusedVariables false
set_option linter.unusedSimpArgs false

/-! ### tegularef35_Map_room: function 51 -/
def tegularef35_Map_room.l0 : Nat → List Bool → Int → Int → Int → Option (Bool)
 | 0, _, _, _, _ => none
 | k + 1, x0, x1, x2, x7 => if x7 < (wrap64 (x1 + x2)) then (if x7 ≥ (x0.length : Int) then (some false) else (if 0 ≤ x7 then (if x7 < (x0.length : Int) then (if rdOf false x0 x7 = true then (some false) else (tegularef35_Map_room.l0 k x0 x1 x2 (wrap64 (x7 + 1)))) else (none)) else (none))) else (some true)
def tegularef35_Map_room.f (k : Nat) (l0 : List Bool) (a1 : Int) (a2 : Int) : Option (Bool) := tegularef35_Map_room.l0 k l0 a1 a2 a1
theorem tegularef35_Map_room.mono_l : ∀ k, (∀ y0 y1 y2 y3, LeO (tegularef35_Map_room.l0 k y0 y1 y2 y3) (tegularef35_Map_room.l0 (k + 1) y0 y1 y2 y3))
 | 0 => fun _ _ _ _ r h => by simp [tegularef35_Map_room.l0] at h
 | k + 1 => by
  have ih0 := tegularef35_Map_room.mono_l k
  ·
   intro y0 y1 y2 y3
   unfold tegularef35_Map_room.l0
   repeat' first
   | (with_reducible exact ih0 _ _ _ _)
   | (with_reducible exact LeO.refl _)
   | (with_reducible exact LeO.none _)
   | (with_reducible refine LeO.ite ?_ ?_)
   | (with_reducible refine LeO.bind ?_ (fun _ => ?_))
   | exact ih0 _ _ _ _
   | exact LeO.none _
   | refine LeO.ite ?_ ?_
   | refine LeO.bind ?_ (fun _ => ?_)
theorem tegularef35_Map_room.mono : ∀ a0 a1 a2 k, LeO (tegularef35_Map_room.f k a0 a1 a2) (tegularef35_Map_room.f (k + 1) a0 a1 a2) := by
 intro a0 a1 a2 k
 have ih0 := tegularef35_Map_room.mono_l k
 unfold tegularef35_Map_room.f
 repeat' first
   | (with_reducible exact ih0 _ _ _ _)
   | (with_reducible exact LeO.refl _)
   | (with_reducible exact LeO.none _)
   | (with_reducible refine LeO.ite ?_ ?_)
   | (with_reducible refine LeO.bind ?_ (fun _ => ?_))
   | exact ih0 _ _ _ _
   | exact LeO.none _
   | refine LeO.ite ?_ ?_
   | refine LeO.bind ?_ (fun _ => ?_)
set_option maxHeartbeats 8000000 in
set_option maxRecDepth 100000 in
theorem tegularef35_Map_room.calls (k : Nat) (A0 : Option Addr) (c0 : Nat) (l0 : List Bool) (a1 : Int) (a2 : Int) (r : Bool) (w : World) (hr0 : Kd.C Kd.bool w A0 l0.length l0) (hc0 : l0.length ≤ c0) (h : tegularef35_Map_room.f k l0 a1 a2 = some r) :
  Calls Try.prog 51 #[.slice A0 l0.length c0, .int .i64 a1, .int .i64 a2] w fun e w' => e = .returned (.bool r) ∧ Drawn0 w w' := by
 have HR0 := Aside0.mk hr0
 have HC0 := Aside0.mk hc0
 clear hr0 hc0
 have H : (tegularef35_Map_room.l0 k l0 a1 a2 a1) = some r := h
 clear h
 have H' := Aside0.mk H
 clear H
 go_enter Try.func51, Try.ntmps51
 go_wp2
 go_loopg [7] k (fun kq v7 w' => ∃ (x7_1 : Int), v7 = .int .i64 x7_1 ∧ Aside0 (tegularef35_Map_room.l0 kq l0 a1 a2 x7_1 = some r) ∧ Aside0 (kq ≤ k) ∧ Drawn0 w w')
 case atStart => exact ⟨(a1), (by first | rfl | (simp; done) | (simp [*]; done)), H', ⟨Nat.le_refl _⟩, by repeat (first | exact Drawn0.refl _ | apply Drawn0.step)⟩
 case round =>
  clear H'
  try clear p2
  obtain ⟨x7_1, rfl, HA, HK1, ⟨m1, rfl⟩⟩ := hrel
  cases gk with
  | zero => exact absurd HA.1 (by simp [tegularef35_Map_room.l0])
  | succ k1 =>
   have H := HA.1
   clear HA
   simp only [tegularef35_Map_room.l0] at H
   by_cases c4 : x7_1 < (wrap64 (a1 + a2))
   ·
    rw [if_pos c4] at H
    have c4b0 := decide_eq_true c4
    clear c4
    by_cases c5 : x7_1 ≥ (l0.length : Int)
    ·
     rw [if_pos c5] at H
     have c5b0 := decide_eq_true c5
     clear c5
     obtain rfl := Option.some.inj H
     go_wp2
     go_ret
     exact ⟨by first | rfl | (simp; done) | (simp [*]; done), by repeat (first | exact Drawn0.refl _ | apply Drawn0.step)⟩
    ·
     rw [if_neg c5] at H
     have c5b0 := decide_eq_false c5
     clear c5
     by_cases c6 : 0 ≤ x7_1
     ·
      rw [if_pos c6] at H
      have c6b0 := decide_eq_true c6
      clear c6
      by_cases c7 : x7_1 < (l0.length : Int)
      ·
       rw [if_pos c7] at H
       have c7b0 := decide_eq_true c7
       clear c7
       obtain ⟨bq8, hbq8⟩ : ∃ b_ : Bool, b_ = (rdOf false l0 x7_1) := ⟨_, rfl⟩
       replace H : (if bq8 = true then (some false) else (tegularef35_Map_room.l0 k1 l0 a1 a2 (wrap64 (x7_1 + 1)))) = some r := by rw [← hbq8] at H; exact H
       have Nbq8 := Aside0.mk hbq8
       clear hbq8
       by_cases c9 : bq8 = true
       ·
        subst c9
        have H1 : (some false) = some r := by rw [if_pos rfl] at H; exact H
        clear H
        have H := H1
        clear H1
        obtain rfl := Option.some.inj H
        have p432 : 0 ≤ (x7_1 : Int) := dT
        have q432 : x7_1 < (l0.length : Int) := dT
        obtain ⟨ad432, e432, hx432_0⟩ := Kd.at_bool HR0.1 x7_1 p432 q432
        (try rw [← Nbq8.1] at hx432_0)
        cases e432
        replace p432 := eq_true p432
        replace q432 := eq_true q432
        go_wp2
        go_ret
        exact ⟨by first | rfl | (simp; done) | (simp [*]; done), by repeat (first | exact Drawn0.refl _ | apply Drawn0.step)⟩
       ·
        replace c9 := Bool.eq_false_iff.mpr c9
        subst c9
        have H1 : (tegularef35_Map_room.l0 k1 l0 a1 a2 (wrap64 (x7_1 + 1))) = some r := by rw [if_neg (show ¬ (false = true) by decide)] at H; exact H
        clear H
        have H := H1
        clear H1
        have H' := Aside0.mk H
        clear H
        have p432 : 0 ≤ (x7_1 : Int) := dT
        have q432 : x7_1 < (l0.length : Int) := dT
        obtain ⟨ad432, e432, hx432_0⟩ := Kd.at_bool HR0.1 x7_1 p432 q432
        (try rw [← Nbq8.1] at hx432_0)
        cases e432
        replace p432 := eq_true p432
        replace q432 := eq_true q432
        go_wp2
        go_roundg k1
        case measure => have := HK1.1; omega
        case rel => exact ⟨(wrap64 (x7_1 + 1)), (by first | rfl | (simp; done) | (simp [*]; done)), H', ⟨by have := HK1.1; omega⟩, by repeat (first | exact Drawn0.refl _ | apply Drawn0.step)⟩
      ·
       rw [if_neg c7] at H
       exact absurd H (by simp)
     ·
      rw [if_neg c6] at H
      exact absurd H (by simp)
   ·
    rw [if_neg c4] at H
    have c4b0 := decide_eq_false c4
    clear c4
    obtain rfl := Option.some.inj H
    go_wp2
    go_ret
    exact ⟨by first | rfl | (simp; done) | (simp [*]; done), by repeat (first | exact Drawn0.refl _ | apply Drawn0.step)⟩

/-! ### tegularef35_size: function 53 -/
def tegularef35_size.l0 : Nat → List (S53) → Int → Int → Option (Int)
 | 0, _, _, _ => none
 | k + 1, x0, x3, x4 => if x4 < (x0.length : Int) then (if 0 ≤ x4 then (tegularef35_size.l0 k x0 (wrap64 (x3 + ((rd_T53 x0 x4).f1))) (wrap64 (x4 + 1))) else (none)) else (some x3)
def tegularef35_size.f (k : Nat) (l0 : List (S53)) : Option (Int) := tegularef35_size.l0 k l0 0 0
theorem tegularef35_size.mono_l : ∀ k, (∀ y0 y1 y2, LeO (tegularef35_size.l0 k y0 y1 y2) (tegularef35_size.l0 (k + 1) y0 y1 y2))
 | 0 => fun _ _ _ r h => by simp [tegularef35_size.l0] at h
 | k + 1 => by
  have ih0 := tegularef35_size.mono_l k
  ·
   intro y0 y1 y2
   unfold tegularef35_size.l0
   repeat' first
   | (with_reducible exact ih0 _ _ _)
   | (with_reducible exact LeO.refl _)
   | (with_reducible exact LeO.none _)
   | (with_reducible refine LeO.ite ?_ ?_)
   | (with_reducible refine LeO.bind ?_ (fun _ => ?_))
   | exact ih0 _ _ _
   | exact LeO.none _
   | refine LeO.ite ?_ ?_
   | refine LeO.bind ?_ (fun _ => ?_)
theorem tegularef35_size.mono : ∀ a0 k, LeO (tegularef35_size.f k a0) (tegularef35_size.f (k + 1) a0) := by
 intro a0 k
 have ih0 := tegularef35_size.mono_l k
 unfold tegularef35_size.f
 repeat' first
   | (with_reducible exact ih0 _ _ _)
   | (with_reducible exact LeO.refl _)
   | (with_reducible exact LeO.none _)
   | (with_reducible refine LeO.ite ?_ ?_)
   | (with_reducible refine LeO.bind ?_ (fun _ => ?_))
   | exact ih0 _ _ _
   | exact LeO.none _
   | refine LeO.ite ?_ ?_
   | refine LeO.bind ?_ (fun _ => ?_)
set_option maxHeartbeats 8000000 in
set_option maxRecDepth 100000 in
theorem tegularef35_size.calls (k : Nat) (A0 : Option Addr) (c0 : Nat) (l0 : List (S53)) (r : Int) (w : World) (hr0 : Kd.C k53 w A0 l0.length l0) (hc0 : l0.length ≤ c0) (h : tegularef35_size.f k l0 = some r) :
  Calls Try.prog 53 #[.slice A0 l0.length c0] w fun e w' => e = .returned (.int .i64 r) ∧ Drawn0 w w' := by
 have HR0 := Aside0.mk hr0
 have HC0 := Aside0.mk hc0
 clear hr0 hc0
 have H : (tegularef35_size.l0 k l0 0 0) = some r := h
 clear h
 have H' := Aside0.mk H
 clear H
 go_enter Try.func53, Try.ntmps53
 go_wp2
 go_loopg [3, 4] k (fun kq v3 v4 w' => ∃ (x3_1 : Int) (x4_1 : Int), v3 = .int .i64 x3_1 ∧ v4 = .int .i64 x4_1 ∧ Aside0 (tegularef35_size.l0 kq l0 x3_1 x4_1 = some r) ∧ Aside0 (kq ≤ k) ∧ Drawn0 w w')
 case atStart => exact ⟨(0), (0), (by first | rfl | (simp; done) | (simp [*]; done)), (by first | rfl | (simp; done) | (simp [*]; done)), H', ⟨Nat.le_refl _⟩, by repeat (first | exact Drawn0.refl _ | apply Drawn0.step)⟩
 case round =>
  clear H'
  obtain ⟨x3_1, x4_1, rfl, rfl, HA, HK1, ⟨m1, rfl⟩⟩ := hrel
  cases gk with
  | zero => exact absurd HA.1 (by simp [tegularef35_size.l0])
  | succ k1 =>
   have H := HA.1
   clear HA
   simp only [tegularef35_size.l0] at H
   by_cases c2 : x4_1 < (l0.length : Int)
   ·
    rw [if_pos c2] at H
    have c2b0 := decide_eq_true c2
    clear c2
    by_cases c3 : 0 ≤ x4_1
    ·
     rw [if_pos c3] at H
     have c3b0 := decide_eq_true c3
     clear c3
     have H' := Aside0.mk H
     clear H
     have p433 : 0 ≤ (x4_1 : Int) := dT
     have q433 : x4_1 < (l0.length : Int) := dT
     obtain ⟨ad433, e433, hx433_0, hx433_1, hx433_2⟩ := at_T53 HR0.1 x4_1 p433 q433
     cases e433
     replace p433 := eq_true p433
     replace q433 := eq_true q433
     go_wp2
     go_roundg k1
     case measure => have := HK1.1; omega
     case rel => exact ⟨(wrap64 (x3_1 + ((rd_T53 l0 x4_1).f1))), (wrap64 (x4_1 + 1)), (by first | rfl | (simp; done) | (simp [*]; done)), (by first | rfl | (simp; done) | (simp [*]; done)), H', ⟨by have := HK1.1; omega⟩, by repeat (first | exact Drawn0.refl _ | apply Drawn0.step)⟩
    ·
     rw [if_neg c3] at H
     exact absurd H (by simp)
   ·
    rw [if_neg c2] at H
    have c2b0 := decide_eq_false c2
    clear c2
    obtain rfl := Option.some.inj H
    go_wp2
    go_ret
    exact ⟨by first | rfl | (simp; done) | (simp [*]; done), by repeat (first | exact Drawn0.refl _ | apply Drawn0.step)⟩

/-! ### tegularef35_Map_choose: function 38 -/
mutual
def tegularef35_Map_choose.l0 : Nat → List Bool → Int → Int → Int → Option ((List (S53)))
 | 0, _, _, _, _ => none
 | k + 1, x0, x1, x2, x7 => if x7 < (x0.length : Int) then ((tegularef35_Map_room.f k x0 x7 x1).bind fun t434 => (if t434 = true then (some (([(⟨0, x1, x7⟩ : S53)] : List (S53)))) else (tegularef35_Map_choose.l0 k x0 x1 x2 (wrap64 (x7 + 1))))) else (tegularef35_Map_choose.l1 k x0 x1 x2 0)
def tegularef35_Map_choose.l1 : Nat → List Bool → Int → Int → Int → Option ((List (S53)))
 | 0, _, _, _, _ => none
 | k + 1, x0, x1, x2, x8 => if x8 < (x0.length : Int) then ((tegularef35_Map_room.f k x0 x8 x1).bind fun t438 => (if t438 = true then (some (([(⟨0, x1, x8⟩ : S53)] : List (S53)))) else (tegularef35_Map_choose.l1 k x0 x1 x2 (wrap64 (x8 + 1))))) else ((tegularef35_Map_some.f k x0 x2 (x0.length : Int) x1).bind fun t442 => ((tegularef35_size.f k t442).bind fun t445 => ((tegularef35_Map_some.f k x0 0 x2 (wrap64 (x1 - t445))).bind fun t446 => (if t442.length + t446.length < 5864062014805 then (some (t442 ++ t446)) else (none)))))
end
def tegularef35_Map_choose.f (k : Nat) (l0 : List Bool) (a1 : Int) (a2 : Int) : Option ((List (S53))) := if a1 = 0 then (some ([] : List (S53))) else (tegularef35_Map_choose.l0 k l0 a1 a2 a2)
theorem tegularef35_Map_choose.mono_l : ∀ k, (∀ y0 y1 y2 y3, LeO (tegularef35_Map_choose.l0 k y0 y1 y2 y3) (tegularef35_Map_choose.l0 (k + 1) y0 y1 y2 y3)) ∧ (∀ y0 y1 y2 y3, LeO (tegularef35_Map_choose.l1 k y0 y1 y2 y3) (tegularef35_Map_choose.l1 (k + 1) y0 y1 y2 y3))
 | 0 => ⟨fun _ _ _ _ r h => by simp [tegularef35_Map_choose.l0] at h, fun _ _ _ _ r h => by simp [tegularef35_Map_choose.l1] at h⟩
 | k + 1 => by
  obtain ⟨ih0, ih1⟩ := tegularef35_Map_choose.mono_l k
  refine ⟨?_, ?_⟩
  all_goals (intros; (first | unfold tegularef35_Map_choose.l0 | unfold tegularef35_Map_choose.l1))
  all_goals repeat' first
  | (with_reducible exact ih0 _ _ _ _)
  | (with_reducible exact ih1 _ _ _ _)
  | (with_reducible exact tegularef35_Map_room.mono _ _ _ _)
  | (with_reducible exact tegularef35_Map_some.mono _ _ _ _ _)
  | (with_reducible exact tegularef35_size.mono _ _)
  | (with_reducible exact LeO.refl _)
  | (with_reducible exact LeO.none _)
  | (with_reducible refine LeO.ite ?_ ?_)
  | (with_reducible refine LeO.bind ?_ (fun _ => ?_))
  | exact ih0 _ _ _ _
  | exact ih1 _ _ _ _
  | exact tegularef35_Map_room.mono _ _ _ _
  | exact tegularef35_Map_some.mono _ _ _ _ _
  | exact tegularef35_size.mono _ _
  | exact LeO.none _
  | refine LeO.ite ?_ ?_
  | refine LeO.bind ?_ (fun _ => ?_)
theorem tegularef35_Map_choose.mono : ∀ a0 a1 a2 k, LeO (tegularef35_Map_choose.f k a0 a1 a2) (tegularef35_Map_choose.f (k + 1) a0 a1 a2) := by
 intro a0 a1 a2 k
 obtain ⟨ih0, ih1⟩ := tegularef35_Map_choose.mono_l k
 unfold tegularef35_Map_choose.f
 repeat' first
   | (with_reducible exact ih0 _ _ _ _)
   | (with_reducible exact ih1 _ _ _ _)
   | (with_reducible exact tegularef35_Map_room.mono _ _ _ _)
   | (with_reducible exact tegularef35_Map_some.mono _ _ _ _ _)
   | (with_reducible exact tegularef35_size.mono _ _)
   | (with_reducible exact LeO.refl _)
   | (with_reducible exact LeO.none _)
   | (with_reducible refine LeO.ite ?_ ?_)
   | (with_reducible refine LeO.bind ?_ (fun _ => ?_))
   | exact ih0 _ _ _ _
   | exact ih1 _ _ _ _
   | exact tegularef35_Map_room.mono _ _ _ _
   | exact tegularef35_Map_some.mono _ _ _ _ _
   | exact tegularef35_size.mono _ _
   | exact LeO.none _
   | refine LeO.ite ?_ ?_
   | refine LeO.bind ?_ (fun _ => ?_)
set_option maxHeartbeats 8000000 in
set_option maxRecDepth 100000 in
theorem tegularef35_Map_choose.calls (k : Nat) (A0 : Option Addr) (c0 : Nat) (l0 : List Bool) (a1 : Int) (a2 : Int) (r : List (S53)) (w : World) (hr0 : Kd.C Kd.bool w A0 l0.length l0) (hc0 : l0.length ≤ c0) (h : tegularef35_Map_choose.f k l0 a1 a2 = some r) :
  Calls Try.prog 38 #[.slice A0 l0.length c0, .int .i64 a1, .int .i64 a2] w fun e w' => ∃ v0_ : Value, e = .returned (v0_) ∧ Kd.R k53 53 w' w.heap.size (fun _ => True) v0_ r ∧ Below w.heap.size w w' := by
 have hu53 := Try.underlying53
 have HR0 := Aside0.mk hr0
 have HC0 := Aside0.mk hc0
 clear hr0 hc0
 have HB := Aa (Below.refl w.heap.size w)
 have H : (if a1 = 0 then (some ([] : List (S53))) else (tegularef35_Map_choose.l0 k l0 a1 a2 a2)) = some r := h
 clear h
 by_cases c4 : a1 = 0
 ·
  rw [if_pos c4] at H
  have c4b0 : (a1 == 0) = true := beq_iff_eq.mpr c4
  have c4b1 : (a1 != 0) = false := bne_eq_false_iff_eq.mpr c4
  clear c4
  obtain rfl := Option.some.inj H
  go_enter Try.func38, Try.ntmps38
  go_wp2
  go_ret
  exact ⟨_, fT, by first | exact Kd.R_nil _ _ _ _ _ | exact Kd.N_nil _ _ _ _ _ | exact Kd.V_nil _ _ _ _ _ | exact Kd.Q_nil _ _ _ _ _ | exact Kd.S_nil _ _ _ _ _, bU HB.1⟩
 ·
  rw [if_neg c4] at H
  have c4b0 : (a1 == 0) = false := beq_eq_false_iff_ne.mpr c4
  have c4b1 : (a1 != 0) = true := bne_iff_ne.mpr c4
  have H' := Aside0.mk H
  clear H
  go_enter Try.func38, Try.ntmps38
  go_wp2
  go_loopg [7] k (fun kq v7 w' => ∃ (x7_1 : Int), v7 = .int .i64 x7_1 ∧ Aside0 (tegularef35_Map_choose.l0 kq l0 a1 a2 x7_1 = some r) ∧ Aside0 (kq ≤ k) ∧ Aside0 (Below w.heap.size w w'))
  case atStart => exact ⟨(a2), (by first | rfl | (simp; done) | (simp [*]; done)), H', ⟨Nat.le_refl _⟩, ⟨bU HB.1⟩⟩
  case round =>
   clear H'
   try clear p2
   try clear c3
   try clear c4
   try clear c4b0
   try clear c4b1
   obtain ⟨x7_1, rfl, HA, HK1, HB⟩ := hrel
   cases gk with
   | zero => exact absurd HA.1 (by simp [tegularef35_Map_choose.l0])
   | succ k1 =>
    have H := HA.1
    clear HA
    simp only [tegularef35_Map_choose.l0] at H
    by_cases c5 : x7_1 < (l0.length : Int)
    ·
     rw [if_pos c5] at H
     have c5b0 := decide_eq_true c5
     clear c5
     replace H := Option.bind_eq_some_iff.mp H
     obtain ⟨t434, A60, H⟩ := H
     replace H : (if t434 = true then (some (([(⟨0, a1, x7_1⟩ : S53)] : List (S53)))) else (tegularef35_Map_choose.l0 k1 l0 a1 a2 (wrap64 (x7_1 + 1)))) = some r := H
     have A6 := Aside0.mk A60
     clear A60
     by_cases c7 : t434 = true
     ·
      subst c7
      have H1 : (some (([(⟨0, a1, x7_1⟩ : S53)] : List (S53)))) = some r := by rw [if_pos rfl] at H; exact H
      clear H
      have H := H1
      clear H1
      obtain ⟨y435, hy435⟩ : ∃ y_ : List (S53), y_ = (([(⟨0, a1, x7_1⟩ : S53)] : List (S53))) := ⟨_, rfl⟩
      replace H : (some y435) = some r := by first | (rw [hy435]; exact H) | exact H
      have Ny435 := Aside0.mk hy435
      clear hy435
      obtain rfl := Option.some.inj H
      go_wp2_with (first | ((with_reducible refine gC 51 ?_); refine gL 22 Try.func51 #[.slice A0 l0.length c0, .int .i64 x7_1, .int .i64 a1] ?_; (with_reducible refine (tegularef35_Map_room.calls k1 _ _ l0 x7_1 a1 true _ ?side1 ?side2 A6.1).mono ?_); (case side1 => exact cU (Kd.C_below HR0.1 HB.1)); (case side2 => exact HC0.1); rintro e w' ⟨rfl, ⟨nd, rfl⟩⟩; refine ⟨_, rfl, ?_⟩) | ((with_reducible refine gD 26 ?_); refine Kd.R_lit k53 _ 53 ?hg (N := 26) ?hd (xs := ([(⟨0, a1, x7_1⟩ : S53)] : List (S53))) (inner := [.int .i64 0, .int .i64 a1, .int .i64 x7_1]) (ok := fun _ => True) (okp := fun _ => True) ?hr ?hp (fun _ hk => hk) trivial (Below.refl _ _) (Nat.le_refl _) (by simp) ?_; (case hd => rfl); (case hg => rfl); (case hr => first | (go_simp; done) | (go_simp; rfl)); (case hp => exact (Reps.c3 (show Kd.M k53 _ _ _ (⟨0, a1, x7_1⟩ : S53) [.int .i64 0, .int .i64 a1, .int .i64 x7_1] from (k53_mkM _ _ _ (⟨0, a1, x7_1⟩ : S53) )) (Reps.none _ _))); intro v436 w8 ho9 hb hg_ hnew_; clear hg_ hnew_; (first | rw [← Ny435.1] at ho9 | (simp only [Int.reduceToNat] at ho9; rw [← Ny435.1] at ho9)); have HO437 := Aa (Kd.R_lower ho9 (below_size (bU HB.1))); replace HB := sU HB hb; clear hb ho9))
      go_ret
      exact ⟨_, fT, rU HO437.1, bU HB.1⟩
     ·
      replace c7 := Bool.eq_false_iff.mpr c7
      subst c7
      have H1 : (tegularef35_Map_choose.l0 k1 l0 a1 a2 (wrap64 (x7_1 + 1))) = some r := by rw [if_neg (show ¬ (false = true) by decide)] at H; exact H
      clear H
      have H := H1
      clear H1
      have H' := Aside0.mk H
      clear H
      go_wp2_with (first | ((with_reducible refine gC 51 ?_); refine gL 22 Try.func51 #[.slice A0 l0.length c0, .int .i64 x7_1, .int .i64 a1] ?_; (with_reducible refine (tegularef35_Map_room.calls k1 _ _ l0 x7_1 a1 false _ ?side1 ?side2 A6.1).mono ?_); (case side1 => exact cU (Kd.C_below HR0.1 HB.1)); (case side2 => exact HC0.1); rintro e w' ⟨rfl, ⟨nd, rfl⟩⟩; refine ⟨_, rfl, ?_⟩))
      go_roundg k1
      case measure => have := HK1.1; omega
      case rel => exact ⟨(wrap64 (x7_1 + 1)), (by first | rfl | (simp; done) | (simp [*]; done)), H', ⟨by have := HK1.1; omega⟩, ⟨bU HB.1⟩⟩
    ·
     rw [if_neg c5] at H
     have c5b0 := decide_eq_false c5
     clear c5
     have H' := Aside0.mk H
     clear H
     go_wp2
     go_loopg [8] k1 (fun kq v8 w' => ∃ (x8_2 : Int), v8 = .int .i64 x8_2 ∧ Aside0 (tegularef35_Map_choose.l1 kq l0 a1 a2 x8_2 = some r) ∧ Aside0 (kq ≤ k1) ∧ Aside0 (Below w.heap.size w w'))
     case atStart => exact ⟨(0), (by first | rfl | (simp; done) | (simp [*]; done)), H', ⟨Nat.le_refl _⟩, ⟨bU HB.1⟩⟩
     case round =>
      clear H'
      try clear p2
      try clear c3
      try clear c4
      try clear c4b0
      try clear c4b1
      try clear c5
      try clear c5b0
      try clear p6
      try clear c7
      try clear p2
      obtain ⟨x8_2, rfl, HA, HK2, HB⟩ := hrel
      cases gk with
      | zero => exact absurd HA.1 (by simp [tegularef35_Map_choose.l1])
      | succ k2 =>
       have H := HA.1
       clear HA
       simp only [tegularef35_Map_choose.l1] at H
       by_cases c10 : x8_2 < (l0.length : Int)
       ·
        rw [if_pos c10] at H
        have c10b0 := decide_eq_true c10
        clear c10
        replace H := Option.bind_eq_some_iff.mp H
        obtain ⟨t438, A110, H⟩ := H
        replace H : (if t438 = true then (some (([(⟨0, a1, x8_2⟩ : S53)] : List (S53)))) else (tegularef35_Map_choose.l1 k2 l0 a1 a2 (wrap64 (x8_2 + 1)))) = some r := H
        have A11 := Aside0.mk A110
        clear A110
        by_cases c12 : t438 = true
        ·
         subst c12
         have H1 : (some (([(⟨0, a1, x8_2⟩ : S53)] : List (S53)))) = some r := by rw [if_pos rfl] at H; exact H
         clear H
         have H := H1
         clear H1
         obtain ⟨y439, hy439⟩ : ∃ y_ : List (S53), y_ = (([(⟨0, a1, x8_2⟩ : S53)] : List (S53))) := ⟨_, rfl⟩
         replace H : (some y439) = some r := by first | (rw [hy439]; exact H) | exact H
         have Ny439 := Aside0.mk hy439
         clear hy439
         obtain rfl := Option.some.inj H
         go_wp2_with (first | ((with_reducible refine gC 51 ?_); refine gL 36 Try.func51 #[.slice A0 l0.length c0, .int .i64 x8_2, .int .i64 a1] ?_; (with_reducible refine (tegularef35_Map_room.calls k2 _ _ l0 x8_2 a1 true _ ?side1 ?side2 A11.1).mono ?_); (case side1 => exact cU (Kd.C_below HR0.1 HB.1)); (case side2 => exact HC0.1); rintro e w' ⟨rfl, ⟨nd, rfl⟩⟩; refine ⟨_, rfl, ?_⟩) | ((with_reducible refine gD 40 ?_); refine Kd.R_lit k53 _ 53 ?hg (N := 40) ?hd (xs := ([(⟨0, a1, x8_2⟩ : S53)] : List (S53))) (inner := [.int .i64 0, .int .i64 a1, .int .i64 x8_2]) (ok := fun _ => True) (okp := fun _ => True) ?hr ?hp (fun _ hk => hk) trivial (Below.refl _ _) (Nat.le_refl _) (by simp) ?_; (case hd => rfl); (case hg => rfl); (case hr => first | (go_simp; done) | (go_simp; rfl)); (case hp => exact (Reps.c3 (show Kd.M k53 _ _ _ (⟨0, a1, x8_2⟩ : S53) [.int .i64 0, .int .i64 a1, .int .i64 x8_2] from (k53_mkM _ _ _ (⟨0, a1, x8_2⟩ : S53) )) (Reps.none _ _))); intro v440 w13 ho14 hb hg_ hnew_; clear hg_ hnew_; (first | rw [← Ny439.1] at ho14 | (simp only [Int.reduceToNat] at ho14; rw [← Ny439.1] at ho14)); have HO441 := Aa (Kd.R_lower ho14 (below_size (bU HB.1))); replace HB := sU HB hb; clear hb ho14))
         go_ret
         exact ⟨_, fT, rU HO441.1, bU HB.1⟩
        ·
         replace c12 := Bool.eq_false_iff.mpr c12
         subst c12
         have H1 : (tegularef35_Map_choose.l1 k2 l0 a1 a2 (wrap64 (x8_2 + 1))) = some r := by rw [if_neg (show ¬ (false = true) by decide)] at H; exact H
         clear H
         have H := H1
         clear H1
         have H' := Aside0.mk H
         clear H
         go_wp2_with (first | ((with_reducible refine gC 51 ?_); refine gL 36 Try.func51 #[.slice A0 l0.length c0, .int .i64 x8_2, .int .i64 a1] ?_; (with_reducible refine (tegularef35_Map_room.calls k2 _ _ l0 x8_2 a1 false _ ?side1 ?side2 A11.1).mono ?_); (case side1 => exact cU (Kd.C_below HR0.1 HB.1)); (case side2 => exact HC0.1); rintro e w' ⟨rfl, ⟨nd, rfl⟩⟩; refine ⟨_, rfl, ?_⟩))
         go_roundg k2
         case measure => have := HK1.1; have := HK2.1; omega
         case rel => exact ⟨(wrap64 (x8_2 + 1)), (by first | rfl | (simp; done) | (simp [*]; done)), H', ⟨by have := HK1.1; have := HK2.1; omega⟩, ⟨bU HB.1⟩⟩
       ·
        rw [if_neg c10] at H
        have c10b0 := decide_eq_false c10
        clear c10
        replace H := Option.bind_eq_some_iff.mp H
        obtain ⟨t442, A150, H⟩ := H
        replace H : ((tegularef35_size.f k2 t442).bind fun t445 => ((tegularef35_Map_some.f k2 l0 0 a2 (wrap64 (a1 - t445))).bind fun t446 => (if t442.length + t446.length < 5864062014805 then (some (t442 ++ t446)) else (none)))) = some r := H
        have A15 := Aside0.mk A150
        clear A150
        replace H := Option.bind_eq_some_iff.mp H
        obtain ⟨t445, A160, H⟩ := H
        replace H : ((tegularef35_Map_some.f k2 l0 0 a2 (wrap64 (a1 - t445))).bind fun t446 => (if t442.length + t446.length < 5864062014805 then (some (t442 ++ t446)) else (none))) = some r := H
        have A16 := Aside0.mk A160
        clear A160
        replace H := Option.bind_eq_some_iff.mp H
        obtain ⟨t446, A170, H⟩ := H
        replace H : (if t442.length + t446.length < 5864062014805 then (some (t442 ++ t446)) else (none)) = some r := H
        have A17 := Aside0.mk A170
        clear A170
        by_cases c18 : t442.length + t446.length < 5864062014805
        ·
         rw [if_pos c18] at H
         have LMc18 := Aside0.mk c18
         clear c18
         obtain ⟨y449, hy449⟩ : ∃ y_ : List (S53), y_ = (t442 ++ t446) := ⟨_, rfl⟩
         replace H : (some y449) = some r := by first | (rw [hy449]; exact H) | exact H
         have Ny449 := Aside0.mk hy449
         clear hy449
         obtain rfl := Option.some.inj H
         go_wp2_with (first | ((with_reducible refine gC 52 ?_); refine gL 46 Try.func52 #[.slice A0 l0.length c0, .int .i64 a2, .int .i64 (l0.length : Int), .int .i64 a1] ?_; (with_reducible refine (tegularef35_Map_some.calls k2 _ _ l0 a2 (l0.length : Int) a1 t442 _ ?side1 ?side2 A15.1).mono ?_); (case side1 => exact cU (Kd.C_below HR0.1 HB.1)); (case side2 => exact HC0.1); rintro e w19 ⟨v443, rfl, ho0, hb⟩; refine ⟨_, rfl, ?_⟩; have HO444 := Aa (Kd.R_lower ho0 (below_size (bU HB.1))); replace HB := sU HB hb; (try clear hb); (try clear hk); (try clear ho0); obtain ⟨Ao20, co20, eo20⟩ := Kd.R_slice HO444.1; subst eo20) | ((with_reducible refine gC 53 ?_); refine gL 52 Try.func53 #[.slice Ao20 t442.length co20] ?_; (with_reducible refine (tegularef35_size.calls k2 _ _ t442 t445 _ ?side1 ?side2 A16.1).mono ?_); (case side1 => repeat (first | exact (Kd.R_reads' HO444.1).2.2 | (with_reducible refine Kd.C_alloc ?_ _) | (with_reducible refine Kd.C_drewN ?_ _) | (with_reducible refine Kd.C_drew ?_))); (case side2 => exact (Kd.R_reads' HO444.1).2.1); rintro e w' ⟨rfl, ⟨nd, rfl⟩⟩; refine ⟨_, rfl, ?_⟩) | ((with_reducible refine gC 52 ?_); refine gL 54 Try.func52 #[.slice A0 l0.length c0, .int .i64 0, .int .i64 a2, .int .i64 (wrap64 (a1 - t445))] ?_; (with_reducible refine (tegularef35_Map_some.calls k2 _ _ l0 0 a2 (wrap64 (a1 - t445)) t446 _ ?side1 ?side2 A17.1).mono ?_); (case side1 => repeat (first | exact (Kd.C_below HR0.1 (bU HB.1)) | (with_reducible refine Kd.C_alloc ?_ _) | (with_reducible refine Kd.C_drewN ?_ _) | (with_reducible refine Kd.C_drew ?_))); (case side2 => exact HC0.1); rintro e w21 ⟨v447, rfl, ho0, hb⟩; refine ⟨_, rfl, ?_⟩; have HO448 := Aa (Kd.R_lower (Kd.R_new' ho0 (Kd.R_lt (rU HO444.1))) (below_size (bU HB.1))); replace HO444 := rE HO444 ho0 hb; replace HB := sU HB hb; (try clear hb); (try clear hk); (try clear ho0); obtain ⟨Ao23, co23, eo23⟩ := Kd.R_slice HO448.1; subst eo23) | ((with_reducible refine gate_builtin (b := .append) (xs := #[.tmp 47, .tmp 54]) rfl ?_); at_builtin; refine Kd.R_append_rows k53 (w0 := w) w.heap.size rfl (.tmp 47) (.tmp 54) 24 53 (.agg #[(.int .i64 0), (.int .i64 0), (.int .i64 0)]) 24 rfl Try.underlying24 info53 rfl (by decide) (by omega) (.slice Ao20 t442.length co20) t442 t446 _ _ _ (fun k_ => nb k_ Ao23 t446.length co23) (fun _ => False) rfl rfl ?aO ?aR (fun _ _ h => h) (fun _ h => h.elim) ?aF ?aB ?aS ?aL ?_; (case aR => repeat (first | exact (Kd.R_reads' HO448.1).2.2 | (with_reducible refine Kd.C_alloc ?_ _) | (with_reducible refine Kd.C_drewN ?_ _) | (with_reducible refine Kd.C_drew ?_))); (case aB => exact (bU HB.1)); (case aF => exact (fun k_ hk => Kd.fresh' (Kd.R_lt (rU HO448.1)) k_ hk)); (case aO => exact (rU (Kd.R_mono HO444.1 (fun _ hk => hk.2)))); (case aS => exact (below_size (bU HB.1))); (case aL => have := LMc18.1; omega); intro v450 w22 ho hb hg hat; rw [← Ny449.1] at ho; have n0_ := Aa (Kd.R_after (ok := (fun _ => True)) (rU HO448.1) hg hat); have n1_ := Aa (hb); have n2_ := Aa (ho); clear HO448; clear HB; clear HO444; have HO448 := n0_; have HB := n1_; have HO451 := n2_; clear n0_ n1_ n2_; clear ho hb hg hat))
         go_ret
         exact ⟨_, fT, rU (Kd.R_mono HO451.1 (fun _ hk => trivial)), bU HB.1⟩
        ·
         rw [if_neg c18] at H
         exact absurd H (by simp)

end Go.Proofs.Ytcjpikjbjehjeaa.PAllocB
