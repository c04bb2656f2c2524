-- Written for this claim by a program of this session (wip/), out of the translation's own print: Lean checks it
import Derived.Test.YtnloofhpdlggnaaPRefcountx0
import Derived.Test.YtnloofhpdlggnaaPRefcountx4
namespace Go.Proofs.Ytnloofhpdlggnaa.PRefcount
open Go.RowKit Go.Proofs.YtnloofhpdlggnaaW.PrintWords Go.Proofs.YtnloofhpdlggnaaW.PrintLast Go.Proofs.YtnloofhpdlggnaaW.PrintMore
attribute [local go_sem] max2_int min2_int max_two min_two max_three min_three max_four min_four   -- for this text's walks alone
set_option linter.unusedVariables false
set_option linter.unusedSimpArgs false

/-! ### tegulalaw34_few: function 10 -/
def tegulalaw34_few.l0 : Nat → List (S57) → Int → Option (Bool)
 | 0, _, _ => none
 | k + 1, x0, x3 => if x3 < (x0.length : Int) then (if 0 ≤ x3 then (if (((rd_T57 x0 x3).f1).length : Int) > 8 then (some false) else (tegulalaw34_few.l0 k x0 (wrap64 (x3 + 1)))) else (none)) else (some (decide ((x0.length : Int) ≤ 20)))
def tegulalaw34_few.f (k : Nat) (l0 : List (S57)) : Option (Bool) := tegulalaw34_few.l0 k l0 0
theorem tegulalaw34_few.mono_l : ∀ k, (∀ y0 y1, LeO (tegulalaw34_few.l0 k y0 y1) (tegulalaw34_few.l0 (k + 1) y0 y1))
 | 0 => fun _ _ r h => by simp [tegulalaw34_few.l0] at h
 | k + 1 => by
  have ih0 := tegulalaw34_few.mono_l k
  ·
   intro y0 y1
   unfold tegulalaw34_few.l0
   repeat' first
   | (with_reducible exact ih0 _ _)
   | (with_reducible exact LeO.refl _)
   | (with_reducible exact LeO.none _)
   | (with_reducible refine LeO.ite ?_ ?_)
   | (with_reducible refine LeO.bind ?_ (fun _ => ?_))
   | exact ih0 _ _
   | exact LeO.none _
   | refine LeO.ite ?_ ?_
   | refine LeO.bind ?_ (fun _ => ?_)
theorem tegulalaw34_few.mono : ∀ a0 k, LeO (tegulalaw34_few.f k a0) (tegulalaw34_few.f (k + 1) a0) := by
 intro a0 k
 have ih0 := tegulalaw34_few.mono_l k
 unfold tegulalaw34_few.f
 repeat' first
   | (with_reducible exact ih0 _ _)
   | (with_reducible exact LeO.refl _)
   | (with_reducible exact LeO.none _)
   | (with_reducible refine LeO.ite ?_ ?_)
   | (with_reducible refine LeO.bind ?_ (fun _ => ?_))
   | exact ih0 _ _
   | exact LeO.none _
   | refine LeO.ite ?_ ?_
   | refine LeO.bind ?_ (fun _ => ?_)
set_option maxHeartbeats 8000000 in
set_option maxRecDepth 100000 in
theorem tegulalaw34_few.calls (k : Nat) (A0 : Option Addr) (c0 : Nat) (l0 : List (S57)) (r : Bool) (w : World) (hr0 : Kd.C k57 w A0 l0.length l0) (hc0 : l0.length ≤ c0) (h : tegulalaw34_few.f k l0 = some r) :
  Calls Try.prog 10 #[.slice A0 l0.length c0] w fun e w' => e = .returned (.bool r) ∧ Drawn0 w w' := by
 have HR0 := Aside0.mk hr0
 have HC0 := Aside0.mk hc0
 clear hr0 hc0
 have H : (tegulalaw34_few.l0 k l0 0) = some r := h
 clear h
 have H' := Aside0.mk H
 clear H
 go_enter Try.func10, Try.ntmps10
 go_wp2
 go_loopg [3] k (fun kq v3 w' => ∃ (x3_1 : Int), v3 = .int .i64 x3_1 ∧ Aside0 (tegulalaw34_few.l0 kq l0 x3_1 = some r) ∧ Aside0 (kq ≤ k) ∧ Drawn0 w w')
 case atStart => exact ⟨(0), (by first | rfl | (simp; done) | (simp [*]; done)), H', ⟨Nat.le_refl _⟩, by repeat (first | exact Drawn0.refl _ | apply Drawn0.step)⟩
 case round =>
  clear H'
  try clear c1
  obtain ⟨x3_1, rfl, HA, HK1, ⟨m1, rfl⟩⟩ := hrel
  cases gk with
  | zero => exact absurd HA.out (by simp [tegulalaw34_few.l0])
  | succ k1 =>
   have H := HA.out
   clear HA
   simp only [tegulalaw34_few.l0] at H
   by_cases c2 : x3_1 < (l0.length : Int)
   ·
    rw [if_pos c2] at H
    have c2b0 := decide_eq_true c2
    clear c2
    by_cases c3 : 0 ≤ x3_1
    ·
     rw [if_pos c3] at H
     have c3b0 := decide_eq_true c3
     clear c3
     by_cases c4 : (((rd_T57 l0 x3_1).f1).length : Int) > 8
     ·
      rw [if_pos c4] at H
      have c4b0 := decide_eq_true c4
      have c4b1 : decide (8 < ((rd_T57 l0 x3_1).f1).length) = true := decide_eq_true (by omega)
      clear c4
      obtain rfl := Option.some.inj H
      have p211 : 0 ≤ (x3_1 : Int) := of_decide_eq_true (by first | (with_reducible assumption) | assumption)
      have q211 : x3_1 < (l0.length : Int) := of_decide_eq_true (by first | (with_reducible assumption) | assumption)
      obtain ⟨ad211, A211_1, c211_1, e211, hx211_0, hx211_1, hl211_1, hi211_1⟩ := at_T57 HR0.out x3_1 p211 q211
      cases e211
      have HR211_1 := Aside0.mk hi211_1
      have HC211_1 := Aside0.mk hl211_1
      clear hi211_1 hl211_1
      replace p211 := eq_true p211
      replace q211 := eq_true q211
      go_wp2
      go_ret
      exact ⟨by first | rfl | (simp; done) | (simp [*]; done), by repeat (first | exact Drawn0.refl _ | apply Drawn0.step)⟩
     ·
      rw [if_neg c4] at H
      have c4b0 := decide_eq_false c4
      have c4b1 : decide (8 < ((rd_T57 l0 x3_1).f1).length) = false := decide_eq_false (by omega)
      clear c4
      have H' := Aside0.mk H
      clear H
      have p211 : 0 ≤ (x3_1 : Int) := of_decide_eq_true (by first | (with_reducible assumption) | assumption)
      have q211 : x3_1 < (l0.length : Int) := of_decide_eq_true (by first | (with_reducible assumption) | assumption)
      obtain ⟨ad211, A211_1, c211_1, e211, hx211_0, hx211_1, hl211_1, hi211_1⟩ := at_T57 HR0.out x3_1 p211 q211
      cases e211
      have HR211_1 := Aside0.mk hi211_1
      have HC211_1 := Aside0.mk hl211_1
      clear hi211_1 hl211_1
      replace p211 := eq_true p211
      replace q211 := eq_true q211
      go_wp2
      go_roundg k1
      case measure => have := HK1.out; omega
      case rel => exact ⟨(wrap64 (x3_1 + 1)), (by first | rfl | (simp; done) | (simp [*]; done)), H', ⟨by have := HK1.out; omega⟩, by repeat (first | exact Drawn0.refl _ | apply Drawn0.step)⟩
    ·
     rw [if_neg c3] at H
     exact absurd H (by simp)
   ·
    rw [if_neg c2] at H
    have c2b0 := decide_eq_false c2
    clear c2
    obtain rfl := Option.some.inj H
    go_wp2
    go_ret
    exact ⟨by first | rfl | (simp; done) | (simp [*]; done), by repeat (first | exact Drawn0.refl _ | apply Drawn0.step)⟩

/-! ### tegularef34_Counts_permitted: function 30 -/
def tegularef34_Counts_permitted.l0 : Nat → List Int → List (S41) → Int → Option (Bool)
 | 0, _, _, _ => none
 | k + 1, x0, x1, x5 => if x5 < (x1.length : Int) then (if 0 ≤ x5 then (if ((rd_T41 x1 x5).f1) < 1 then (some false) else (if ((rd_T41 x1 x5).f2) < 0 then (some false) else (if ((rd_T41 x1 x5).f2) ≥ (x0.length : Int) then (some false) else (if ((rd_T41 x1 x5).f1) > (wrap64 ((x0.length : Int) - ((rd_T41 x1 x5).f2))) then (some false) else (tegularef34_Counts_permitted.l0 k x0 x1 (wrap64 (x5 + 1))))))) else (none)) else (some true)
def tegularef34_Counts_permitted.f (k : Nat) (l0 : List Int) (l1 : List (S41)) : Option (Bool) := tegularef34_Counts_permitted.l0 k l0 l1 0
theorem tegularef34_Counts_permitted.mono_l : ∀ k, (∀ y0 y1 y2, LeO (tegularef34_Counts_permitted.l0 k y0 y1 y2) (tegularef34_Counts_permitted.l0 (k + 1) y0 y1 y2))
 | 0 => fun _ _ _ r h => by simp [tegularef34_Counts_permitted.l0] at h
 | k + 1 => by
  have ih0 := tegularef34_Counts_permitted.mono_l k
  ·
   intro y0 y1 y2
   unfold tegularef34_Counts_permitted.l0
   repeat' first
   | (with_reducible exact ih0 _ _ _)
   | (with_reducible exact LeO.refl _)
   | (with_reducible exact LeO.none _)
   | (with_reducible refine LeO.ite ?_ ?_)
   | (with_reducible refine LeO.bind ?_ (fun _ => ?_))
   | exact ih0 _ _ _
   | exact LeO.none _
   | refine LeO.ite ?_ ?_
   | refine LeO.bind ?_ (fun _ => ?_)
theorem tegularef34_Counts_permitted.mono : ∀ a0 a1 k, LeO (tegularef34_Counts_permitted.f k a0 a1) (tegularef34_Counts_permitted.f (k + 1) a0 a1) := by
 intro a0 a1 k
 have ih0 := tegularef34_Counts_permitted.mono_l k
 unfold tegularef34_Counts_permitted.f
 repeat' first
   | (with_reducible exact ih0 _ _ _)
   | (with_reducible exact LeO.refl _)
   | (with_reducible exact LeO.none _)
   | (with_reducible refine LeO.ite ?_ ?_)
   | (with_reducible refine LeO.bind ?_ (fun _ => ?_))
   | exact ih0 _ _ _
   | exact LeO.none _
   | refine LeO.ite ?_ ?_
   | refine LeO.bind ?_ (fun _ => ?_)
set_option maxHeartbeats 8000000 in
set_option maxRecDepth 100000 in
theorem tegularef34_Counts_permitted.calls (k : Nat) (A0 : Option Addr) (c0 : Nat) (l0 : List Int) (A1 : Option Addr) (c1 : Nat) (l1 : List (S41)) (r : Bool) (w : World) (hr0 : Kd.C (Kd.int .i64) w A0 l0.length l0) (hc0 : l0.length ≤ c0) (hr1 : Kd.C k41 w A1 l1.length l1) (hc1 : l1.length ≤ c1) (h : tegularef34_Counts_permitted.f k l0 l1 = some r) :
  Calls Try.prog 30 #[.slice A0 l0.length c0, .slice A1 l1.length c1] w fun e w' => e = .returned (.bool r) ∧ Drawn0 w w' := by
 have HR0 := Aside0.mk hr0
 have HC0 := Aside0.mk hc0
 clear hr0 hc0
 have HR1 := Aside0.mk hr1
 have HC1 := Aside0.mk hc1
 clear hr1 hc1
 have H : (tegularef34_Counts_permitted.l0 k l0 l1 0) = some r := h
 clear h
 have H' := Aside0.mk H
 clear H
 go_enter Try.func30, Try.ntmps30
 go_wp2
 repeat (go_quiet (fail); try go_wp2)
 go_loopg [5] k (fun kq v5 w' => ∃ (x5_1 : Int), v5 = .int .i64 x5_1 ∧ Aside0 (tegularef34_Counts_permitted.l0 kq l0 l1 x5_1 = some r) ∧ Aside0 (kq ≤ k) ∧ Drawn0 w w')
 case atStart => exact ⟨(0), (by first | rfl | (simp; done) | (simp [*]; done)), H', ⟨Nat.le_refl _⟩, by repeat (first | exact Drawn0.refl _ | apply Drawn0.step)⟩
 case round =>
  clear H'
  try clear c1
  try clear p2
  obtain ⟨x5_1, rfl, HA, HK1, ⟨m1, rfl⟩⟩ := hrel
  cases gk with
  | zero => exact absurd HA.out (by simp [tegularef34_Counts_permitted.l0])
  | succ k1 =>
   have H := HA.out
   clear HA
   simp only [tegularef34_Counts_permitted.l0] at H
   by_cases c3 : x5_1 < (l1.length : Int)
   ·
    rw [if_pos c3] at H
    have c3b0 := decide_eq_true c3
    clear c3
    by_cases c4 : 0 ≤ x5_1
    ·
     rw [if_pos c4] at H
     have c4b0 := decide_eq_true c4
     clear c4
     by_cases c5 : ((rd_T41 l1 x5_1).f1) < 1
     ·
      rw [if_pos c5] at H
      have c5b0 := decide_eq_true c5
      clear c5
      obtain rfl := Option.some.inj H
      have p212 : 0 ≤ (x5_1 : Int) := of_decide_eq_true (by first | (with_reducible assumption) | assumption)
      have q212 : x5_1 < (l1.length : Int) := of_decide_eq_true (by first | (with_reducible assumption) | assumption)
      obtain ⟨ad212, e212, hx212_0, hx212_1, hx212_2⟩ := at_T41 HR1.out x5_1 p212 q212
      cases e212
      replace p212 := eq_true p212
      replace q212 := eq_true q212
      go_wp2
      repeat (go_quiet (fail); try go_wp2)
      go_ret
      exact ⟨by first | rfl | (simp; done) | (simp [*]; done), by repeat (first | exact Drawn0.refl _ | apply Drawn0.step)⟩
     ·
      rw [if_neg c5] at H
      have c5b0 := decide_eq_false c5
      clear c5
      by_cases c6 : ((rd_T41 l1 x5_1).f2) < 0
      ·
       rw [if_pos c6] at H
       have c6b0 := decide_eq_true c6
       clear c6
       obtain rfl := Option.some.inj H
       have p212 : 0 ≤ (x5_1 : Int) := of_decide_eq_true (by first | (with_reducible assumption) | assumption)
       have q212 : x5_1 < (l1.length : Int) := of_decide_eq_true (by first | (with_reducible assumption) | assumption)
       obtain ⟨ad212, e212, hx212_0, hx212_1, hx212_2⟩ := at_T41 HR1.out x5_1 p212 q212
       cases e212
       replace p212 := eq_true p212
       replace q212 := eq_true q212
       have p213 : 0 ≤ (x5_1 : Int) := of_decide_eq_true (by first | (with_reducible assumption) | assumption)
       have q213 : x5_1 < (l1.length : Int) := of_decide_eq_true (by first | (with_reducible assumption) | assumption)
       obtain ⟨ad213, e213, hx213_0, hx213_1, hx213_2⟩ := at_T41 HR1.out x5_1 p213 q213
       obtain rfl : ad212 = ad213 := (by injection e213)
       replace p213 := eq_true p213
       replace q213 := eq_true q213
       go_wp2
       repeat (go_quiet (fail); try go_wp2)
       go_ret
       exact ⟨by first | rfl | (simp; done) | (simp [*]; done), by repeat (first | exact Drawn0.refl _ | apply Drawn0.step)⟩
      ·
       rw [if_neg c6] at H
       have c6b0 := decide_eq_false c6
       clear c6
       by_cases c7 : ((rd_T41 l1 x5_1).f2) ≥ (l0.length : Int)
       ·
        rw [if_pos c7] at H
        have c7b0 := decide_eq_true c7
        clear c7
        obtain rfl := Option.some.inj H
        have p212 : 0 ≤ (x5_1 : Int) := of_decide_eq_true (by first | (with_reducible assumption) | assumption)
        have q212 : x5_1 < (l1.length : Int) := of_decide_eq_true (by first | (with_reducible assumption) | assumption)
        obtain ⟨ad212, e212, hx212_0, hx212_1, hx212_2⟩ := at_T41 HR1.out x5_1 p212 q212
        cases e212
        replace p212 := eq_true p212
        replace q212 := eq_true q212
        have p213 : 0 ≤ (x5_1 : Int) := of_decide_eq_true (by first | (with_reducible assumption) | assumption)
        have q213 : x5_1 < (l1.length : Int) := of_decide_eq_true (by first | (with_reducible assumption) | assumption)
        obtain ⟨ad213, e213, hx213_0, hx213_1, hx213_2⟩ := at_T41 HR1.out x5_1 p213 q213
        obtain rfl : ad212 = ad213 := (by injection e213)
        replace p213 := eq_true p213
        replace q213 := eq_true q213
        have p214 : 0 ≤ (x5_1 : Int) := of_decide_eq_true (by first | (with_reducible assumption) | assumption)
        have q214 : x5_1 < (l1.length : Int) := of_decide_eq_true (by first | (with_reducible assumption) | assumption)
        obtain ⟨ad214, e214, hx214_0, hx214_1, hx214_2⟩ := at_T41 HR1.out x5_1 p214 q214
        obtain rfl : ad212 = ad214 := (by injection e214)
        replace p214 := eq_true p214
        replace q214 := eq_true q214
        go_wp2
        repeat (go_quiet (fail); try go_wp2)
        go_ret
        exact ⟨by first | rfl | (simp; done) | (simp [*]; done), by repeat (first | exact Drawn0.refl _ | apply Drawn0.step)⟩
       ·
        rw [if_neg c7] at H
        have c7b0 := decide_eq_false c7
        clear c7
        by_cases c8 : ((rd_T41 l1 x5_1).f1) > (wrap64 ((l0.length : Int) - ((rd_T41 l1 x5_1).f2)))
        ·
         rw [if_pos c8] at H
         have c8b0 := decide_eq_true c8
         clear c8
         obtain rfl := Option.some.inj H
         have p212 : 0 ≤ (x5_1 : Int) := of_decide_eq_true (by first | (with_reducible assumption) | assumption)
         have q212 : x5_1 < (l1.length : Int) := of_decide_eq_true (by first | (with_reducible assumption) | assumption)
         obtain ⟨ad212, e212, hx212_0, hx212_1, hx212_2⟩ := at_T41 HR1.out x5_1 p212 q212
         cases e212
         replace p212 := eq_true p212
         replace q212 := eq_true q212
         have p213 : 0 ≤ (x5_1 : Int) := of_decide_eq_true (by first | (with_reducible assumption) | assumption)
         have q213 : x5_1 < (l1.length : Int) := of_decide_eq_true (by first | (with_reducible assumption) | assumption)
         obtain ⟨ad213, e213, hx213_0, hx213_1, hx213_2⟩ := at_T41 HR1.out x5_1 p213 q213
         obtain rfl : ad212 = ad213 := (by injection e213)
         replace p213 := eq_true p213
         replace q213 := eq_true q213
         have p214 : 0 ≤ (x5_1 : Int) := of_decide_eq_true (by first | (with_reducible assumption) | assumption)
         have q214 : x5_1 < (l1.length : Int) := of_decide_eq_true (by first | (with_reducible assumption) | assumption)
         obtain ⟨ad214, e214, hx214_0, hx214_1, hx214_2⟩ := at_T41 HR1.out x5_1 p214 q214
         obtain rfl : ad212 = ad214 := (by injection e214)
         replace p214 := eq_true p214
         replace q214 := eq_true q214
         have p215 : 0 ≤ (x5_1 : Int) := of_decide_eq_true (by first | (with_reducible assumption) | assumption)
         have q215 : x5_1 < (l1.length : Int) := of_decide_eq_true (by first | (with_reducible assumption) | assumption)
         obtain ⟨ad215, e215, hx215_0, hx215_1, hx215_2⟩ := at_T41 HR1.out x5_1 p215 q215
         obtain rfl : ad212 = ad215 := (by injection e215)
         replace p215 := eq_true p215
         replace q215 := eq_true q215
         have p216 : 0 ≤ (x5_1 : Int) := of_decide_eq_true (by first | (with_reducible assumption) | assumption)
         have q216 : x5_1 < (l1.length : Int) := of_decide_eq_true (by first | (with_reducible assumption) | assumption)
         obtain ⟨ad216, e216, hx216_0, hx216_1, hx216_2⟩ := at_T41 HR1.out x5_1 p216 q216
         obtain rfl : ad212 = ad216 := (by injection e216)
         replace p216 := eq_true p216
         replace q216 := eq_true q216
         go_wp2
         repeat (go_quiet (fail); try go_wp2)
         go_ret
         exact ⟨by first | rfl | (simp; done) | (simp [*]; done), by repeat (first | exact Drawn0.refl _ | apply Drawn0.step)⟩
        ·
         rw [if_neg c8] at H
         have c8b0 := decide_eq_false c8
         clear c8
         have H' := Aside0.mk H
         clear H
         have p212 : 0 ≤ (x5_1 : Int) := of_decide_eq_true (by first | (with_reducible assumption) | assumption)
         have q212 : x5_1 < (l1.length : Int) := of_decide_eq_true (by first | (with_reducible assumption) | assumption)
         obtain ⟨ad212, e212, hx212_0, hx212_1, hx212_2⟩ := at_T41 HR1.out x5_1 p212 q212
         cases e212
         replace p212 := eq_true p212
         replace q212 := eq_true q212
         have p213 : 0 ≤ (x5_1 : Int) := of_decide_eq_true (by first | (with_reducible assumption) | assumption)
         have q213 : x5_1 < (l1.length : Int) := of_decide_eq_true (by first | (with_reducible assumption) | assumption)
         obtain ⟨ad213, e213, hx213_0, hx213_1, hx213_2⟩ := at_T41 HR1.out x5_1 p213 q213
         obtain rfl : ad212 = ad213 := (by injection e213)
         replace p213 := eq_true p213
         replace q213 := eq_true q213
         have p214 : 0 ≤ (x5_1 : Int) := of_decide_eq_true (by first | (with_reducible assumption) | assumption)
         have q214 : x5_1 < (l1.length : Int) := of_decide_eq_true (by first | (with_reducible assumption) | assumption)
         obtain ⟨ad214, e214, hx214_0, hx214_1, hx214_2⟩ := at_T41 HR1.out x5_1 p214 q214
         obtain rfl : ad212 = ad214 := (by injection e214)
         replace p214 := eq_true p214
         replace q214 := eq_true q214
         have p215 : 0 ≤ (x5_1 : Int) := of_decide_eq_true (by first | (with_reducible assumption) | assumption)
         have q215 : x5_1 < (l1.length : Int) := of_decide_eq_true (by first | (with_reducible assumption) | assumption)
         obtain ⟨ad215, e215, hx215_0, hx215_1, hx215_2⟩ := at_T41 HR1.out x5_1 p215 q215
         obtain rfl : ad212 = ad215 := (by injection e215)
         replace p215 := eq_true p215
         replace q215 := eq_true q215
         have p216 : 0 ≤ (x5_1 : Int) := of_decide_eq_true (by first | (with_reducible assumption) | assumption)
         have q216 : x5_1 < (l1.length : Int) := of_decide_eq_true (by first | (with_reducible assumption) | assumption)
         obtain ⟨ad216, e216, hx216_0, hx216_1, hx216_2⟩ := at_T41 HR1.out x5_1 p216 q216
         obtain rfl : ad212 = ad216 := (by injection e216)
         replace p216 := eq_true p216
         replace q216 := eq_true q216
         go_wp2
         repeat (go_quiet (fail); try go_wp2)
         go_roundg k1
         case measure => have := HK1.out; omega
         case rel => exact ⟨(wrap64 (x5_1 + 1)), (by first | rfl | (simp; done) | (simp [*]; done)), H', ⟨by have := HK1.out; omega⟩, by repeat (first | exact Drawn0.refl _ | apply Drawn0.step)⟩
    ·
     rw [if_neg c4] at H
     exact absurd H (by simp)
   ·
    rw [if_neg c3] at H
    have c3b0 := decide_eq_false c3
    clear c3
    obtain rfl := Option.some.inj H
    go_wp2
    repeat (go_quiet (fail); try go_wp2)
    go_ret
    exact ⟨by first | rfl | (simp; done) | (simp [*]; done), by repeat (first | exact Drawn0.refl _ | apply Drawn0.step)⟩

/-! ### tegularef34_Counts_changed: function 31 -/
mutual
def tegularef34_Counts_changed.l0 : Nat → List (S41) → Int → List Int → Int → Option (List Int)
 | 0, _, _, _, _ => none
 | k + 1, x1, x2, x7, x8 => if x8 < (x1.length : Int) then (if 0 ≤ x8 then (tegularef34_Counts_changed.l1 k x1 x2 x7 x8 ((rd_T41 x1 x8).f2)) else (none)) else (some x7)
def tegularef34_Counts_changed.l1 : Nat → List (S41) → Int → List Int → Int → Int → Option (List Int)
 | 0, _, _, _, _, _ => none
 | k + 1, x1, x2, x7, x8, x9 => if 0 ≤ x8 then (if x8 < (x1.length : Int) then (if x9 < (wrap64 (((rd_T41 x1 x8).f2) + ((rd_T41 x1 x8).f1))) then (if 0 ≤ x9 then (if x9 < (x7.length : Int) then (tegularef34_Counts_changed.l1 k x1 x2 (x7.set (x9 : Int).toNat (wrap64 ((rd x7 x9) + x2))) x8 (wrap64 (x9 + 1))) else (none)) else (none)) else (tegularef34_Counts_changed.l0 k x1 x2 x7 (wrap64 (x8 + 1)))) else (none)) else (none)
end
def tegularef34_Counts_changed.f (k : Nat) (l0 : List Int) (l1 : List (S41)) (a2 : Int) : Option (List Int) := (some (([] : List Int) : List Int)).bind fun y217 => (if y217.length + l0.length < 17592186044416 then (tegularef34_Counts_changed.l0 k l1 a2 (y217 ++ l0) 0) else (none))
theorem tegularef34_Counts_changed.mono_l : ∀ k, (∀ y0 y1 y2 y3, LeO (tegularef34_Counts_changed.l0 k y0 y1 y2 y3) (tegularef34_Counts_changed.l0 (k + 1) y0 y1 y2 y3)) ∧ (∀ y0 y1 y2 y3 y4, LeO (tegularef34_Counts_changed.l1 k y0 y1 y2 y3 y4) (tegularef34_Counts_changed.l1 (k + 1) y0 y1 y2 y3 y4))
 | 0 => ⟨fun _ _ _ _ r h => by simp [tegularef34_Counts_changed.l0] at h, fun _ _ _ _ _ r h => by simp [tegularef34_Counts_changed.l1] at h⟩
 | k + 1 => by
  obtain ⟨ih0, ih1⟩ := tegularef34_Counts_changed.mono_l k
  refine ⟨?_, ?_⟩
  ·
   intro y0 y1 y2 y3
   unfold tegularef34_Counts_changed.l0
   repeat' first
   | (with_reducible exact ih0 _ _ _ _)
   | (with_reducible exact ih1 _ _ _ _ _)
   | (with_reducible exact LeO.refl _)
   | (with_reducible exact LeO.none _)
   | (with_reducible refine LeO.ite ?_ ?_)
   | (with_reducible refine LeO.bind ?_ (fun _ => ?_))
   | exact ih0 _ _ _ _
   | exact ih1 _ _ _ _ _
   | exact LeO.none _
   | refine LeO.ite ?_ ?_
   | refine LeO.bind ?_ (fun _ => ?_)
  ·
   intro y0 y1 y2 y3 y4
   unfold tegularef34_Counts_changed.l1
   repeat' first
   | (with_reducible exact ih0 _ _ _ _)
   | (with_reducible exact ih1 _ _ _ _ _)
   | (with_reducible exact LeO.refl _)
   | (with_reducible exact LeO.none _)
   | (with_reducible refine LeO.ite ?_ ?_)
   | (with_reducible refine LeO.bind ?_ (fun _ => ?_))
   | exact ih0 _ _ _ _
   | exact ih1 _ _ _ _ _
   | exact LeO.none _
   | refine LeO.ite ?_ ?_
   | refine LeO.bind ?_ (fun _ => ?_)
theorem tegularef34_Counts_changed.mono : ∀ a0 a1 a2 k, LeO (tegularef34_Counts_changed.f k a0 a1 a2) (tegularef34_Counts_changed.f (k + 1) a0 a1 a2) := by
 intro a0 a1 a2 k
 obtain ⟨ih0, ih1⟩ := tegularef34_Counts_changed.mono_l k
 unfold tegularef34_Counts_changed.f
 repeat' first
   | (with_reducible exact ih0 _ _ _ _)
   | (with_reducible exact ih1 _ _ _ _ _)
   | (with_reducible exact LeO.refl _)
   | (with_reducible exact LeO.none _)
   | (with_reducible refine LeO.ite ?_ ?_)
   | (with_reducible refine LeO.bind ?_ (fun _ => ?_))
   | exact ih0 _ _ _ _
   | exact ih1 _ _ _ _ _
   | exact LeO.none _
   | refine LeO.ite ?_ ?_
   | refine LeO.bind ?_ (fun _ => ?_)
set_option maxHeartbeats 8000000 in
set_option maxRecDepth 100000 in
theorem tegularef34_Counts_changed.calls (k : Nat) (A0 : Option Addr) (c0 : Nat) (l0 : List Int) (A1 : Option Addr) (c1 : Nat) (l1 : List (S41)) (a2 : Int) (r : List Int) (w : World) (hr0 : Kd.C (Kd.int .i64) w A0 l0.length l0) (hc0 : l0.length ≤ c0) (hr1 : Kd.C k41 w A1 l1.length l1) (hc1 : l1.length ≤ c1) (h : tegularef34_Counts_changed.f k l0 l1 a2 = some r) :
  Calls Try.prog 31 #[.slice A0 l0.length c0, .slice A1 l1.length c1, .int .i64 a2] w fun e w' => ∃ v0_ : Value, e = .returned (v0_) ∧ Kd.R (Kd.int .i64) 3 w' w.heap.size (fun _ => True) v0_ r ∧ Below w.heap.size w w' := by
 have HR0 := Aside0.mk hr0
 have HC0 := Aside0.mk hc0
 clear hr0 hc0
 have HR1 := Aside0.mk hr1
 have HC1 := Aside0.mk hc1
 clear hr1 hc1
 have HB := Aside0.mk (Below.refl w.heap.size w)
 have H : ((some (([] : List Int) : List Int)).bind fun y217 => (if y217.length + l0.length < 17592186044416 then (tegularef34_Counts_changed.l0 k l1 a2 (y217 ++ l0) 0) else (none))) = some r := h
 clear h
 obtain ⟨y217, hy217⟩ : ∃ y_ : List Int, y_ = (([] : List Int)) := ⟨_, rfl⟩
 replace H : (if y217.length + l0.length < 17592186044416 then (tegularef34_Counts_changed.l0 k l1 a2 (y217 ++ l0) 0) else (none)) = some r := by first | (rw [hy217]; exact H) | exact H
 have Ny217 := Aside0.mk hy217
 clear hy217
 by_cases c4 : y217.length + l0.length < 17592186044416
 ·
  rw [if_pos c4] at H
  have LMc4 := Aside0.mk c4
  clear c4
  obtain ⟨y220, hy220⟩ : ∃ y_ : List Int, y_ = (y217 ++ l0) := ⟨_, rfl⟩
  replace H : (tegularef34_Counts_changed.l0 k l1 a2 y220 0) = some r := by first | (rw [hy220]; exact H) | exact H
  have Ny220 := Aside0.mk hy220
  clear hy220
  have H' := Aside0.mk H
  clear H
  go_enter Try.func31, Try.ntmps31
  go_wp2_with (first | ((with_reducible refine gate_dst (N := 10) rfl ?_); refine Kd.R_lit (Kd.int .i64) _ 3 ?hg (N := 10) ?hd (xs := ([] : List Int)) (inner := []) (ok := fun _ => True) (okp := fun _ => True) ?hr ?hp (fun _ hk => hk) trivial (Below.refl _ _) (Nat.le_refl _) (by simp) ?_; (case hd => rfl); (case hg => rfl); (case hr => first | (go_simp; done) | (go_simp; rfl)); (case hp => exact (Reps.none _ _)); intro v218 w5 ho6 hb hg_ hnew_; clear hg_ hnew_; (first | rw [← Ny217.out] at ho6 | (simp only [Int.reduceToNat] at ho6; rw [← Ny217.out] at ho6)); have n0_ := Aside0.mk (Kd.R_lower ho6 (below_size (bU HB.out))); have n1_ := Aside0.mk (below_step (bU HB.out) hb); clear HB; have HO219 := n0_; have HB := n1_; clear n0_ n1_; clear hb ho6) | ((with_reducible refine gate_builtin (b := .append) (xs := #[.tmp 10, .tmp 11]) rfl ?_); at_builtin; refine Kd.R_append_rows (Kd.int .i64) (w0 := w) w.heap.size rfl (.tmp 10) (.tmp 11) 28 3 (.int .i64 0) 8 rfl Try.underlying28 info3 rfl (by decide) (by omega) v218 y217 l0 _ _ _ (fun _ => True) (fun _ => False) rfl rfl ?aO ?aR (fun _ _ h => h) (fun _ h => h.elim) ?aF ?aB ?aS ?aL ?_; (case aR => repeat (first | exact (Kd.C_below HR0.out HB.out) | (with_reducible refine Kd.C_alloc ?_ _) | (with_reducible refine Kd.C_drewN ?_ _) | (with_reducible refine Kd.C_drew ?_))); (case aB => exact (bU HB.out)); (case aF => exact (fun _ _ => trivial)); (case aO => exact (rU HO219.out)); (case aS => exact (below_size (bU HB.out))); (case aL => have := LMc4.out; omega); intro v221 w7 ho hb hg hat; rw [← Ny220.out] at ho; have n0_ := Aside0.mk (hb); have n1_ := Aside0.mk (ho); clear HB; clear HO219; have HB := n0_; have HO222 := n1_; clear n0_ n1_; clear ho hb hg hat))
  repeat (go_quiet (first | ((with_reducible refine gate_dst (N := 10) rfl ?_); refine Kd.R_lit (Kd.int .i64) _ 3 ?hg (N := 10) ?hd (xs := ([] : List Int)) (inner := []) (ok := fun _ => True) (okp := fun _ => True) ?hr ?hp (fun _ hk => hk) trivial (Below.refl _ _) (Nat.le_refl _) (by simp) ?_; (case hd => rfl); (case hg => rfl); (case hr => first | (go_simp; done) | (go_simp; rfl)); (case hp => exact (Reps.none _ _)); intro v218 w5 ho6 hb hg_ hnew_; clear hg_ hnew_; (first | rw [← Ny217.out] at ho6 | (simp only [Int.reduceToNat] at ho6; rw [← Ny217.out] at ho6)); have n0_ := Aside0.mk (Kd.R_lower ho6 (below_size (bU HB.out))); have n1_ := Aside0.mk (below_step (bU HB.out) hb); clear HB; have HO219 := n0_; have HB := n1_; clear n0_ n1_; clear hb ho6) | ((with_reducible refine gate_builtin (b := .append) (xs := #[.tmp 10, .tmp 11]) rfl ?_); at_builtin; refine Kd.R_append_rows (Kd.int .i64) (w0 := w) w.heap.size rfl (.tmp 10) (.tmp 11) 28 3 (.int .i64 0) 8 rfl Try.underlying28 info3 rfl (by decide) (by omega) v218 y217 l0 _ _ _ (fun _ => True) (fun _ => False) rfl rfl ?aO ?aR (fun _ _ h => h) (fun _ h => h.elim) ?aF ?aB ?aS ?aL ?_; (case aR => repeat (first | exact (Kd.C_below HR0.out HB.out) | (with_reducible refine Kd.C_alloc ?_ _) | (with_reducible refine Kd.C_drewN ?_ _) | (with_reducible refine Kd.C_drew ?_))); (case aB => exact (bU HB.out)); (case aF => exact (fun _ _ => trivial)); (case aO => exact (rU HO219.out)); (case aS => exact (below_size (bU HB.out))); (case aL => have := LMc4.out; omega); intro v221 w7 ho hb hg hat; rw [← Ny220.out] at ho; have n0_ := Aside0.mk (hb); have n1_ := Aside0.mk (ho); clear HB; clear HO219; have HB := n0_; have HO222 := n1_; clear n0_ n1_; clear ho hb hg hat)); try go_wp2_with (first | ((with_reducible refine gate_dst (N := 10) rfl ?_); refine Kd.R_lit (Kd.int .i64) _ 3 ?hg (N := 10) ?hd (xs := ([] : List Int)) (inner := []) (ok := fun _ => True) (okp := fun _ => True) ?hr ?hp (fun _ hk => hk) trivial (Below.refl _ _) (Nat.le_refl _) (by simp) ?_; (case hd => rfl); (case hg => rfl); (case hr => first | (go_simp; done) | (go_simp; rfl)); (case hp => exact (Reps.none _ _)); intro v218 w5 ho6 hb hg_ hnew_; clear hg_ hnew_; (first | rw [← Ny217.out] at ho6 | (simp only [Int.reduceToNat] at ho6; rw [← Ny217.out] at ho6)); have n0_ := Aside0.mk (Kd.R_lower ho6 (below_size (bU HB.out))); have n1_ := Aside0.mk (below_step (bU HB.out) hb); clear HB; have HO219 := n0_; have HB := n1_; clear n0_ n1_; clear hb ho6) | ((with_reducible refine gate_builtin (b := .append) (xs := #[.tmp 10, .tmp 11]) rfl ?_); at_builtin; refine Kd.R_append_rows (Kd.int .i64) (w0 := w) w.heap.size rfl (.tmp 10) (.tmp 11) 28 3 (.int .i64 0) 8 rfl Try.underlying28 info3 rfl (by decide) (by omega) v218 y217 l0 _ _ _ (fun _ => True) (fun _ => False) rfl rfl ?aO ?aR (fun _ _ h => h) (fun _ h => h.elim) ?aF ?aB ?aS ?aL ?_; (case aR => repeat (first | exact (Kd.C_below HR0.out HB.out) | (with_reducible refine Kd.C_alloc ?_ _) | (with_reducible refine Kd.C_drewN ?_ _) | (with_reducible refine Kd.C_drew ?_))); (case aB => exact (bU HB.out)); (case aF => exact (fun _ _ => trivial)); (case aO => exact (rU HO219.out)); (case aS => exact (below_size (bU HB.out))); (case aL => have := LMc4.out; omega); intro v221 w7 ho hb hg hat; rw [← Ny220.out] at ho; have n0_ := Aside0.mk (hb); have n1_ := Aside0.mk (ho); clear HB; clear HO219; have HB := n0_; have HO222 := n1_; clear n0_ n1_; clear ho hb hg hat)))
  go_loopg [8] k (fun kq v8 w' => ∃ (x7_1 : List Int) (x8_1 : Int), v8 = .int .i64 x8_1 ∧ Aside0 (tegularef34_Counts_changed.l0 kq l1 a2 x7_1 x8_1 = some r) ∧ Aside0 (kq ≤ k) ∧ Aside0 (Kd.R (Kd.int .i64) 3 w' w.heap.size (fun _ => True) v221 x7_1) ∧ Aside0 (Below w.heap.size w w'))
  case atStart => exact ⟨(y220), (0), (by first | rfl | (simp; done) | (simp [*]; done)), H', ⟨Nat.le_refl _⟩, ⟨rU HO222.out⟩, ⟨bU HB.out⟩⟩
  case round =>
   clear H'
   try clear c1
   try clear p2
   try clear c3
   try clear c4
   obtain ⟨x7_1, x8_1, rfl, HA, HK1, HO_7, HB⟩ := hrel
   cases gk with
   | zero => exact absurd HA.out (by simp [tegularef34_Counts_changed.l0])
   | succ k1 =>
    have H := HA.out
    clear HA
    simp only [tegularef34_Counts_changed.l0] at H
    by_cases c8 : x8_1 < (l1.length : Int)
    ·
     rw [if_pos c8] at H
     have c8b0 := decide_eq_true c8
     clear c8
     by_cases c9 : 0 ≤ x8_1
     ·
      rw [if_pos c9] at H
      have c9b0 := decide_eq_true c9
      clear c9
      have H' := Aside0.mk H
      clear H
      have p223 : 0 ≤ (x8_1 : Int) := of_decide_eq_true (by first | (with_reducible assumption) | assumption)
      have q223 : x8_1 < (l1.length : Int) := of_decide_eq_true (by first | (with_reducible assumption) | assumption)
      obtain ⟨ad223, e223, hx223_0, hx223_1, hx223_2⟩ := at_T41 HR1.out x8_1 p223 q223
      cases e223
      replace hx223_0 := (HB.out.cell (World.block_lt_of_cell? w _ hx223_0)).trans hx223_0
      replace hx223_1 := (HB.out.cell (World.block_lt_of_cell? w _ hx223_1)).trans hx223_1
      replace hx223_2 := (HB.out.cell (World.block_lt_of_cell? w _ hx223_2)).trans hx223_2
      replace p223 := eq_true p223
      replace q223 := eq_true q223
      go_wp2
      repeat (go_quiet (fail); try go_wp2)
      go_loopg [9] k1 (fun kq v9 w' => ∃ (x7_2 : List Int) (x9_2 : Int), v9 = .int .i64 x9_2 ∧ Aside0 (tegularef34_Counts_changed.l1 kq l1 a2 x7_2 x8_1 x9_2 = some r) ∧ Aside0 (kq ≤ k1) ∧ Aside0 (Kd.R (Kd.int .i64) 3 w' w.heap.size (fun _ => True) v221 x7_2) ∧ Aside0 (Below w.heap.size w w'))
      case atStart => exact ⟨(x7_1), ((rd_T41 l1 x8_1).f2), (by first | rfl | (simp; done) | (simp [*]; done)), H', ⟨Nat.le_refl _⟩, ⟨rU HO_7.out⟩, ⟨bU HB.out⟩⟩
      case round =>
       clear H'
       try clear c1
       try clear p2
       try clear q2
       try clear hx2
       try clear c3
       try clear c4
       try clear c8
       try clear c8b0
       try clear c9
       try clear c9b0
       try clear hx223_0
       try clear hx223_1
       try clear hx223_2
       try clear p2
       try clear p223
       try clear q223
       obtain ⟨x7_2, x9_2, rfl, HA, HK2, HO_7, HB⟩ := hrel
       cases gk with
       | zero => exact absurd HA.out (by simp [tegularef34_Counts_changed.l1])
       | succ k2 =>
        have H := HA.out
        clear HA
        simp only [tegularef34_Counts_changed.l1] at H
        by_cases c10 : 0 ≤ x8_1
        ·
         rw [if_pos c10] at H
         have c10b0 := decide_eq_true c10
         clear c10
         by_cases c11 : x8_1 < (l1.length : Int)
         ·
          rw [if_pos c11] at H
          have c11b0 := decide_eq_true c11
          clear c11
          by_cases c12 : x9_2 < (wrap64 (((rd_T41 l1 x8_1).f2) + ((rd_T41 l1 x8_1).f1)))
          ·
           rw [if_pos c12] at H
           have c12b0 := decide_eq_true c12
           clear c12
           by_cases c13 : 0 ≤ x9_2
           ·
            rw [if_pos c13] at H
            have c13b0 := decide_eq_true c13
            clear c13
            by_cases c14 : x9_2 < (x7_2.length : Int)
            ·
             rw [if_pos c14] at H
             have c14b0 := decide_eq_true c14
             clear c14
             obtain ⟨y227, hy227⟩ : ∃ y_ : List Int, y_ = (x7_2.set (x9_2 : Int).toNat (wrap64 ((rd x7_2 x9_2) + a2))) := ⟨_, rfl⟩
             replace H : (tegularef34_Counts_changed.l1 k2 l1 a2 y227 x8_1 (wrap64 (x9_2 + 1))) = some r := by first | (rw [hy227]; exact H) | exact H
             have Ny227 := Aside0.mk hy227
             clear hy227
             have H' := Aside0.mk H
             clear H
             have p224 : 0 ≤ (x8_1 : Int) := of_decide_eq_true (by first | (with_reducible assumption) | assumption)
             have q224 : x8_1 < (l1.length : Int) := of_decide_eq_true (by first | (with_reducible assumption) | assumption)
             obtain ⟨ad224, e224, hx224_0, hx224_1, hx224_2⟩ := at_T41 HR1.out x8_1 p224 q224
             obtain rfl : ad223 = ad224 := (by injection e224)
             replace hx224_0 := (HB.out.cell (World.block_lt_of_cell? w _ hx224_0)).trans hx224_0
             replace hx224_1 := (HB.out.cell (World.block_lt_of_cell? w _ hx224_1)).trans hx224_1
             replace hx224_2 := (HB.out.cell (World.block_lt_of_cell? w _ hx224_2)).trans hx224_2
             replace p224 := eq_true p224
             replace q224 := eq_true q224
             have p225 : 0 ≤ (x8_1 : Int) := of_decide_eq_true (by first | (with_reducible assumption) | assumption)
             have q225 : x8_1 < (l1.length : Int) := of_decide_eq_true (by first | (with_reducible assumption) | assumption)
             obtain ⟨ad225, e225, hx225_0, hx225_1, hx225_2⟩ := at_T41 HR1.out x8_1 p225 q225
             obtain rfl : ad223 = ad225 := (by injection e225)
             replace hx225_0 := (HB.out.cell (World.block_lt_of_cell? w _ hx225_0)).trans hx225_0
             replace hx225_1 := (HB.out.cell (World.block_lt_of_cell? w _ hx225_1)).trans hx225_1
             replace hx225_2 := (HB.out.cell (World.block_lt_of_cell? w _ hx225_2)).trans hx225_2
             replace p225 := eq_true p225
             replace q225 := eq_true q225
             obtain ⟨Ao16, co16, eo16⟩ := Kd.R_slice HO_7.out
             subst eo16
             have p226 : 0 ≤ (x9_2 : Int) := of_decide_eq_true (by first | (with_reducible assumption) | assumption)
             have q226 : x9_2 < (x7_2.length : Int) := of_decide_eq_true (by first | (with_reducible assumption) | assumption)
             obtain ⟨ad226, e226, hx226_0⟩ := Kd.at_int (Kd.R_reads' HO_7.out).2.2 x9_2 p226 q226
             cases e226
             replace p226 := eq_true p226
             replace q226 := eq_true q226
             have p15 : 0 ≤ (x9_2 : Int) := of_decide_eq_true (by first | (with_reducible assumption) | assumption)
             have q15 : (x9_2 : Int) < ((x7_2.length : Int) : Int) := of_decide_eq_true (by first | (with_reducible assumption) | assumption)
             obtain ⟨go15, co15, eo15, gb15, gl15, cl15, HG15⟩ := Kd.R_form HO_7.out (by omega)
             (first | cases eo15 | (injection eo15 with ea_ en_ ec_; (first | subst ea_ | (injection ea_ with ea_; subst ea_)); subst ec_; clear en_))
             have GB15 := Aside0.mk gb15
             have GG15 := Aside0.mk HG15
             clear gb15 gl15 HG15
             (first | simp only [add_plain] at hx226_0 | skip)
             obtain ⟨hx15_0, hf15_0⟩ := Kd.R_celln 0 HO_7.out (x9_2 : Int) p15 q15
             replace p15 := eq_true p15
             replace q15 := eq_true q15
             go_wp2
             go_quiet (fail)
             go_wp2_with (fail)
             have n0_ := Kd.R_putg (Kd.R_drewN HO_7.out nq) (x9_2 : Int) (wrap64 ((rd x7_2 x9_2) + a2))
             rw [← Ny227.out] at n0_
             have n1_ := Aside0.mk (below_set (j := (x9_2 : Int).toNat) (v := .int .i64  (wrap64 ((rd x7_2 x9_2) + a2))) (pw_below_drewN HB.out nq) GB15.out)
             have HO_7 := Aside0.mk n0_.1
             have HB := n1_
             go_roundg k2
             case measure => have := HK1.out; have := HK2.out; omega
             case rel => exact ⟨(y227), (wrap64 (x9_2 + 1)), (by first | rfl | (simp; done) | (simp [*]; done)), H', ⟨by have := HK1.out; have := HK2.out; omega⟩, ⟨rU HO_7.out⟩, ⟨bU HB.out⟩⟩
            ·
             rw [if_neg c14] at H
             exact absurd H (by simp)
           ·
            rw [if_neg c13] at H
            exact absurd H (by simp)
          ·
           rw [if_neg c12] at H
           have c12b0 := decide_eq_false c12
           clear c12
           have H' := Aside0.mk H
           clear H
           have p224 : 0 ≤ (x8_1 : Int) := of_decide_eq_true (by first | (with_reducible assumption) | assumption)
           have q224 : x8_1 < (l1.length : Int) := of_decide_eq_true (by first | (with_reducible assumption) | assumption)
           obtain ⟨ad224, e224, hx224_0, hx224_1, hx224_2⟩ := at_T41 HR1.out x8_1 p224 q224
           obtain rfl : ad223 = ad224 := (by injection e224)
           replace hx224_0 := (HB.out.cell (World.block_lt_of_cell? w _ hx224_0)).trans hx224_0
           replace hx224_1 := (HB.out.cell (World.block_lt_of_cell? w _ hx224_1)).trans hx224_1
           replace hx224_2 := (HB.out.cell (World.block_lt_of_cell? w _ hx224_2)).trans hx224_2
           replace p224 := eq_true p224
           replace q224 := eq_true q224
           have p225 : 0 ≤ (x8_1 : Int) := of_decide_eq_true (by first | (with_reducible assumption) | assumption)
           have q225 : x8_1 < (l1.length : Int) := of_decide_eq_true (by first | (with_reducible assumption) | assumption)
           obtain ⟨ad225, e225, hx225_0, hx225_1, hx225_2⟩ := at_T41 HR1.out x8_1 p225 q225
           obtain rfl : ad223 = ad225 := (by injection e225)
           replace hx225_0 := (HB.out.cell (World.block_lt_of_cell? w _ hx225_0)).trans hx225_0
           replace hx225_1 := (HB.out.cell (World.block_lt_of_cell? w _ hx225_1)).trans hx225_1
           replace hx225_2 := (HB.out.cell (World.block_lt_of_cell? w _ hx225_2)).trans hx225_2
           replace p225 := eq_true p225
           replace q225 := eq_true q225
           go_wp2
           repeat (go_quiet (fail); try go_wp2)
           go_roundg k2
           case measure => have := HK1.out; have := HK2.out; omega
           case rel => exact ⟨(x7_2), (wrap64 (x8_1 + 1)), (by first | rfl | (simp; done) | (simp [*]; done)), H', ⟨by have := HK1.out; have := HK2.out; omega⟩, ⟨rU HO_7.out⟩, ⟨bU HB.out⟩⟩
         ·
          rw [if_neg c11] at H
          exact absurd H (by simp)
        ·
         rw [if_neg c10] at H
         exact absurd H (by simp)
     ·
      rw [if_neg c9] at H
      exact absurd H (by simp)
    ·
     rw [if_neg c8] at H
     have c8b0 := decide_eq_false c8
     clear c8
     obtain rfl := Option.some.inj H
     go_wp2
     repeat (go_quiet (fail); try go_wp2)
     go_ret
     exact ⟨_, by first | rfl | (simp [errW_none, errW_some] <;> rfl) | (simp [*, errW_none, errW_some] <;> rfl), rU HO_7.out, bU HB.out⟩
 ·
  rw [if_neg c4] at H
  exact absurd H (by simp)

/-! ### tegularef34_Counts_Add: function 13 -/
def tegularef34_Counts_Add.f (k : Nat) (l0 : List Int) (l1 : List (S41)) : Option (List Int × Int) := (tegularef34_Counts_permitted.f k l0 l1).bind fun t228 => (if t228 = true then ((tegularef34_Counts_changed.f k l0 l1 1).bind fun t229 => (some (t229, 0))) else (some (([] : List Int), 2)))
theorem tegularef34_Counts_Add.mono : ∀ a0 a1 k, LeO (tegularef34_Counts_Add.f k a0 a1) (tegularef34_Counts_Add.f (k + 1) a0 a1) := by
 intro a0 a1 k
 unfold tegularef34_Counts_Add.f
 repeat' first
   | (with_reducible exact tegularef34_Counts_changed.mono _ _ _ _)
   | (with_reducible exact tegularef34_Counts_permitted.mono _ _ _)
   | (with_reducible exact LeO.refl _)
   | (with_reducible exact LeO.none _)
   | (with_reducible refine LeO.ite ?_ ?_)
   | (with_reducible refine LeO.bind ?_ (fun _ => ?_))
   | exact tegularef34_Counts_changed.mono _ _ _ _
   | exact tegularef34_Counts_permitted.mono _ _ _
   | exact LeO.none _
   | refine LeO.ite ?_ ?_
   | refine LeO.bind ?_ (fun _ => ?_)
set_option maxHeartbeats 8000000 in
set_option maxRecDepth 100000 in
theorem tegularef34_Counts_Add.calls (k : Nat) (A0 : Option Addr) (c0 : Nat) (l0 : List Int) (A1 : Option Addr) (c1 : Nat) (l1 : List (S41)) (r1 : List Int) (r2 : Int) (w : World) (hr0 : Kd.C (Kd.int .i64) w A0 l0.length l0) (hc0 : l0.length ≤ c0) (hr1 : Kd.C k41 w A1 l1.length l1) (hc1 : l1.length ≤ c1) (h : tegularef34_Counts_Add.f k l0 l1 = some (r1, r2)) :
  Calls Try.prog 13 #[.slice A0 l0.length c0, .slice A1 l1.length c1] w fun e w' => ∃ v0_ : Value, e = .returned (.tuple #[v0_, .int .i64 r2]) ∧ Kd.R (Kd.int .i64) 3 w' w.heap.size (fun _ => True) v0_ r1 ∧ Below w.heap.size w w' := by
 have HR0 := Aside0.mk hr0
 have HC0 := Aside0.mk hc0
 clear hr0 hc0
 have HR1 := Aside0.mk hr1
 have HC1 := Aside0.mk hc1
 clear hr1 hc1
 have HB := Aside0.mk (Below.refl w.heap.size w)
 have H : ((tegularef34_Counts_permitted.f k l0 l1).bind fun t228 => (if t228 = true then ((tegularef34_Counts_changed.f k l0 l1 1).bind fun t229 => (some (t229, 0))) else (some (([] : List Int), 2)))) = some (r1, r2) := h
 clear h
 replace H := Option.bind_eq_some_iff.mp H
 obtain ⟨t228, A30, H⟩ := H
 replace H : (if t228 = true then ((tegularef34_Counts_changed.f k l0 l1 1).bind fun t229 => (some (t229, 0))) else (some (([] : List Int), 2))) = some (r1, r2) := H
 have A3 := Aside0.mk A30
 clear A30
 by_cases c4 : t228 = true
 ·
  subst c4
  have H1 : ((tegularef34_Counts_changed.f k l0 l1 1).bind fun t229 => (some (t229, 0))) = some (r1, r2) := by rw [if_pos rfl] at H; exact H
  clear H
  have H := H1
  clear H1
  replace H := Option.bind_eq_some_iff.mp H
  obtain ⟨t229, A50, H⟩ := H
  replace H : (some (t229, 0)) = some (r1, r2) := H
  have A5 := Aside0.mk A50
  clear A50
  simp only [Option.some.injEq, Prod.mk.injEq] at H
  obtain ⟨rfl, rfl⟩ := H
  go_enter Try.func13, Try.ntmps13
  go_wp2_with (first | ((with_reducible refine gate_callee (f := 30) rfl ?_); refine goesL_ (some 8) rfl rfl Try.func30 (by kernel_rfl) rfl #[.slice A0 l0.length c0, .slice A1 l1.length c1] rfl (by (try simp only [List.map_toArray, List.map_cons, List.map_nil]); first | done | rfl | (simp only [List.length_drop, List.length_take]; rfl)) ?_; (with_reducible refine (tegularef34_Counts_permitted.calls k _ _ l0 _ _ l1 true _ ?side1 ?side2 ?side3 ?side4 A3.out).mono ?_); (case side1 => repeat (first | exact HR0.out | (with_reducible refine Kd.C_alloc ?_ _) | (with_reducible refine Kd.C_drewN ?_ _) | (with_reducible refine Kd.C_drew ?_))); (case side2 => exact HC0.out); (case side3 => repeat (first | exact HR1.out | (with_reducible refine Kd.C_alloc ?_ _) | (with_reducible refine Kd.C_drewN ?_ _) | (with_reducible refine Kd.C_drew ?_))); (case side4 => exact HC1.out); rintro e w' ⟨rfl, ⟨nd, rfl⟩⟩; refine ⟨_, rfl, ?_⟩) | ((with_reducible refine gate_callee (f := 31) rfl ?_); refine goesL_ (some 12) rfl rfl Try.func31 (by kernel_rfl) rfl #[.slice A0 l0.length c0, .slice A1 l1.length c1, .int .i64 1] rfl (by (try simp only [List.map_toArray, List.map_cons, List.map_nil]); first | done | rfl | (simp only [List.length_drop, List.length_take]; rfl)) ?_; (with_reducible refine (tegularef34_Counts_changed.calls k _ _ l0 _ _ l1 1 t229 _ ?side1 ?side2 ?side3 ?side4 A5.out).mono ?_); (case side1 => repeat (first | exact HR0.out | (with_reducible refine Kd.C_alloc ?_ _) | (with_reducible refine Kd.C_drewN ?_ _) | (with_reducible refine Kd.C_drew ?_))); (case side2 => exact HC0.out); (case side3 => repeat (first | exact HR1.out | (with_reducible refine Kd.C_alloc ?_ _) | (with_reducible refine Kd.C_drewN ?_ _) | (with_reducible refine Kd.C_drew ?_))); (case side4 => exact HC1.out); rintro e w6 ⟨v230, rfl, ho0, hb⟩; refine ⟨_, rfl, ?_⟩; have n0_ := Aside0.mk (Kd.R_lower ho0 (below_size (bU HB.out))); have n1_ := Aside0.mk (below_step (bU HB.out) hb); clear HB; have HO231 := n0_; have HB := n1_; clear n0_ n1_; (try clear hb); (try clear hb2); (try clear hk); (try clear hi); (try clear ho0)))
  go_ret2
  exact ⟨_, by first | rfl | (simp [errW_none, errW_some] <;> rfl) | (simp [*, errW_none, errW_some] <;> rfl), rU HO231.out, bU HB.out⟩
 ·
  replace c4 := Bool.eq_false_iff.mpr c4
  subst c4
  have H1 : (some (([] : List Int), 2)) = some (r1, r2) := by rw [if_neg (show ¬ (false = true) by decide)] at H; exact H
  clear H
  have H := H1
  clear H1
  simp only [Option.some.injEq, Prod.mk.injEq] at H
  obtain ⟨rfl, rfl⟩ := H
  go_enter Try.func13, Try.ntmps13
  go_wp2_with (first | ((with_reducible refine gate_callee (f := 30) rfl ?_); refine goesL_ (some 8) rfl rfl Try.func30 (by kernel_rfl) rfl #[.slice A0 l0.length c0, .slice A1 l1.length c1] rfl (by (try simp only [List.map_toArray, List.map_cons, List.map_nil]); first | done | rfl | (simp only [List.length_drop, List.length_take]; rfl)) ?_; (with_reducible refine (tegularef34_Counts_permitted.calls k _ _ l0 _ _ l1 false _ ?side1 ?side2 ?side3 ?side4 A3.out).mono ?_); (case side1 => repeat (first | exact HR0.out | (with_reducible refine Kd.C_alloc ?_ _) | (with_reducible refine Kd.C_drewN ?_ _) | (with_reducible refine Kd.C_drew ?_))); (case side2 => exact HC0.out); (case side3 => repeat (first | exact HR1.out | (with_reducible refine Kd.C_alloc ?_ _) | (with_reducible refine Kd.C_drewN ?_ _) | (with_reducible refine Kd.C_drew ?_))); (case side4 => exact HC1.out); rintro e w' ⟨rfl, ⟨nd, rfl⟩⟩; refine ⟨_, rfl, ?_⟩))
  go_ret2
  exact ⟨_, by first | rfl | (simp [errW_none, errW_some] <;> rfl) | (simp [*, errW_none, errW_some] <;> rfl), by first | exact Kd.R_nil _ _ _ _ _ | exact Kd.N_nil _ _ _ _ _ | exact Kd.V_nil _ _ _ _ _ | exact Kd.Q_nil _ _ _ _ _ | exact Kd.S_nil _ _ _ _ _, bU HB.out⟩

/-! ### refcount_Counts_Zero: function 18 -/
def refcount_Counts_Zero.l0 : Nat → List (S41) → List Int → Int → Int → Option ((List (S41)))
 | 0, _, _, _, _ => none
 | k + 1, x3, x7, x8, x9 => if x9 < x8 then (if 0 ≤ x9 then (if x9 < (x7.length : Int) then (if (rd x7 x9) = 0 then (if x3.length < 5864062014805 then (refcount_Counts_Zero.l0 k (x3 ++ [(⟨0, 1, x9⟩ : S41)]) x7 x8 (wrap64 (x9 + 1))) else (none)) else (refcount_Counts_Zero.l0 k x3 x7 x8 (wrap64 (x9 + 1)))) else (none)) else (none)) else ((extent_Runs.f k x3).bind fun t237 => (some t237))
def refcount_Counts_Zero.f (k : Nat) (l0_0 : List Int) : Option ((List (S41))) := refcount_Counts_Zero.l0 k ([] : List (S41)) l0_0 (l0_0.length : Int) 0
theorem refcount_Counts_Zero.mono_l : ∀ k, (∀ y0 y1 y2 y3, LeO (refcount_Counts_Zero.l0 k y0 y1 y2 y3) (refcount_Counts_Zero.l0 (k + 1) y0 y1 y2 y3))
 | 0 => fun _ _ _ _ r h => by simp [refcount_Counts_Zero.l0] at h
 | k + 1 => by
  have ih0 := refcount_Counts_Zero.mono_l k
  ·
   intro y0 y1 y2 y3
   unfold refcount_Counts_Zero.l0
   repeat' first
   | (with_reducible exact ih0 _ _ _ _)
   | (with_reducible exact extent_Runs.mono _ _)
   | (with_reducible exact LeO.refl _)
   | (with_reducible exact LeO.none _)
   | (with_reducible refine LeO.ite ?_ ?_)
   | (with_reducible refine LeO.bind ?_ (fun _ => ?_))
   | exact ih0 _ _ _ _
   | exact extent_Runs.mono _ _
   | exact LeO.none _
   | refine LeO.ite ?_ ?_
   | refine LeO.bind ?_ (fun _ => ?_)
theorem refcount_Counts_Zero.mono : ∀ a0 k, LeO (refcount_Counts_Zero.f k a0) (refcount_Counts_Zero.f (k + 1) a0) := by
 intro a0 k
 have ih0 := refcount_Counts_Zero.mono_l k
 unfold refcount_Counts_Zero.f
 repeat' first
   | (with_reducible exact ih0 _ _ _ _)
   | (with_reducible exact extent_Runs.mono _ _)
   | (with_reducible exact LeO.refl _)
   | (with_reducible exact LeO.none _)
   | (with_reducible refine LeO.ite ?_ ?_)
   | (with_reducible refine LeO.bind ?_ (fun _ => ?_))
   | exact ih0 _ _ _ _
   | exact extent_Runs.mono _ _
   | exact LeO.none _
   | refine LeO.ite ?_ ?_
   | refine LeO.bind ?_ (fun _ => ?_)
set_option maxHeartbeats 8000000 in
set_option maxRecDepth 100000 in
theorem refcount_Counts_Zero.calls (k : Nat) (A0_0 : Option Addr) (c0_0 : Nat) (l0_0 : List Int) (r : List (S41)) (w : World) (hr0_0 : Kd.C (Kd.int .i64) w A0_0 l0_0.length l0_0) (hc0_0 : l0_0.length ≤ c0_0) (h : refcount_Counts_Zero.f k l0_0 = some r) :
  Calls Try.prog 18 #[.agg #[.slice A0_0 l0_0.length c0_0]] w fun e w' => ∃ v0_ : Value, e = .returned (v0_) ∧ Kd.R k41 41 w' w.heap.size (fun _ => True) v0_ r ∧ Below w.heap.size w w' := by
 have hu27 := Try.underlying27
 have hu41 := Try.underlying41
 have HR0_0 := Aside0.mk hr0_0
 have HC0_0 := Aside0.mk hc0_0
 clear hr0_0 hc0_0
 have HB := Aside0.mk (Below.refl w.heap.size w)
 have H : (refcount_Counts_Zero.l0 k ([] : List (S41)) l0_0 (l0_0.length : Int) 0) = some r := h
 clear h
 have H' := Aside0.mk H
 clear H
 go_enter Try.func18, Try.ntmps18
 go_wp2_with (first | ((with_reducible refine gate_dst (N := 1) rfl ?_); refine box_event ?hg (N := 1) ?hd (cs := #[.slice A0_0 l0_0.length c0_0]) (t := 27) ?hr ?_; (case hd => rfl); (case hg => rfl); (case hr => first | (go_simp; done) | (go_simp; rfl)); intro gb232 hg w2 hbox hb; have n0_ := Aside0.mk (below_step (bU HB.out) hb); have n1_ := Aside0.mk (hbox); have n2_ := Aside0.mk ((by rw [hg]; exact (below_size (bU HB.out)) : w.heap.size ≤ gb232)); have n3_ := Aside0.mk ((by rw [hg]; exact (below_size (bU HB.out)) : w.heap.size ≤ gb232)); clear HB; have HB := n0_; have BK232 := n1_; have GW232 := n2_; have GE232 := n3_; clear n0_ n1_ n2_ n3_; clear hb hbox hg; have hcz3_0 : w2.cell? ⟨gb232, 0, none⟩ = some (.slice A0_0 l0_0.length c0_0) := (blk_cell BK232.out 0).trans rfl; have hfz3_0 := blk_frozen BK232.out 0))
 go_loopg [3, 9] k (fun kq v3 v9 w' => ∃ (x3_1 : List (S41)) (x9_1 : Int), v9 = .int .i64 x9_1 ∧ Aside0 (refcount_Counts_Zero.l0 kq x3_1 l0_0 (l0_0.length : Int) x9_1 = some r) ∧ Aside0 (kq ≤ k) ∧ Aside0 (Kd.R k41 41 w' w.heap.size (fun _ => True) v3 x3_1) ∧ Aside0 (w'.heap[gb232]? = some (.cells #[(.slice A0_0 l0_0.length c0_0)] 27 (0, 0))) ∧ Aside0 (Below w.heap.size w w'))
 case atStart => exact ⟨(([] : List (S41))), (0), (by first | rfl | (simp; done) | (simp [*]; done)), H', ⟨Nat.le_refl _⟩, ⟨by first | exact Kd.R_nil _ _ _ _ _ | exact Kd.N_nil _ _ _ _ _ | exact Kd.V_nil _ _ _ _ _ | exact Kd.Q_nil _ _ _ _ _ | exact Kd.S_nil _ _ _ _ _⟩, ⟨by (with_reducible repeat (first | refine blk_drewN ?_ _ | refine blk_drew ?_ | refine blk_alloc ?_ _)); exact BK232.out⟩, ⟨by repeat (first | (with_reducible first | exact HB.out | apply below_alloc | apply pw_below_drewN | apply below_drew1 | refine below_set ?_ GE232.out) | exact HB.out)⟩⟩
 case round =>
  clear H'
  try clear c1
  try clear p2
  try clear hcz3_0
  try clear hfz3_0
  obtain ⟨x3_1, x9_1, rfl, HA, HK1, HO_3, BK232, HB⟩ := hrel
  cases gk with
  | zero => exact absurd HA.out (by simp [refcount_Counts_Zero.l0])
  | succ k1 =>
   have H := HA.out
   clear HA
   simp only [refcount_Counts_Zero.l0] at H
   by_cases c4 : x9_1 < (l0_0.length : Int)
   ·
    rw [if_pos c4] at H
    have c4b0 := decide_eq_true c4
    clear c4
    by_cases c5 : 0 ≤ x9_1
    ·
     rw [if_pos c5] at H
     have c5b0 := decide_eq_true c5
     clear c5
     by_cases c6 : x9_1 < (l0_0.length : Int)
     ·
      rw [if_pos c6] at H
      have c6b0 := decide_eq_true c6
      clear c6
      by_cases c7 : (rd l0_0 x9_1) = 0
      ·
       rw [if_pos c7] at H
       have c7b0 : ((rd l0_0 x9_1) == 0) = true := beq_iff_eq.mpr c7
       have c7b1 : ((rd l0_0 x9_1) != 0) = false := bne_eq_false_iff_eq.mpr c7
       clear c7
       by_cases c8 : x3_1.length < 5864062014805
       ·
        rw [if_pos c8] at H
        have LMc8 := Aside0.mk c8
        clear c8
        obtain ⟨y234, hy234⟩ : ∃ y_ : List (S41), y_ = (x3_1 ++ [(⟨0, 1, x9_1⟩ : S41)]) := ⟨_, rfl⟩
        replace H : (refcount_Counts_Zero.l0 k1 y234 l0_0 (l0_0.length : Int) (wrap64 (x9_1 + 1))) = some r := by first | (rw [hy234]; exact H) | exact H
        have Ny234 := Aside0.mk hy234
        clear hy234
        have H' := Aside0.mk H
        clear H
        have p233 : 0 ≤ (x9_1 : Int) := of_decide_eq_true (by first | (with_reducible assumption) | assumption)
        have q233 : x9_1 < (l0_0.length : Int) := of_decide_eq_true (by first | (with_reducible assumption) | assumption)
        obtain ⟨ad233, e233, hx233_0⟩ := Kd.at_int HR0_0.out x9_1 p233 q233
        cases e233
        replace hx233_0 := (HB.out.cell (World.block_lt_of_cell? w _ hx233_0)).trans hx233_0
        replace p233 := eq_true p233
        replace q233 := eq_true q233
        go_wp2_with (first | ((with_reducible refine gate_builtin (b := .append) (xs := #[.tmp 16, .tmp 19]) rfl ?_); at_builtin; refine Kd.R_append k41 (w0 := w) w.heap.size rfl (.tmp 16) (.tmp 19) 32 41 (.agg #[(.int .i64 0), (.int .i64 0), (.int .i64 0)]) 24 rfl Try.underlying32 info41 rfl (by decide) (by omega) u3 x3_1 (⟨0, 1, x9_1⟩ : S41) [.int .i64 0, .int .i64 1, .int .i64 x9_1] (fun _ => True) (fun _ => False) rfl rfl ?aP (fun _ hk => hk.elim) ?aF ?aO ?aB ?aS ?aL ?_; (case aP => exact k41_mkM _ _ _ (⟨0, 1, x9_1⟩ : S41)); (case aB => exact (by repeat (first | (with_reducible first | exact HB.out | apply below_alloc | apply pw_below_drewN | apply below_drew1 | refine below_set ?_ GE232.out) | exact HB.out))); (case aF => exact (fun _ _ => trivial)); (case aO => exact (rU HO_3.out)); (case aS => exact (below_size (by repeat (first | (with_reducible first | exact HB.out | apply below_alloc | apply pw_below_drewN | apply below_drew1 | refine below_set ?_ GE232.out) | exact HB.out)))); (case aL => have := LMc8.out; omega); intro v235 w9 ho hb hg hat; rw [← Ny234.out] at ho; have n0_ := Aside0.mk (blk_grown (g := gb232) (o := .cells #[.slice (some ad233) l0_0.length c0_0] 27 (0, 0)) (kU BK232.out) hg (Kd.R_ne HO_3.out BK232.out (by decide))); have n1_ := Aside0.mk (hb); have n2_ := Aside0.mk (ho); clear BK232; clear HB; clear HO_3; have BK232 := n0_; have HB := n1_; have HO236 := n2_; clear n0_ n1_ n2_; clear ho hb hg hat))
        go_roundg k1
        case measure => have := HK1.out; omega
        case rel => exact ⟨(y234), (wrap64 (x9_1 + 1)), (by first | rfl | (simp; done) | (simp [*]; done)), H', ⟨by have := HK1.out; omega⟩, ⟨rU HO236.out⟩, ⟨by (with_reducible repeat (first | refine blk_drewN ?_ _ | refine blk_drew ?_ | refine blk_alloc ?_ _)); exact BK232.out⟩, ⟨by repeat (first | (with_reducible first | exact HB.out | apply below_alloc | apply pw_below_drewN | apply below_drew1 | refine below_set ?_ GE232.out) | exact HB.out)⟩⟩
       ·
        rw [if_neg c8] at H
        exact absurd H (by simp)
      ·
       rw [if_neg c7] at H
       have c7b0 : ((rd l0_0 x9_1) == 0) = false := beq_eq_false_iff_ne.mpr c7
       have c7b1 : ((rd l0_0 x9_1) != 0) = true := bne_iff_ne.mpr c7
       have H' := Aside0.mk H
       clear H
       have p233 : 0 ≤ (x9_1 : Int) := of_decide_eq_true (by first | (with_reducible assumption) | assumption)
       have q233 : x9_1 < (l0_0.length : Int) := of_decide_eq_true (by first | (with_reducible assumption) | assumption)
       obtain ⟨ad233, e233, hx233_0⟩ := Kd.at_int HR0_0.out x9_1 p233 q233
       cases e233
       replace hx233_0 := (HB.out.cell (World.block_lt_of_cell? w _ hx233_0)).trans hx233_0
       replace p233 := eq_true p233
       replace q233 := eq_true q233
       go_wp2
       go_roundg k1
       case measure => have := HK1.out; omega
       case rel => exact ⟨(x3_1), (wrap64 (x9_1 + 1)), (by first | rfl | (simp; done) | (simp [*]; done)), H', ⟨by have := HK1.out; omega⟩, ⟨rU HO_3.out⟩, ⟨by (with_reducible repeat (first | refine blk_drewN ?_ _ | refine blk_drew ?_ | refine blk_alloc ?_ _)); exact BK232.out⟩, ⟨by repeat (first | (with_reducible first | exact HB.out | apply below_alloc | apply pw_below_drewN | apply below_drew1 | refine below_set ?_ GE232.out) | exact HB.out)⟩⟩
     ·
      rw [if_neg c6] at H
      exact absurd H (by simp)
    ·
     rw [if_neg c5] at H
     exact absurd H (by simp)
   ·
    rw [if_neg c4] at H
    have c4b0 := decide_eq_false c4
    clear c4
    replace H := Option.bind_eq_some_iff.mp H
    obtain ⟨t237, A100, H⟩ := H
    replace H : (some t237) = some r := H
    have A10 := Aside0.mk A100
    clear A100
    obtain rfl := Option.some.inj H
    obtain ⟨Ao11, co11, eo11⟩ := Kd.R_slice HO_3.out
    subst eo11
    go_wp2_with (first | ((with_reducible refine gate_callee (f := 34) rfl ?_); refine goesL_ (some 23) rfl rfl Try.func34 (by kernel_rfl) rfl #[.slice Ao11 x3_1.length co11] rfl (by (try simp only [List.map_toArray, List.map_cons, List.map_nil]); first | done | rfl | (simp only [List.length_drop, List.length_take]; rfl)) ?_; (with_reducible refine (extent_Runs.calls k1 _ _ x3_1 t237 _ ?side1 ?side2 A10.out).mono ?_); (case side1 => repeat (first | exact (Kd.R_reads' HO_3.out).2.2 | (with_reducible refine Kd.C_alloc ?_ _) | (with_reducible refine Kd.C_drewN ?_ _) | (with_reducible refine Kd.C_drew ?_))); (case side2 => exact (Kd.R_reads' HO_3.out).2.1); rintro e w12 ⟨v238, rfl, ho0, hb⟩; refine ⟨_, rfl, ?_⟩; have n0_ := Aside0.mk (Kd.R_elder' (rU HO_3.out) (Kd.R_base ho0) hb); have n1_ := Aside0.mk (Kd.R_lower (Kd.R_new' ho0 (Kd.R_lt (rU HO_3.out))) (below_size (by repeat (first | (with_reducible first | exact HB.out | apply below_alloc | apply pw_below_drewN | apply below_drew1 | refine below_set ?_ GE232.out) | exact HB.out)))); have n2_ := Aside0.mk (blk_below (g := gb232) (o := .cells #[.slice A0_0 l0_0.length c0_0] 27 (0, 0)) (kU BK232.out) hb); have n3_ := Aside0.mk (below_step (by repeat (first | (with_reducible first | exact HB.out | apply below_alloc | apply pw_below_drewN | apply below_drew1 | refine below_set ?_ GE232.out) | exact HB.out)) hb); clear HO_3; clear BK232; clear HB; have HO_3 := n0_; have HO239 := n1_; have BK232 := n2_; have HB := n3_; clear n0_ n1_ n2_ n3_; (try clear hb); (try clear hb2); (try clear hk); (try clear hi); (try clear ho0)))
    go_ret
    exact ⟨_, by first | rfl | (simp [errW_none, errW_some] <;> rfl) | (simp [*, errW_none, errW_some] <;> rfl), by (with_reducible repeat (first | apply Kd.R_alloc | apply Kd.R_drewN | apply Kd.R_drew)); exact Kd.R_mono HO239.out (fun _ hk => trivial), by repeat (first | (with_reducible first | exact HB.out | apply below_alloc | apply pw_below_drewN | apply below_drew1 | refine below_set ?_ GE232.out) | exact HB.out)⟩

/-! ### refcount_Counts_Slots: function 21 -/
def refcount_Counts_Slots.f (l0_0 : List Int) : Option (Int) := some (l0_0.length : Int)
set_option maxHeartbeats 8000000 in
set_option maxRecDepth 100000 in
theorem refcount_Counts_Slots.calls (A0_0 : Option Addr) (c0_0 : Nat) (l0_0 : List Int) (r : Int) (w : World) (hr0_0 : Kd.C (Kd.int .i64) w A0_0 l0_0.length l0_0) (hc0_0 : l0_0.length ≤ c0_0) (h : refcount_Counts_Slots.f l0_0 = some r) :
  Calls Try.prog 21 #[.agg #[.slice A0_0 l0_0.length c0_0]] w fun e w' => e = .returned (.int .i64 r) ∧ Below w.heap.size w w' := by
 have hu27 := Try.underlying27
 have HR0_0 := Aside0.mk hr0_0
 have HC0_0 := Aside0.mk hc0_0
 clear hr0_0 hc0_0
 have HB := Aside0.mk (Below.refl w.heap.size w)
 have H : (some (l0_0.length : Int)) = some r := h
 clear h
 obtain rfl := Option.some.inj H
 go_enter Try.func21, Try.ntmps21
 go_wp2_with (first | ((with_reducible refine gate_dst (N := 1) rfl ?_); refine box_event ?hg (N := 1) ?hd (cs := #[.slice A0_0 l0_0.length c0_0]) (t := 27) ?hr ?_; (case hd => rfl); (case hg => rfl); (case hr => first | (go_simp; done) | (go_simp; rfl)); intro gb240 hg w2 hbox hb; have n0_ := Aside0.mk (below_step (bU HB.out) hb); have n1_ := Aside0.mk (hbox); have n2_ := Aside0.mk ((by rw [hg]; exact (below_size (bU HB.out)) : w.heap.size ≤ gb240)); have n3_ := Aside0.mk ((by rw [hg]; exact (below_size (bU HB.out)) : w.heap.size ≤ gb240)); clear HB; have HB := n0_; have BK240 := n1_; have GW240 := n2_; have GE240 := n3_; clear n0_ n1_ n2_ n3_; clear hb hbox hg; have hcz3_0 : w2.cell? ⟨gb240, 0, none⟩ = some (.slice A0_0 l0_0.length c0_0) := (blk_cell BK240.out 0).trans rfl; have hfz3_0 := blk_frozen BK240.out 0))
 go_ret
 exact ⟨by first | rfl | (simp [errW_none, errW_some] <;> rfl) | (simp [*, errW_none, errW_some] <;> rfl), by repeat (first | (with_reducible first | exact HB.out | apply below_alloc | apply pw_below_drewN | apply below_drew1 | refine below_set ?_ GE240.out) | exact HB.out)⟩

end Go.Proofs.Ytnloofhpdlggnaa.PRefcount
