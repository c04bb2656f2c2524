-- Written for this claim by a program of this session (wip/), out of the translation's own print: Lean checks it
import Derived.Test.YtcjpikjbjehjeaaPAllocBx0
import Derived.Test.YtcjpikjbjehjeaaPAllocBx2
import Derived.Test.YtcjpikjbjehjeaaPAllocBx5
namespace Go.Proofs.Ytcjpikjbjehjeaa.PAllocB
open Go.RowKit Go.Proofs.YtcjpikjbjehjeaaW.PrintWords Go.Proofs.YtcjpikjbjehjeaaW.PrintLast Go.Proofs.YtcjpikjbjehjeaaW.PrintMore
attribute [local go_sem] max2_int min2_int max_two min_two max_three min_three max_four min_four   -- for this text's walks alone
set_option linter.unusedVariables false
set_option linter.unusedSimpArgs false

/-! ### tegulalaw35_few: function 20 -/
def tegulalaw35_few.l0 : Nat → List (S57) → Int → Option (Bool)
 | 0, _, _ => none
 | k + 1, x0, x3 => if x3 < (x0.length : Int) then (if 0 ≤ x3 then (if (((rd_T57 x0 x3).f3).length : Int) > 8 then (some false) else (tegulalaw35_few.l0 k x0 (wrap64 (x3 + 1)))) else (none)) else (some (decide ((x0.length : Int) ≤ 25)))
def tegulalaw35_few.f (k : Nat) (l0 : List (S57)) : Option (Bool) := tegulalaw35_few.l0 k l0 0
theorem tegulalaw35_few.mono_l : ∀ k, (∀ y0 y1, LeO (tegulalaw35_few.l0 k y0 y1) (tegulalaw35_few.l0 (k + 1) y0 y1))
 | 0 => fun _ _ r h => by simp [tegulalaw35_few.l0] at h
 | k + 1 => by
  have ih0 := tegulalaw35_few.mono_l k
  ·
   intro y0 y1
   unfold tegulalaw35_few.l0
   repeat' first
   | (with_reducible exact ih0 _ _)
   | (with_reducible exact LeO.refl _)
   | (with_reducible exact LeO.none _)
   | (with_reducible refine LeO.ite ?_ ?_)
   | (with_reducible refine LeO.bind ?_ (fun _ => ?_))
   | exact ih0 _ _
   | exact LeO.none _
   | refine LeO.ite ?_ ?_
   | refine LeO.bind ?_ (fun _ => ?_)
theorem tegulalaw35_few.mono : ∀ a0 k, LeO (tegulalaw35_few.f k a0) (tegulalaw35_few.f (k + 1) a0) := by
 intro a0 k
 have ih0 := tegulalaw35_few.mono_l k
 unfold tegulalaw35_few.f
 repeat' first
   | (with_reducible exact ih0 _ _)
   | (with_reducible exact LeO.refl _)
   | (with_reducible exact LeO.none _)
   | (with_reducible refine LeO.ite ?_ ?_)
   | (with_reducible refine LeO.bind ?_ (fun _ => ?_))
   | exact ih0 _ _
   | exact LeO.none _
   | refine LeO.ite ?_ ?_
   | refine LeO.bind ?_ (fun _ => ?_)
set_option maxHeartbeats 8000000 in
set_option maxRecDepth 100000 in
theorem tegulalaw35_few.calls (k : Nat) (A0 : Option Addr) (c0 : Nat) (l0 : List (S57)) (r : Bool) (w : World) (hr0 : Kd.C k57 w A0 l0.length l0) (hc0 : l0.length ≤ c0) (h : tegulalaw35_few.f k l0 = some r) :
  Calls Try.prog 20 #[.slice A0 l0.length c0] w fun e w' => e = .returned (.bool r) ∧ Drawn0 w w' := by
 have HR0 := Aside0.mk hr0
 have HC0 := Aside0.mk hc0
 clear hr0 hc0
 have H : (tegulalaw35_few.l0 k l0 0) = some r := h
 clear h
 have H' := Aside0.mk H
 clear H
 go_enter Try.func20, Try.ntmps20
 go_wp2
 go_loopg [3] k (fun kq v3 w' => ∃ (x3_1 : Int), v3 = .int .i64 x3_1 ∧ Aside0 (tegulalaw35_few.l0 kq l0 x3_1 = some r) ∧ Aside0 (kq ≤ k) ∧ Drawn0 w w')
 case atStart => exact ⟨(0), (by first | rfl | (simp; done) | (simp [*]; done)), H', ⟨Nat.le_refl _⟩, by repeat (first | exact Drawn0.refl _ | apply Drawn0.step)⟩
 case round =>
  clear H'
  obtain ⟨x3_1, rfl, HA, HK1, ⟨m1, rfl⟩⟩ := hrel
  cases gk with
  | zero => exact absurd HA.1 (by simp [tegulalaw35_few.l0])
  | succ k1 =>
   have H := HA.1
   clear HA
   simp only [tegulalaw35_few.l0] at H
   by_cases c2 : x3_1 < (l0.length : Int)
   ·
    rw [if_pos c2] at H
    have c2b0 := decide_eq_true c2
    clear c2
    by_cases c3 : 0 ≤ x3_1
    ·
     rw [if_pos c3] at H
     have c3b0 := decide_eq_true c3
     clear c3
     by_cases c4 : (((rd_T57 l0 x3_1).f3).length : Int) > 8
     ·
      rw [if_pos c4] at H
      have c4b0 := decide_eq_true c4
      have c4b1 : decide (8 < ((rd_T57 l0 x3_1).f3).length) = true := decide_eq_true (by omega)
      clear c4
      obtain rfl := Option.some.inj H
      have p359 : 0 ≤ (x3_1 : Int) := dT
      have q359 : x3_1 < (l0.length : Int) := dT
      obtain ⟨ad359, A359_3, c359_3, e359, hx359_0, hx359_1, hx359_2, hx359_3, hl359_3, hi359_3⟩ := at_T57 HR0.1 x3_1 p359 q359
      cases e359
      have HR359_3 := Aside0.mk hi359_3
      have HC359_3 := Aside0.mk hl359_3
      clear hi359_3 hl359_3
      replace p359 := eq_true p359
      replace q359 := eq_true q359
      go_wp2
      go_ret
      exact ⟨by first | rfl | (simp; done) | (simp [*]; done), by repeat (first | exact Drawn0.refl _ | apply Drawn0.step)⟩
     ·
      rw [if_neg c4] at H
      have c4b0 := decide_eq_false c4
      have c4b1 : decide (8 < ((rd_T57 l0 x3_1).f3).length) = false := decide_eq_false (by omega)
      clear c4
      have H' := Aside0.mk H
      clear H
      have p359 : 0 ≤ (x3_1 : Int) := dT
      have q359 : x3_1 < (l0.length : Int) := dT
      obtain ⟨ad359, A359_3, c359_3, e359, hx359_0, hx359_1, hx359_2, hx359_3, hl359_3, hi359_3⟩ := at_T57 HR0.1 x3_1 p359 q359
      cases e359
      have HR359_3 := Aside0.mk hi359_3
      have HC359_3 := Aside0.mk hl359_3
      clear hi359_3 hl359_3
      replace p359 := eq_true p359
      replace q359 := eq_true q359
      go_wp2
      go_roundg k1
      case measure => have := HK1.1; omega
      case rel => exact ⟨(wrap64 (x3_1 + 1)), (by first | rfl | (simp; done) | (simp [*]; done)), H', ⟨by have := HK1.1; omega⟩, by repeat (first | exact Drawn0.refl _ | apply Drawn0.step)⟩
    ·
     rw [if_neg c3] at H
     exact absurd H (by simp)
   ·
    rw [if_neg c2] at H
    have c2b0 := decide_eq_false c2
    clear c2
    obtain rfl := Option.some.inj H
    go_wp2
    go_ret
    exact ⟨by first | rfl | (simp; done) | (simp [*]; done), by repeat (first | exact Drawn0.refl _ | apply Drawn0.step)⟩

/-! ### alloc_Map_Largest: function 16 -/
def alloc_Map_Largest.l0 : Nat → Int → List (S53) → Int → Int → Option (Int)
 | 0, _, _, _, _ => none
 | k + 1, x3, x7, x8, x9 => if x9 < x8 then (if 0 ≤ x9 then (if x9 < (x7.length : Int) then (alloc_Map_Largest.l0 k (mx x3 ((rd_T53 x7 x9).f1)) x7 x8 (wrap64 (x9 + 1))) else (none)) else (none)) else (some x3)
def alloc_Map_Largest.f (k : Nat) (a0_0 : Int) (l0_1 : List (S53)) : Option (Int) := alloc_Map_Largest.l0 k 0 l0_1 (l0_1.length : Int) 0
theorem alloc_Map_Largest.mono_l : ∀ k, (∀ y0 y1 y2 y3, LeO (alloc_Map_Largest.l0 k y0 y1 y2 y3) (alloc_Map_Largest.l0 (k + 1) y0 y1 y2 y3))
 | 0 => fun _ _ _ _ r h => by simp [alloc_Map_Largest.l0] at h
 | k + 1 => by
  have ih0 := alloc_Map_Largest.mono_l k
  ·
   intro y0 y1 y2 y3
   unfold alloc_Map_Largest.l0
   repeat' first
   | (with_reducible exact ih0 _ _ _ _)
   | (with_reducible exact LeO.refl _)
   | (with_reducible exact LeO.none _)
   | (with_reducible refine LeO.ite ?_ ?_)
   | (with_reducible refine LeO.bind ?_ (fun _ => ?_))
   | exact ih0 _ _ _ _
   | exact LeO.none _
   | refine LeO.ite ?_ ?_
   | refine LeO.bind ?_ (fun _ => ?_)
theorem alloc_Map_Largest.mono : ∀ a0 a1 k, LeO (alloc_Map_Largest.f k a0 a1) (alloc_Map_Largest.f (k + 1) a0 a1) := by
 intro a0 a1 k
 have ih0 := alloc_Map_Largest.mono_l k
 unfold alloc_Map_Largest.f
 repeat' first
   | (with_reducible exact ih0 _ _ _ _)
   | (with_reducible exact LeO.refl _)
   | (with_reducible exact LeO.none _)
   | (with_reducible refine LeO.ite ?_ ?_)
   | (with_reducible refine LeO.bind ?_ (fun _ => ?_))
   | exact ih0 _ _ _ _
   | exact LeO.none _
   | refine LeO.ite ?_ ?_
   | refine LeO.bind ?_ (fun _ => ?_)
set_option maxHeartbeats 8000000 in
set_option maxRecDepth 100000 in
theorem alloc_Map_Largest.calls (k : Nat) (a0_0 : Int) (A0_1 : Option Addr) (c0_1 : Nat) (l0_1 : List (S53)) (r : Int) (w : World) (hr0_1 : Kd.C k53 w A0_1 l0_1.length l0_1) (hc0_1 : l0_1.length ≤ c0_1) (h : alloc_Map_Largest.f k a0_0 l0_1 = some r) :
  Calls Try.prog 16 #[.agg #[.int .i64 a0_0, .slice A0_1 l0_1.length c0_1]] w fun e w' => e = .returned (.int .i64 r) ∧ Below w.heap.size w w' := by
 have hu26 := Try.underlying26
 have hu53 := Try.underlying53
 have HR0_1 := Aside0.mk hr0_1
 have HC0_1 := Aside0.mk hc0_1
 clear hr0_1 hc0_1
 have HB := Aa (Below.refl w.heap.size w)
 have H : (alloc_Map_Largest.l0 k 0 l0_1 (l0_1.length : Int) 0) = some r := h
 clear h
 have H' := Aside0.mk H
 clear H
 go_enter Try.func16, Try.ntmps16
 go_wp2_with (first | ((with_reducible refine gD 1 ?_); refine bE #[.int .i64 a0_0, .slice A0_1 l0_1.length c0_1] 26 ?_; intro gb360 hg w2 hbox hb; have BK360 := Aa (hbox); have GW360 := gU HB hg; have GE360 := gU HB hg; have iE360 := Nonempty.intro GE360.1; replace HB := sU HB hb; clear hb hbox hg; have hcz3_0 : w2.cell? ⟨gb360, 0, none⟩ = some (.int .i64 a0_0) := cC BK360 0; have hcz3_1 : w2.cell? ⟨gb360, 1, none⟩ = some (.slice A0_1 l0_1.length c0_1) := cC BK360 1; have hfz3_0 := fC BK360 0; have hfz3_1 := fC BK360 1))
 go_loopg [3, 9] k (fun kq v3 v9 w' => ∃ (x3_1 : Int) (x9_1 : Int), v3 = .int .i64 x3_1 ∧ v9 = .int .i64 x9_1 ∧ Aside0 (alloc_Map_Largest.l0 kq x3_1 l0_1 (l0_1.length : Int) x9_1 = some r) ∧ Aside0 (kq ≤ k) ∧ Aside0 (w'.heap[gb360]? = some (.cells #[.int .i64 a0_0, (.slice A0_1 l0_1.length c0_1)] 26 (0, 0))) ∧ Aside0 (Below w.heap.size w w'))
 case atStart => exact ⟨(0), (0), (by first | rfl | (simp; done) | (simp [*]; done)), (by first | rfl | (simp; done) | (simp [*]; done)), H', ⟨Nat.le_refl _⟩, ⟨by refine kP ?_; exact BK360.1⟩, ⟨bS HB.1⟩⟩
 case round =>
  clear H'
  try clear c1
  try clear p2
  try clear hcz3_0
  try clear hcz3_1
  try clear hfz3_0
  try clear hfz3_1
  obtain ⟨x3_1, x9_1, rfl, rfl, HA, HK1, BK360, HB⟩ := hrel
  cases gk with
  | zero => exact absurd HA.1 (by simp [alloc_Map_Largest.l0])
  | succ k1 =>
   have H := HA.1
   clear HA
   simp only [alloc_Map_Largest.l0] at H
   by_cases c4 : x9_1 < (l0_1.length : Int)
   ·
    rw [if_pos c4] at H
    have c4b0 := decide_eq_true c4
    clear c4
    by_cases c5 : 0 ≤ x9_1
    ·
     rw [if_pos c5] at H
     have c5b0 := decide_eq_true c5
     clear c5
     by_cases c6 : x9_1 < (l0_1.length : Int)
     ·
      rw [if_pos c6] at H
      have c6b0 := decide_eq_true c6
      clear c6
      obtain ⟨ji7, hji7⟩ : ∃ j_ : Int, (mx x3_1 ((rd_T53 l0_1 x9_1).f1)) = j_ := ⟨_, rfl⟩
      replace H : (alloc_Map_Largest.l0 k1 ji7 l0_1 (l0_1.length : Int) (wrap64 (x9_1 + 1))) = some r := by first | (rw [hji7] at H; exact H) | (simp only [hji7] at H ⊢; exact H)
      have hji7_ : (if x3_1 < ((rd_T53 l0_1 x9_1).f1) then ((rd_T53 l0_1 x9_1).f1) else x3_1) = ji7 := hji7
      have H' := Aside0.mk H
      clear H
      have p361 : 0 ≤ (x9_1 : Int) := dT
      have q361 : x9_1 < (l0_1.length : Int) := dT
      obtain ⟨ad361, e361, hx361_0, hx361_1, hx361_2⟩ := at_T53 HR0_1.1 x9_1 p361 q361
      cases e361
      replace hx361_0 := cB HB hx361_0
      replace hx361_1 := cB HB hx361_1
      replace hx361_2 := cB HB hx361_2
      replace p361 := eq_true p361
      replace q361 := eq_true q361
      go_wp2_with (first | ((with_reducible refine gD 5 ?_); refine bE #[.int .i64 0, .int .i64 0, .int .i64 0] 53 ?_; intro gb362 hg w8 hbox hb; have BK362 := Aa (hbox); have GW362 := gS HB hg; have GE362 := gS HB hg; have iE362 := Nonempty.intro GE362.1; replace HB := sB HB hb; have NB360_362 := nL BK360 hg; have NB362_360 := nG BK360 hg; replace BK360 := kB BK360 hb; clear hb hbox hg; have hnb9 := NB362_360.1; have hnc9 := NB360_362.1; have hcz10_0 : w8.cell? ⟨gb362, 0, none⟩ = some (.int .i64 0) := cC BK362 0; have hcz10_1 : w8.cell? ⟨gb362, 1, none⟩ = some (.int .i64 0) := cC BK362 1; have hcz10_2 : w8.cell? ⟨gb362, 2, none⟩ = some (.int .i64 0) := cC BK362 2; have hfz10_0 := fC BK362 0; have hfz10_1 := fC BK362 1; have hfz10_2 := fC BK362 2))
      go_roundg k1
      case measure => have := HK1.1; omega
      case rel => exact ⟨(ji7), (wrap64 (x9_1 + 1)), (by first | rfl | (simp; done) | (simp only [← hji7] <;> (first | rfl | simp)) | (simp [*]; done)), (by first | rfl | (simp; done) | (simp [*]; done)), H', ⟨by have := HK1.1; omega⟩, ⟨by refine kP ?_; refine blk_far ?_ NB360_362.1 _; refine kP ?_; refine blk_far ?_ NB360_362.1 _; refine kP ?_; refine blk_far ?_ NB360_362.1 _; refine kP ?_; exact BK360.1⟩, ⟨bS HB.1⟩⟩
     ·
      rw [if_neg c6] at H
      exact absurd H (by simp)
    ·
     rw [if_neg c5] at H
     exact absurd H (by simp)
   ·
    rw [if_neg c4] at H
    have c4b0 := decide_eq_false c4
    clear c4
    obtain rfl := Option.some.inj H
    go_wp2
    go_ret
    exact ⟨fT, bS HB.1⟩

/-! ### alloc_Map_Slots: function 17 -/
def alloc_Map_Slots.f (a0_0 : Int) (l0_1 : List (S53)) : Option (Int) := some a0_0
set_option maxHeartbeats 8000000 in
set_option maxRecDepth 100000 in
theorem alloc_Map_Slots.calls (a0_0 : Int) (A0_1 : Option Addr) (c0_1 : Nat) (l0_1 : List (S53)) (r : Int) (w : World) (hr0_1 : Kd.C k53 w A0_1 l0_1.length l0_1) (hc0_1 : l0_1.length ≤ c0_1) (h : alloc_Map_Slots.f a0_0 l0_1 = some r) :
  Calls Try.prog 17 #[.agg #[.int .i64 a0_0, .slice A0_1 l0_1.length c0_1]] w fun e w' => e = .returned (.int .i64 r) ∧ Below w.heap.size w w' := by
 have hu26 := Try.underlying26
 have HR0_1 := Aside0.mk hr0_1
 have HC0_1 := Aside0.mk hc0_1
 clear hr0_1 hc0_1
 have HB := Aa (Below.refl w.heap.size w)
 have H : (some a0_0) = some r := h
 clear h
 obtain rfl := Option.some.inj H
 go_enter Try.func17, Try.ntmps17
 go_wp2_with (first | ((with_reducible refine gD 1 ?_); refine bE #[.int .i64 a0_0, .slice A0_1 l0_1.length c0_1] 26 ?_; intro gb363 hg w2 hbox hb; have BK363 := Aa (hbox); have GW363 := gU HB hg; have GE363 := gU HB hg; have iE363 := Nonempty.intro GE363.1; replace HB := sU HB hb; clear hb hbox hg; have hcz3_0 : w2.cell? ⟨gb363, 0, none⟩ = some (.int .i64 a0_0) := cC BK363 0; have hcz3_1 : w2.cell? ⟨gb363, 1, none⟩ = some (.slice A0_1 l0_1.length c0_1) := cC BK363 1; have hfz3_0 := fC BK363 0; have hfz3_1 := fC BK363 1))
 go_ret
 exact ⟨fT, bS HB.1⟩

/-! ### alloc_Map_Runs: function 18 -/
def alloc_Map_Runs.f (a0_0 : Int) (l0_1 : List (S53)) : Option ((List (S53))) := (api_Extent_32.f l0_1).bind fun t365 => (some t365)
set_option maxHeartbeats 8000000 in
set_option maxRecDepth 100000 in
theorem alloc_Map_Runs.calls (a0_0 : Int) (A0_1 : Option Addr) (c0_1 : Nat) (l0_1 : List (S53)) (r : List (S53)) (w : World) (hr0_1 : Kd.C k53 w A0_1 l0_1.length l0_1) (hc0_1 : l0_1.length ≤ c0_1) (h : alloc_Map_Runs.f a0_0 l0_1 = some r) :
  Calls Try.prog 18 #[.agg #[.int .i64 a0_0, .slice A0_1 l0_1.length c0_1]] w fun e w' => ∃ v0_ : Value, e = .returned (v0_) ∧ Kd.R k53 53 w' w.heap.size (fun _ => True) v0_ r ∧ Below w.heap.size w w' := by
 have hu26 := Try.underlying26
 have HR0_1 := Aside0.mk hr0_1
 have HC0_1 := Aside0.mk hc0_1
 clear hr0_1 hc0_1
 have HB := Aa (Below.refl w.heap.size w)
 have H : ((api_Extent_32.f l0_1).bind fun t365 => (some t365)) = some r := h
 clear h
 replace H := Option.bind_eq_some_iff.mp H
 obtain ⟨t365, A20, H⟩ := H
 replace H : (some t365) = some r := H
 have A2 := Aside0.mk A20
 clear A20
 obtain rfl := Option.some.inj H
 go_enter Try.func18, Try.ntmps18
 go_wp2_with (first | ((with_reducible refine gD 1 ?_); refine bE #[.int .i64 a0_0, .slice A0_1 l0_1.length c0_1] 26 ?_; intro gb364 hg w3 hbox hb; have BK364 := Aa (hbox); have GW364 := gU HB hg; have GE364 := gU HB hg; have iE364 := Nonempty.intro GE364.1; replace HB := sU HB hb; clear hb hbox hg; have hcz4_0 : w3.cell? ⟨gb364, 0, none⟩ = some (.int .i64 a0_0) := cC BK364 0; have hcz4_1 : w3.cell? ⟨gb364, 1, none⟩ = some (.slice A0_1 l0_1.length c0_1) := cC BK364 1; have hfz4_0 := fC BK364 0; have hfz4_1 := fC BK364 1) | ((with_reducible refine gC 32 ?_); refine gL 5 Try.func32 #[.slice A0_1 l0_1.length c0_1] ?_; (with_reducible refine (api_Extent_32.calls _ _ l0_1 t365 _ ?side1 ?side2 A2.1).mono ?_); (case side1 => exact cU (Kd.C_below HR0_1.1 HB.1)); (case side2 => exact HC0_1.1); rintro e w5 ⟨v366, rfl, ho0, hb⟩; refine ⟨_, rfl, ?_⟩; have HO367 := Aa (Kd.R_lower ho0 (below_size (bS HB.1))); replace BK364 := kB BK364 hb; replace HB := sB HB hb; (try clear hb); (try clear ho0)))
 go_ret
 exact ⟨_, fT, rU HO367.1, bS HB.1⟩

-- NOT PRINTED: function 50 (cmp_isNaN_int)

-- NOT PRINTED: function 35 (cmp_Compare_int)

-- MAKES
/-- The order of two numbers. -/
def cmpI (x y : Int) : Int := if x < y then -1 else if y < x then 1 else 0
set_option maxHeartbeats 1000000 in
theorem cmpI_calls (x y : Int) (w : World) : Calls Try.prog 35 #[.int .i64 x, .int .i64 y] w fun e w' => e = .returned (.int .i64 (cmpI x y)) ∧ w' = w := by
 have hx : (x != x) = false := by simp
 have hy : (y != y) = false := by simp
 rcases Int.lt_trichotomy x y with h | h | h
 ·
  have e : cmpI x y = -1 := by unfold cmpI; rw [if_pos h]
  rw [e]
  go_enter Try.func35, Try.ntmps35
  go_wp2
  go_ret
  exact ⟨rfl, rfl⟩
 ·
  subst h
  have e : cmpI x x = 0 := by unfold cmpI; rw [if_neg (Int.lt_irrefl _), if_neg (Int.lt_irrefl _)]
  rw [e]
  go_enter Try.func35, Try.ntmps35
  go_wp2
  go_ret
  exact ⟨rfl, rfl⟩
 ·
  have e : cmpI x y = 1 := by unfold cmpI; rw [if_neg (by omega), if_pos h]
  have h1 : ¬ x < y := by omega
  rw [e]
  go_enter Try.func35, Try.ntmps35
  go_wp2
  go_ret
  exact ⟨rfl, rfl⟩
def alloc_Map_Is_1.f (a0_0 a0_1 a0_2 a1 : Int) : Option Int := some (cmpI a0_2 a1)
set_option maxHeartbeats 1000000 in
/-- Is's closure. -/
theorem alloc_Map_Is_1.calls (a0_0 a0_1 a0_2 a1 : Int) (r : Int) (w : World) (h : alloc_Map_Is_1.f a0_0 a0_1 a0_2 a1 = some r) :
  Calls Try.prog 34 #[.agg #[.int .i64 a0_0, .int .i64 a0_1, .int .i64 a0_2], .int .i64 a1] w fun e w' => e = .returned (.int .i64 r) ∧ Below w.heap.size w w' := by
 obtain rfl := Option.some.inj h
 have HH := Aa (fun W => cmpI_calls a0_2 a1 W)
 have hu53 := Try.underlying53
 clear h
 generalize cmpI a0_2 a1 = r at HH ⊢
 go_enter Try.func34, Try.ntmps34
 go_wp2_with (go_at_call 35; refine (HH.1 _).mono ?_; rintro e w' ⟨rfl, rfl⟩)
 go_ret
 exact ⟨rfl, (Below.refl _ _).alloc (Nat.le_refl _) _⟩

/-! ### api_Extent_int: function 33 -/
def api_Extent_int.l0 : Nat → List (S53) → Int → Int → Int → Int → Option (Int × Bool)
 | 0, _, _, _, _, _ => none
 | k + 1, x0, x1, x8, x9, x10 => if x9 < x10 then (if 0 ≤ (wrap64 ((IntKind.u64.wrap (wrap64 (x9 + x10))) / 2)) then (if (wrap64 ((IntKind.u64.wrap (wrap64 (x9 + x10))) / 2)) < (x0.length : Int) then ((alloc_Map_Is_1.f ((rd_T53 x0 (wrap64 ((IntKind.u64.wrap (wrap64 (x9 + x10))) / 2))).f0) ((rd_T53 x0 (wrap64 ((IntKind.u64.wrap (wrap64 (x9 + x10))) / 2))).f1) ((rd_T53 x0 (wrap64 ((IntKind.u64.wrap (wrap64 (x9 + x10))) / 2))).f2) x1).bind fun t369 => (if t369 < 0 then (api_Extent_int.l0 k x0 x1 x8 (wrap64 ((wrap64 ((IntKind.u64.wrap (wrap64 (x9 + x10))) / 2)) + 1)) x10) else (api_Extent_int.l0 k x0 x1 x8 x9 (wrap64 ((IntKind.u64.wrap (wrap64 (x9 + x10))) / 2))))) else (none)) else (none)) else (if x9 < x8 then (if 0 ≤ x9 then (if x9 < (x0.length : Int) then ((alloc_Map_Is_1.f ((rd_T53 x0 x9).f0) ((rd_T53 x0 x9).f1) ((rd_T53 x0 x9).f2) x1).bind fun t371 => (some (x9, (t371 == 0)))) else (none)) else (none)) else (some (x9, false)))
def api_Extent_int.f (k : Nat) (l0 : List (S53)) (a1 : Int) : Option (Int × Bool) := api_Extent_int.l0 k l0 a1 (l0.length : Int) 0 (l0.length : Int)
theorem api_Extent_int.mono_l : ∀ k, (∀ y0 y1 y2 y3 y4, LeO (api_Extent_int.l0 k y0 y1 y2 y3 y4) (api_Extent_int.l0 (k + 1) y0 y1 y2 y3 y4))
 | 0 => fun _ _ _ _ _ r h => by simp [api_Extent_int.l0] at h
 | k + 1 => by
  have ih0 := api_Extent_int.mono_l k
  ·
   intro y0 y1 y2 y3 y4
   unfold api_Extent_int.l0
   repeat' first
   | (with_reducible exact ih0 _ _ _ _ _)
   | (with_reducible exact LeO.refl _)
   | (with_reducible exact LeO.none _)
   | (with_reducible refine LeO.ite ?_ ?_)
   | (with_reducible refine LeO.bind ?_ (fun _ => ?_))
   | exact ih0 _ _ _ _ _
   | exact LeO.none _
   | refine LeO.ite ?_ ?_
   | refine LeO.bind ?_ (fun _ => ?_)
theorem api_Extent_int.mono : ∀ a0 a1 k, LeO (api_Extent_int.f k a0 a1) (api_Extent_int.f (k + 1) a0 a1) := by
 intro a0 a1 k
 have ih0 := api_Extent_int.mono_l k
 unfold api_Extent_int.f
 repeat' first
   | (with_reducible exact ih0 _ _ _ _ _)
   | (with_reducible exact LeO.refl _)
   | (with_reducible exact LeO.none _)
   | (with_reducible refine LeO.ite ?_ ?_)
   | (with_reducible refine LeO.bind ?_ (fun _ => ?_))
   | exact ih0 _ _ _ _ _
   | exact LeO.none _
   | refine LeO.ite ?_ ?_
   | refine LeO.bind ?_ (fun _ => ?_)
set_option maxHeartbeats 8000000 in
set_option maxRecDepth 100000 in
theorem api_Extent_int.calls (k : Nat) (A0 : Option Addr) (c0 : Nat) (l0 : List (S53)) (a1 : Int) (r1 : Int) (r2 : Bool) (w : World) (hr0 : Kd.C k53 w A0 l0.length l0) (hc0 : l0.length ≤ c0) (h : api_Extent_int.f k l0 a1 = some (r1, r2)) :
  Calls Try.prog 33 #[.slice A0 l0.length c0, .int .i64 a1, .func (.func 34) #[] #[]] w fun e w' => e = .returned (.tuple #[.int .i64 r1, .bool r2]) ∧ Below w.heap.size w w' := by
 have hu53 := Try.underlying53
 have HR0 := Aside0.mk hr0
 have HC0 := Aside0.mk hc0
 clear hr0 hc0
 have HB := Aa (Below.refl w.heap.size w)
 have H : (api_Extent_int.l0 k l0 a1 (l0.length : Int) 0 (l0.length : Int)) = some (r1, r2) := h
 clear h
 have H' := Aside0.mk H
 clear H
 go_enter Try.func33, Try.ntmps33
 go_wp2
 go_loopg [9, 10] k (fun kq v9 v10 w' => ∃ (x9_1 : Int) (x10_1 : Int), v9 = .int .i64 x9_1 ∧ v10 = .int .i64 x10_1 ∧ Aside0 (api_Extent_int.l0 kq l0 a1 (l0.length : Int) x9_1 x10_1 = some (r1, r2)) ∧ Aside0 (kq ≤ k) ∧ Aside0 (Below w.heap.size w w'))
 case atStart => exact ⟨(0), ((l0.length : Int)), (by first | rfl | (simp; done) | (simp [*]; done)), (by first | rfl | (simp; done) | (simp [*]; done)), H', ⟨Nat.le_refl _⟩, ⟨bU HB.1⟩⟩
 case round =>
  clear H'
  try clear p2
  obtain ⟨x9_1, x10_1, rfl, rfl, HA, HK1, HB⟩ := hrel
  cases gk with
  | zero => exact absurd HA.1 (by simp [api_Extent_int.l0])
  | succ k1 =>
   have H := HA.1
   clear HA
   simp only [api_Extent_int.l0] at H
   by_cases c3 : x9_1 < x10_1
   ·
    rw [if_pos c3] at H
    have c3b0 := decide_eq_true c3
    clear c3
    obtain ⟨ji4, hji4⟩ : ∃ j_ : Int, (wrap64 ((IntKind.u64.wrap (wrap64 (x9_1 + x10_1))) / 2)) = j_ := ⟨_, rfl⟩
    replace H : (if 0 ≤ (ji4) then (if (ji4) < (l0.length : Int) then ((alloc_Map_Is_1.f ((rd_T53 l0 (ji4)).f0) ((rd_T53 l0 (ji4)).f1) ((rd_T53 l0 (ji4)).f2) a1).bind fun t369 => (if t369 < 0 then (api_Extent_int.l0 k1 l0 a1 (l0.length : Int) (wrap64 ((ji4) + 1)) x10_1) else (api_Extent_int.l0 k1 l0 a1 (l0.length : Int) x9_1 ji4))) else (none)) else (none)) = some (r1, r2) := by first | (rw [hji4] at H; exact H) | (simp only [hji4] at H ⊢; exact H)
    have hji4w : (IntKind.i64.wrap ((IntKind.u64.wrap (wrap64 (x9_1 + x10_1))) / 2)) = ji4 := (i64_w _).trans hji4
    by_cases c5 : 0 ≤ (ji4)
    ·
     rw [if_pos c5] at H
     have c5b0 := decide_eq_true c5
     clear c5
     by_cases c6 : (ji4) < (l0.length : Int)
     ·
      rw [if_pos c6] at H
      have c6b0 := decide_eq_true c6
      clear c6
      replace H := Option.bind_eq_some_iff.mp H
      obtain ⟨t369, A70, H⟩ := H
      replace H : (if t369 < 0 then (api_Extent_int.l0 k1 l0 a1 (l0.length : Int) (wrap64 ((ji4) + 1)) x10_1) else (api_Extent_int.l0 k1 l0 a1 (l0.length : Int) x9_1 ji4)) = some (r1, r2) := H
      have A7 := Aside0.mk A70
      clear A70
      by_cases c8 : t369 < 0
      ·
       rw [if_pos c8] at H
       have c8b0 := decide_eq_true c8
       clear c8
       have H' := Aside0.mk H
       clear H
       have p368 : 0 ≤ ((ji4) : Int) := dT
       have q368 : (ji4) < (l0.length : Int) := dT
       obtain ⟨ad368, e368, hx368_0, hx368_1, hx368_2⟩ := at_T53 HR0.1 (ji4) p368 q368
       cases e368
       replace hx368_0 := cB HB hx368_0
       replace hx368_1 := cB HB hx368_1
       replace hx368_2 := cB HB hx368_2
       replace p368 := eq_true p368
       replace q368 := eq_true q368
       go_wp2_with (first | ((with_reducible refine gate_tmp (t := 24) rfl ?_); refine goesT_ (some 30) rfl rfl Try.func34 (by kernel_rfl) rfl #[.agg #[.int .i64 ((rd_T53 l0 (ji4)).f0), .int .i64 ((rd_T53 l0 (ji4)).f1), .int .i64 ((rd_T53 l0 (ji4)).f2)], .int .i64 a1] rfl rfl (by (try simp only [List.map_toArray, List.map_cons, List.map_nil]); first | done | (simp only [hji4]; rfl) | rfl | (simp only [List.length_drop, List.length_take]; rfl)) ?_; (with_reducible refine (alloc_Map_Is_1.calls ((rd_T53 l0 (ji4)).f0) ((rd_T53 l0 (ji4)).f1) ((rd_T53 l0 (ji4)).f2) a1 t369 _ A7.1).mono ?_); rintro e w9 ⟨rfl, hb⟩; refine ⟨_, rfl, ?_⟩; replace HB := sU HB hb; (try clear hb)))
       go_roundg k1
       case measure => have := HK1.1; omega
       case rel => exact ⟨(wrap64 ((ji4) + 1)), (x10_1), (by first | rfl | (simp; done) | (simp only [← hji4] <;> (first | rfl | simp)) | (simp [*]; done)), (by first | rfl | (simp; done) | (simp [*]; done)), H', ⟨by have := HK1.1; omega⟩, ⟨bU HB.1⟩⟩
      ·
       rw [if_neg c8] at H
       have c8b0 := decide_eq_false c8
       clear c8
       have H' := Aside0.mk H
       clear H
       have p368 : 0 ≤ ((ji4) : Int) := dT
       have q368 : (ji4) < (l0.length : Int) := dT
       obtain ⟨ad368, e368, hx368_0, hx368_1, hx368_2⟩ := at_T53 HR0.1 (ji4) p368 q368
       cases e368
       replace hx368_0 := cB HB hx368_0
       replace hx368_1 := cB HB hx368_1
       replace hx368_2 := cB HB hx368_2
       replace p368 := eq_true p368
       replace q368 := eq_true q368
       go_wp2_with (first | ((with_reducible refine gate_tmp (t := 24) rfl ?_); refine goesT_ (some 30) rfl rfl Try.func34 (by kernel_rfl) rfl #[.agg #[.int .i64 ((rd_T53 l0 (ji4)).f0), .int .i64 ((rd_T53 l0 (ji4)).f1), .int .i64 ((rd_T53 l0 (ji4)).f2)], .int .i64 a1] rfl rfl (by (try simp only [List.map_toArray, List.map_cons, List.map_nil]); first | done | (simp only [hji4]; rfl) | rfl | (simp only [List.length_drop, List.length_take]; rfl)) ?_; (with_reducible refine (alloc_Map_Is_1.calls ((rd_T53 l0 (ji4)).f0) ((rd_T53 l0 (ji4)).f1) ((rd_T53 l0 (ji4)).f2) a1 t369 _ A7.1).mono ?_); rintro e w10 ⟨rfl, hb⟩; refine ⟨_, rfl, ?_⟩; replace HB := sU HB hb; (try clear hb)))
       go_roundg k1
       case measure => have := HK1.1; omega
       case rel => exact ⟨(x9_1), (ji4), (by first | rfl | (simp; done) | (simp [*]; done)), (by first | rfl | (simp; done) | (simp only [← hji4] <;> (first | rfl | simp)) | (simp [*]; done)), H', ⟨by have := HK1.1; omega⟩, ⟨bU HB.1⟩⟩
     ·
      rw [if_neg c6] at H
      exact absurd H (by simp)
    ·
     rw [if_neg c5] at H
     exact absurd H (by simp)
   ·
    rw [if_neg c3] at H
    have c3b0 := decide_eq_false c3
    clear c3
    by_cases c11 : x9_1 < (l0.length : Int)
    ·
     rw [if_pos c11] at H
     have c11b0 := decide_eq_true c11
     clear c11
     by_cases c12 : 0 ≤ x9_1
     ·
      rw [if_pos c12] at H
      have c12b0 := decide_eq_true c12
      clear c12
      by_cases c13 : x9_1 < (l0.length : Int)
      ·
       rw [if_pos c13] at H
       have c13b0 := decide_eq_true c13
       clear c13
       replace H := Option.bind_eq_some_iff.mp H
       obtain ⟨t371, A140, H⟩ := H
       replace H : (some (x9_1, (t371 == 0))) = some (r1, r2) := H
       have A14 := Aside0.mk A140
       clear A140
       simp only [Option.some.injEq, Prod.mk.injEq] at H
       obtain ⟨rfl, rfl⟩ := H
       have p370 : 0 ≤ (x9_1 : Int) := dT
       have q370 : x9_1 < (l0.length : Int) := dT
       obtain ⟨ad370, e370, hx370_0, hx370_1, hx370_2⟩ := at_T53 HR0.1 x9_1 p370 q370
       cases e370
       replace hx370_0 := cB HB hx370_0
       replace hx370_1 := cB HB hx370_1
       replace hx370_2 := cB HB hx370_2
       replace p370 := eq_true p370
       replace q370 := eq_true q370
       go_wp2_with (first | (go_at_call 34; (with_reducible refine (alloc_Map_Is_1.calls ((rd_T53 l0 x9_1).f0) ((rd_T53 l0 x9_1).f1) ((rd_T53 l0 x9_1).f2) a1 t371 _ A14.1).mono ?_); rintro e w15 ⟨rfl, hb⟩; replace HB := sU HB hb; (try clear hb)))
       go_ret2
       exact ⟨fT, bU HB.1⟩
      ·
       rw [if_neg c13] at H
       exact absurd H (by simp)
     ·
      rw [if_neg c12] at H
      exact absurd H (by simp)
    ·
     rw [if_neg c11] at H
     have c11b0 := decide_eq_false c11
     clear c11
     simp only [Option.some.injEq, Prod.mk.injEq] at H
     obtain ⟨rfl, rfl⟩ := H
     go_wp2
     go_ret2
     exact ⟨fT, bU HB.1⟩

/-! ### alloc_Map_Is: function 19 -/
def alloc_Map_Is.f (k : Nat) (a0_0 : Int) (l0_1 : List (S53)) (a1 : Int) : Option (Bool) := (api_Extent_int.f k l0_1 a1).bind fun bt373 => (if bt373.2 = true then (some true) else (if bt373.1 > 0 then (if 0 ≤ (wrap64 (bt373.1 - 1)) then (if (wrap64 (bt373.1 - 1)) < (l0_1.length : Int) then ((alloc_end.f ((rd_T53 l0_1 (wrap64 (bt373.1 - 1))).f0) ((rd_T53 l0_1 (wrap64 (bt373.1 - 1))).f1) ((rd_T53 l0_1 (wrap64 (bt373.1 - 1))).f2)).bind fun t376 => (some (decide (a1 < t376)))) else (none)) else (none)) else (some false)))
theorem alloc_Map_Is.mono : ∀ a0 a1 a2 k, LeO (alloc_Map_Is.f k a0 a1 a2) (alloc_Map_Is.f (k + 1) a0 a1 a2) := by
 intro a0 a1 a2 k
 unfold alloc_Map_Is.f
 repeat' first
   | (with_reducible exact api_Extent_int.mono _ _ _)
   | (with_reducible exact LeO.refl _)
   | (with_reducible exact LeO.none _)
   | (with_reducible refine LeO.ite ?_ ?_)
   | (with_reducible refine LeO.bind ?_ (fun _ => ?_))
   | exact api_Extent_int.mono _ _ _
   | exact LeO.none _
   | refine LeO.ite ?_ ?_
   | refine LeO.bind ?_ (fun _ => ?_)
set_option maxHeartbeats 8000000 in
set_option maxRecDepth 100000 in
theorem alloc_Map_Is.calls (k : Nat) (a0_0 : Int) (A0_1 : Option Addr) (c0_1 : Nat) (l0_1 : List (S53)) (a1 : Int) (r : Bool) (w : World) (hr0_1 : Kd.C k53 w A0_1 l0_1.length l0_1) (hc0_1 : l0_1.length ≤ c0_1) (h : alloc_Map_Is.f k a0_0 l0_1 a1 = some r) :
  Calls Try.prog 19 #[.agg #[.int .i64 a0_0, .slice A0_1 l0_1.length c0_1], .int .i64 a1] w fun e w' => e = .returned (.bool r) ∧ Below w.heap.size w w' := by
 have hu26 := Try.underlying26
 have hu53 := Try.underlying53
 have HR0_1 := Aside0.mk hr0_1
 have HC0_1 := Aside0.mk hc0_1
 clear hr0_1 hc0_1
 have HB := Aa (Below.refl w.heap.size w)
 have H : ((api_Extent_int.f k l0_1 a1).bind fun bt373 => (if bt373.2 = true then (some true) else (if bt373.1 > 0 then (if 0 ≤ (wrap64 (bt373.1 - 1)) then (if (wrap64 (bt373.1 - 1)) < (l0_1.length : Int) then ((alloc_end.f ((rd_T53 l0_1 (wrap64 (bt373.1 - 1))).f0) ((rd_T53 l0_1 (wrap64 (bt373.1 - 1))).f1) ((rd_T53 l0_1 (wrap64 (bt373.1 - 1))).f2)).bind fun t376 => (some (decide (a1 < t376)))) else (none)) else (none)) else (some false)))) = some r := h
 clear h
 replace H := Option.bind_eq_some_iff.mp H
 obtain ⟨⟨t373, t374⟩, A30, H⟩ := H
 replace H : (if t374 = true then (some true) else (if t373 > 0 then (if 0 ≤ (wrap64 (t373 - 1)) then (if (wrap64 (t373 - 1)) < (l0_1.length : Int) then ((alloc_end.f ((rd_T53 l0_1 (wrap64 (t373 - 1))).f0) ((rd_T53 l0_1 (wrap64 (t373 - 1))).f1) ((rd_T53 l0_1 (wrap64 (t373 - 1))).f2)).bind fun t376 => (some (decide (a1 < t376)))) else (none)) else (none)) else (some false))) = some r := H
 have A3 := Aside0.mk A30
 clear A30
 by_cases c4 : t374 = true
 ·
  subst c4
  have H1 : (some true) = some r := by rw [if_pos rfl] at H; exact H
  clear H
  have H := H1
  clear H1
  obtain rfl := Option.some.inj H
  go_enter Try.func19, Try.ntmps19
  go_wp2_with (first | ((with_reducible refine gD 2 ?_); refine bE #[.int .i64 a0_0, .slice A0_1 l0_1.length c0_1] 26 ?_; intro gb372 hg w5 hbox hb; have BK372 := Aa (hbox); have GW372 := gU HB hg; have GE372 := gU HB hg; have iE372 := Nonempty.intro GE372.1; replace HB := sU HB hb; clear hb hbox hg; have hcz6_0 : w5.cell? ⟨gb372, 0, none⟩ = some (.int .i64 a0_0) := cC BK372 0; have hcz6_1 : w5.cell? ⟨gb372, 1, none⟩ = some (.slice A0_1 l0_1.length c0_1) := cC BK372 1; have hfz6_0 := fC BK372 0; have hfz6_1 := fC BK372 1) | ((with_reducible refine gC 33 ?_); refine gL 11 Try.func33 #[.slice A0_1 l0_1.length c0_1, .int .i64 a1, .func (.func 34) #[] #[]] ?_; (with_reducible refine (api_Extent_int.calls k _ _ l0_1 a1 t373 true _ ?side1 ?side2 A3.1).mono ?_); (case side1 => exact cU (Kd.C_below HR0_1.1 HB.1)); (case side2 => exact HC0_1.1); rintro e w7 ⟨rfl, hb⟩; refine ⟨_, rfl, ?_⟩; replace BK372 := kB BK372 hb; replace HB := sB HB hb; (try clear hb)))
  go_ret
  exact ⟨fT, bS HB.1⟩
 ·
  replace c4 := Bool.eq_false_iff.mpr c4
  subst c4
  have H1 : (if t373 > 0 then (if 0 ≤ (wrap64 (t373 - 1)) then (if (wrap64 (t373 - 1)) < (l0_1.length : Int) then ((alloc_end.f ((rd_T53 l0_1 (wrap64 (t373 - 1))).f0) ((rd_T53 l0_1 (wrap64 (t373 - 1))).f1) ((rd_T53 l0_1 (wrap64 (t373 - 1))).f2)).bind fun t376 => (some (decide (a1 < t376)))) else (none)) else (none)) else (some false)) = some r := by rw [if_neg (show ¬ (false = true) by decide)] at H; exact H
  clear H
  have H := H1
  clear H1
  by_cases c8 : t373 > 0
  ·
   rw [if_pos c8] at H
   have c8b0 := decide_eq_true c8
   clear c8
   obtain ⟨ji9, hji9⟩ : ∃ j_ : Int, (wrap64 (t373 - 1)) = j_ := ⟨_, rfl⟩
   replace H : (if 0 ≤ (ji9) then (if (ji9) < (l0_1.length : Int) then ((alloc_end.f ((rd_T53 l0_1 (ji9)).f0) ((rd_T53 l0_1 (ji9)).f1) ((rd_T53 l0_1 (ji9)).f2)).bind fun t376 => (some (decide (a1 < t376)))) else (none)) else (none)) = some r := by first | (rw [hji9] at H; exact H) | (simp only [hji9] at H ⊢; exact H)
   (try rw [hji9] at A3)
   have hji9w : (IntKind.i64.wrap (t373 - 1)) = ji9 := (i64_w _).trans hji9
   by_cases c10 : 0 ≤ (ji9)
   ·
    rw [if_pos c10] at H
    have c10b0 := decide_eq_true c10
    clear c10
    by_cases c11 : (ji9) < (l0_1.length : Int)
    ·
     rw [if_pos c11] at H
     have c11b0 := decide_eq_true c11
     clear c11
     replace H := Option.bind_eq_some_iff.mp H
     obtain ⟨t376, A120, H⟩ := H
     replace H : (some (decide (a1 < t376))) = some r := H
     have A12 := Aside0.mk A120
     clear A120
     obtain rfl := Option.some.inj H
     go_enter Try.func19, Try.ntmps19
     go_wp2_with (first | ((with_reducible refine gD 2 ?_); refine bE #[.int .i64 a0_0, .slice A0_1 l0_1.length c0_1] 26 ?_; intro gb372 hg w13 hbox hb; have BK372 := Aa (hbox); have GW372 := gU HB hg; have GE372 := gU HB hg; have iE372 := Nonempty.intro GE372.1; replace HB := sU HB hb; clear hb hbox hg; have hcz14_0 : w13.cell? ⟨gb372, 0, none⟩ = some (.int .i64 a0_0) := cC BK372 0; have hcz14_1 : w13.cell? ⟨gb372, 1, none⟩ = some (.slice A0_1 l0_1.length c0_1) := cC BK372 1; have hfz14_0 := fC BK372 0; have hfz14_1 := fC BK372 1) | ((with_reducible refine gC 33 ?_); refine gL 11 Try.func33 #[.slice A0_1 l0_1.length c0_1, .int .i64 a1, .func (.func 34) #[] #[]] ?_; (with_reducible refine (api_Extent_int.calls k _ _ l0_1 a1 t373 false _ ?side1 ?side2 A3.1).mono ?_); (case side1 => exact cU (Kd.C_below HR0_1.1 HB.1)); (case side2 => exact HC0_1.1); rintro e w15 ⟨rfl, hb⟩; refine ⟨_, rfl, ?_⟩; replace BK372 := kB BK372 hb; replace HB := sB HB hb; (try clear hb); have hcz16_0 : w15.cell? ⟨gb372, 0, none⟩ = some (.int .i64 a0_0) := cC BK372 0; have hcz16_1 : w15.cell? ⟨gb372, 1, none⟩ = some (.slice A0_1 l0_1.length c0_1) := cC BK372 1; have hfz16_0 := fC BK372 0; have hfz16_1 := fC BK372 1; have p375 : 0 ≤ ((ji9) : Int) := dT; have q375 : (ji9) < (l0_1.length : Int) := dT; obtain ⟨ad375, e375, hx375_0, hx375_1, hx375_2⟩ := at_T53 HR0_1.1 (ji9) p375 q375; cases e375; replace hx375_0 := cB HB hx375_0; replace hx375_1 := cB HB hx375_1; replace hx375_2 := cB HB hx375_2; replace p375 := eq_true p375; replace q375 := eq_true q375) | (go_at_call 36; (with_reducible refine (alloc_end.calls ((rd_T53 l0_1 (ji9)).f0) ((rd_T53 l0_1 (ji9)).f1) ((rd_T53 l0_1 (ji9)).f2) t376 _ A12.1).mono ?_); rintro e w17 ⟨rfl, hb⟩; replace BK372 := kB BK372 hb; replace HB := sB HB hb; (try clear hb)))
     go_ret
     exact ⟨by first | rfl | (simp [errW_none, errW_some] <;> rfl) | (simp only [← hji9]; first | rfl | (simp [errW_none, errW_some] <;> rfl)) | (simp [*, errW_none, errW_some] <;> rfl), bS HB.1⟩
    ·
     rw [if_neg c11] at H
     exact absurd H (by simp)
   ·
    rw [if_neg c10] at H
    exact absurd H (by simp)
  ·
   rw [if_neg c8] at H
   have c8b0 := decide_eq_false c8
   clear c8
   obtain rfl := Option.some.inj H
   go_enter Try.func19, Try.ntmps19
   go_wp2_with (first | ((with_reducible refine gD 2 ?_); refine bE #[.int .i64 a0_0, .slice A0_1 l0_1.length c0_1] 26 ?_; intro gb372 hg w18 hbox hb; have BK372 := Aa (hbox); have GW372 := gU HB hg; have GE372 := gU HB hg; have iE372 := Nonempty.intro GE372.1; replace HB := sU HB hb; clear hb hbox hg; have hcz19_0 : w18.cell? ⟨gb372, 0, none⟩ = some (.int .i64 a0_0) := cC BK372 0; have hcz19_1 : w18.cell? ⟨gb372, 1, none⟩ = some (.slice A0_1 l0_1.length c0_1) := cC BK372 1; have hfz19_0 := fC BK372 0; have hfz19_1 := fC BK372 1) | ((with_reducible refine gC 33 ?_); refine gL 11 Try.func33 #[.slice A0_1 l0_1.length c0_1, .int .i64 a1, .func (.func 34) #[] #[]] ?_; (with_reducible refine (api_Extent_int.calls k _ _ l0_1 a1 t373 false _ ?side1 ?side2 A3.1).mono ?_); (case side1 => exact cU (Kd.C_below HR0_1.1 HB.1)); (case side2 => exact HC0_1.1); rintro e w20 ⟨rfl, hb⟩; refine ⟨_, rfl, ?_⟩; replace BK372 := kB BK372 hb; replace HB := sB HB hb; (try clear hb)))
   go_ret
   exact ⟨fT, bS HB.1⟩

/-! ### tegularef35_Map_Free: function 23 -/
def tegularef35_Map_Free.l0 : Nat → List Bool → Int → Int → Option (Int)
 | 0, _, _, _ => none
 | k + 1, x0, x3, x4 => if x4 < (x0.length : Int) then (if 0 ≤ x4 then (if rdOf false x0 x4 = true then (tegularef35_Map_Free.l0 k x0 x3 (wrap64 (x4 + 1))) else (tegularef35_Map_Free.l0 k x0 (wrap64 (x3 + 1)) (wrap64 (x4 + 1)))) else (none)) else (some x3)
def tegularef35_Map_Free.f (k : Nat) (l0 : List Bool) : Option (Int) := tegularef35_Map_Free.l0 k l0 0 0
theorem tegularef35_Map_Free.mono_l : ∀ k, (∀ y0 y1 y2, LeO (tegularef35_Map_Free.l0 k y0 y1 y2) (tegularef35_Map_Free.l0 (k + 1) y0 y1 y2))
 | 0 => fun _ _ _ r h => by simp [tegularef35_Map_Free.l0] at h
 | k + 1 => by
  have ih0 := tegularef35_Map_Free.mono_l k
  ·
   intro y0 y1 y2
   unfold tegularef35_Map_Free.l0
   repeat' first
   | (with_reducible exact ih0 _ _ _)
   | (with_reducible exact LeO.refl _)
   | (with_reducible exact LeO.none _)
   | (with_reducible refine LeO.ite ?_ ?_)
   | (with_reducible refine LeO.bind ?_ (fun _ => ?_))
   | exact ih0 _ _ _
   | exact LeO.none _
   | refine LeO.ite ?_ ?_
   | refine LeO.bind ?_ (fun _ => ?_)
theorem tegularef35_Map_Free.mono : ∀ a0 k, LeO (tegularef35_Map_Free.f k a0) (tegularef35_Map_Free.f (k + 1) a0) := by
 intro a0 k
 have ih0 := tegularef35_Map_Free.mono_l k
 unfold tegularef35_Map_Free.f
 repeat' first
   | (with_reducible exact ih0 _ _ _)
   | (with_reducible exact LeO.refl _)
   | (with_reducible exact LeO.none _)
   | (with_reducible refine LeO.ite ?_ ?_)
   | (with_reducible refine LeO.bind ?_ (fun _ => ?_))
   | exact ih0 _ _ _
   | exact LeO.none _
   | refine LeO.ite ?_ ?_
   | refine LeO.bind ?_ (fun _ => ?_)
set_option maxHeartbeats 8000000 in
set_option maxRecDepth 100000 in
theorem tegularef35_Map_Free.calls (k : Nat) (A0 : Option Addr) (c0 : Nat) (l0 : List Bool) (r : Int) (w : World) (hr0 : Kd.C Kd.bool w A0 l0.length l0) (hc0 : l0.length ≤ c0) (h : tegularef35_Map_Free.f k l0 = some r) :
  Calls Try.prog 23 #[.slice A0 l0.length c0] w fun e w' => e = .returned (.int .i64 r) ∧ Drawn0 w w' := by
 have HR0 := Aside0.mk hr0
 have HC0 := Aside0.mk hc0
 clear hr0 hc0
 have H : (tegularef35_Map_Free.l0 k l0 0 0) = some r := h
 clear h
 have H' := Aside0.mk H
 clear H
 go_enter Try.func23, Try.ntmps23
 go_wp2
 go_loopg [3, 4] k (fun kq v3 v4 w' => ∃ (x3_1 : Int) (x4_1 : Int), v3 = .int .i64 x3_1 ∧ v4 = .int .i64 x4_1 ∧ Aside0 (tegularef35_Map_Free.l0 kq l0 x3_1 x4_1 = some r) ∧ Aside0 (kq ≤ k) ∧ Drawn0 w w')
 case atStart => exact ⟨(0), (0), (by first | rfl | (simp; done) | (simp [*]; done)), (by first | rfl | (simp; done) | (simp [*]; done)), H', ⟨Nat.le_refl _⟩, by repeat (first | exact Drawn0.refl _ | apply Drawn0.step)⟩
 case round =>
  clear H'
  obtain ⟨x3_1, x4_1, rfl, rfl, HA, HK1, ⟨m1, rfl⟩⟩ := hrel
  cases gk with
  | zero => exact absurd HA.1 (by simp [tegularef35_Map_Free.l0])
  | succ k1 =>
   have H := HA.1
   clear HA
   simp only [tegularef35_Map_Free.l0] at H
   by_cases c2 : x4_1 < (l0.length : Int)
   ·
    rw [if_pos c2] at H
    have c2b0 := decide_eq_true c2
    clear c2
    by_cases c3 : 0 ≤ x4_1
    ·
     rw [if_pos c3] at H
     have c3b0 := decide_eq_true c3
     clear c3
     obtain ⟨bq4, hbq4⟩ : ∃ b_ : Bool, b_ = (rdOf false l0 x4_1) := ⟨_, rfl⟩
     replace H : (if bq4 = true then (tegularef35_Map_Free.l0 k1 l0 x3_1 (wrap64 (x4_1 + 1))) else (tegularef35_Map_Free.l0 k1 l0 (wrap64 (x3_1 + 1)) (wrap64 (x4_1 + 1)))) = some r := by rw [← hbq4] at H; exact H
     have Nbq4 := Aside0.mk hbq4
     clear hbq4
     by_cases c5 : bq4 = true
     ·
      subst c5
      have H1 : (tegularef35_Map_Free.l0 k1 l0 x3_1 (wrap64 (x4_1 + 1))) = some r := by rw [if_pos rfl] at H; exact H
      clear H
      have H := H1
      clear H1
      have H' := Aside0.mk H
      clear H
      have p377 : 0 ≤ (x4_1 : Int) := dT
      have q377 : x4_1 < (l0.length : Int) := dT
      obtain ⟨ad377, e377, hx377_0⟩ := Kd.at_bool HR0.1 x4_1 p377 q377
      (try rw [← Nbq4.1] at hx377_0)
      cases e377
      replace p377 := eq_true p377
      replace q377 := eq_true q377
      go_wp2
      go_roundg k1
      case measure => have := HK1.1; omega
      case rel => exact ⟨(x3_1), (wrap64 (x4_1 + 1)), (by first | rfl | (simp; done) | (simp [*]; done)), (by first | rfl | (simp; done) | (simp [*]; done)), H', ⟨by have := HK1.1; omega⟩, by repeat (first | exact Drawn0.refl _ | apply Drawn0.step)⟩
     ·
      replace c5 := Bool.eq_false_iff.mpr c5
      subst c5
      have H1 : (tegularef35_Map_Free.l0 k1 l0 (wrap64 (x3_1 + 1)) (wrap64 (x4_1 + 1))) = some r := by rw [if_neg (show ¬ (false = true) by decide)] at H; exact H
      clear H
      have H := H1
      clear H1
      have H' := Aside0.mk H
      clear H
      have p377 : 0 ≤ (x4_1 : Int) := dT
      have q377 : x4_1 < (l0.length : Int) := dT
      obtain ⟨ad377, e377, hx377_0⟩ := Kd.at_bool HR0.1 x4_1 p377 q377
      (try rw [← Nbq4.1] at hx377_0)
      cases e377
      replace p377 := eq_true p377
      replace q377 := eq_true q377
      go_wp2
      go_roundg k1
      case measure => have := HK1.1; omega
      case rel => exact ⟨(wrap64 (x3_1 + 1)), (wrap64 (x4_1 + 1)), (by first | rfl | (simp; done) | (simp [*]; done)), (by first | rfl | (simp; done) | (simp [*]; done)), H', ⟨by have := HK1.1; omega⟩, by repeat (first | exact Drawn0.refl _ | apply Drawn0.step)⟩
    ·
     rw [if_neg c3] at H
     exact absurd H (by simp)
   ·
    rw [if_neg c2] at H
    have c2b0 := decide_eq_false c2
    clear c2
    obtain rfl := Option.some.inj H
    go_wp2
    go_ret
    exact ⟨by first | rfl | (simp; done) | (simp [*]; done), by repeat (first | exact Drawn0.refl _ | apply Drawn0.step)⟩

/-! ### tegularef32_One: function 68 -/
def tegularef32_One.f (a0_0 : Int) (a0_1 : Int) (a0_2 : Int) : Option (Bool) := if a0_0 ≥ 0 then (if a0_2 ≥ 0 then (if a0_1 ≥ 1 then (if a0_0 ≤ 65536 then (if a0_2 ≤ 65536 then (if a0_1 ≤ 65536 then (if (wrap64 (a0_0 + a0_1)) ≤ 65536 then (some (decide ((wrap64 (a0_2 + a0_1)) ≤ 65536))) else (some false)) else (some false)) else (some false)) else (some false)) else (some false)) else (some false)) else (some false)
set_option maxHeartbeats 8000000 in
set_option maxRecDepth 100000 in
theorem tegularef32_One.calls (a0_0 : Int) (a0_1 : Int) (a0_2 : Int) (r : Bool) (w : World) (h : tegularef32_One.f a0_0 a0_1 a0_2 = some r) :
  Calls Try.prog 68 #[.agg #[.int .i64 a0_0, .int .i64 a0_1, .int .i64 a0_2]] w fun e w' => e = .returned (.bool r) ∧ Below w.heap.size w w' := by
 have hu53 := Try.underlying53
 have HB := Aa (Below.refl w.heap.size w)
 have H : (if a0_0 ≥ 0 then (if a0_2 ≥ 0 then (if a0_1 ≥ 1 then (if a0_0 ≤ 65536 then (if a0_2 ≤ 65536 then (if a0_1 ≤ 65536 then (if (wrap64 (a0_0 + a0_1)) ≤ 65536 then (some (decide ((wrap64 (a0_2 + a0_1)) ≤ 65536))) else (some false)) else (some false)) else (some false)) else (some false)) else (some false)) else (some false)) else (some false)) = some r := h
 clear h
 by_cases c2 : a0_0 ≥ 0
 ·
  rw [if_pos c2] at H
  have c2b0 := decide_eq_true c2
  clear c2
  by_cases c3 : a0_2 ≥ 0
  ·
   rw [if_pos c3] at H
   have c3b0 := decide_eq_true c3
   clear c3
   by_cases c4 : a0_1 ≥ 1
   ·
    rw [if_pos c4] at H
    have c4b0 := decide_eq_true c4
    clear c4
    by_cases c5 : a0_0 ≤ 65536
    ·
     rw [if_pos c5] at H
     have c5b0 := decide_eq_true c5
     clear c5
     by_cases c6 : a0_2 ≤ 65536
     ·
      rw [if_pos c6] at H
      have c6b0 := decide_eq_true c6
      clear c6
      by_cases c7 : a0_1 ≤ 65536
      ·
       rw [if_pos c7] at H
       have c7b0 := decide_eq_true c7
       clear c7
       by_cases c8 : (wrap64 (a0_0 + a0_1)) ≤ 65536
       ·
        rw [if_pos c8] at H
        have c8b0 := decide_eq_true c8
        clear c8
        obtain rfl := Option.some.inj H
        go_enter Try.func68, Try.ntmps68
        go_wp2_with (first | ((with_reducible refine gD 1 ?_); refine bE #[.int .i64 a0_0, .int .i64 a0_1, .int .i64 a0_2] 53 ?_; intro gb378 hg w9 hbox hb; have BK378 := Aa (hbox); have GW378 := gU HB hg; have GE378 := gU HB hg; have iE378 := Nonempty.intro GE378.1; replace HB := sU HB hb; clear hb hbox hg; have hcz10_0 : w9.cell? ⟨gb378, 0, none⟩ = some (.int .i64 a0_0) := cC BK378 0; have hcz10_1 : w9.cell? ⟨gb378, 1, none⟩ = some (.int .i64 a0_1) := cC BK378 1; have hcz10_2 : w9.cell? ⟨gb378, 2, none⟩ = some (.int .i64 a0_2) := cC BK378 2; have hfz10_0 := fC BK378 0; have hfz10_1 := fC BK378 1; have hfz10_2 := fC BK378 2))
        go_ret
        exact ⟨fT, bS HB.1⟩
       ·
        rw [if_neg c8] at H
        have c8b0 := decide_eq_false c8
        clear c8
        obtain rfl := Option.some.inj H
        go_enter Try.func68, Try.ntmps68
        go_wp2_with (first | ((with_reducible refine gD 1 ?_); refine bE #[.int .i64 a0_0, .int .i64 a0_1, .int .i64 a0_2] 53 ?_; intro gb378 hg w11 hbox hb; have BK378 := Aa (hbox); have GW378 := gU HB hg; have GE378 := gU HB hg; have iE378 := Nonempty.intro GE378.1; replace HB := sU HB hb; clear hb hbox hg; have hcz12_0 : w11.cell? ⟨gb378, 0, none⟩ = some (.int .i64 a0_0) := cC BK378 0; have hcz12_1 : w11.cell? ⟨gb378, 1, none⟩ = some (.int .i64 a0_1) := cC BK378 1; have hcz12_2 : w11.cell? ⟨gb378, 2, none⟩ = some (.int .i64 a0_2) := cC BK378 2; have hfz12_0 := fC BK378 0; have hfz12_1 := fC BK378 1; have hfz12_2 := fC BK378 2))
        go_ret
        exact ⟨fT, bS HB.1⟩
      ·
       rw [if_neg c7] at H
       have c7b0 := decide_eq_false c7
       clear c7
       obtain rfl := Option.some.inj H
       go_enter Try.func68, Try.ntmps68
       go_wp2_with (first | ((with_reducible refine gD 1 ?_); refine bE #[.int .i64 a0_0, .int .i64 a0_1, .int .i64 a0_2] 53 ?_; intro gb378 hg w13 hbox hb; have BK378 := Aa (hbox); have GW378 := gU HB hg; have GE378 := gU HB hg; have iE378 := Nonempty.intro GE378.1; replace HB := sU HB hb; clear hb hbox hg; have hcz14_0 : w13.cell? ⟨gb378, 0, none⟩ = some (.int .i64 a0_0) := cC BK378 0; have hcz14_1 : w13.cell? ⟨gb378, 1, none⟩ = some (.int .i64 a0_1) := cC BK378 1; have hcz14_2 : w13.cell? ⟨gb378, 2, none⟩ = some (.int .i64 a0_2) := cC BK378 2; have hfz14_0 := fC BK378 0; have hfz14_1 := fC BK378 1; have hfz14_2 := fC BK378 2))
       go_ret
       exact ⟨fT, bS HB.1⟩
     ·
      rw [if_neg c6] at H
      have c6b0 := decide_eq_false c6
      clear c6
      obtain rfl := Option.some.inj H
      go_enter Try.func68, Try.ntmps68
      go_wp2_with (first | ((with_reducible refine gD 1 ?_); refine bE #[.int .i64 a0_0, .int .i64 a0_1, .int .i64 a0_2] 53 ?_; intro gb378 hg w15 hbox hb; have BK378 := Aa (hbox); have GW378 := gU HB hg; have GE378 := gU HB hg; have iE378 := Nonempty.intro GE378.1; replace HB := sU HB hb; clear hb hbox hg; have hcz16_0 : w15.cell? ⟨gb378, 0, none⟩ = some (.int .i64 a0_0) := cC BK378 0; have hcz16_1 : w15.cell? ⟨gb378, 1, none⟩ = some (.int .i64 a0_1) := cC BK378 1; have hcz16_2 : w15.cell? ⟨gb378, 2, none⟩ = some (.int .i64 a0_2) := cC BK378 2; have hfz16_0 := fC BK378 0; have hfz16_1 := fC BK378 1; have hfz16_2 := fC BK378 2))
      go_ret
      exact ⟨fT, bS HB.1⟩
    ·
     rw [if_neg c5] at H
     have c5b0 := decide_eq_false c5
     clear c5
     obtain rfl := Option.some.inj H
     go_enter Try.func68, Try.ntmps68
     go_wp2_with (first | ((with_reducible refine gD 1 ?_); refine bE #[.int .i64 a0_0, .int .i64 a0_1, .int .i64 a0_2] 53 ?_; intro gb378 hg w17 hbox hb; have BK378 := Aa (hbox); have GW378 := gU HB hg; have GE378 := gU HB hg; have iE378 := Nonempty.intro GE378.1; replace HB := sU HB hb; clear hb hbox hg; have hcz18_0 : w17.cell? ⟨gb378, 0, none⟩ = some (.int .i64 a0_0) := cC BK378 0; have hcz18_1 : w17.cell? ⟨gb378, 1, none⟩ = some (.int .i64 a0_1) := cC BK378 1; have hcz18_2 : w17.cell? ⟨gb378, 2, none⟩ = some (.int .i64 a0_2) := cC BK378 2; have hfz18_0 := fC BK378 0; have hfz18_1 := fC BK378 1; have hfz18_2 := fC BK378 2))
     go_ret
     exact ⟨fT, bS HB.1⟩
   ·
    rw [if_neg c4] at H
    have c4b0 := decide_eq_false c4
    clear c4
    obtain rfl := Option.some.inj H
    go_enter Try.func68, Try.ntmps68
    go_wp2_with (first | ((with_reducible refine gD 1 ?_); refine bE #[.int .i64 a0_0, .int .i64 a0_1, .int .i64 a0_2] 53 ?_; intro gb378 hg w19 hbox hb; have BK378 := Aa (hbox); have GW378 := gU HB hg; have GE378 := gU HB hg; have iE378 := Nonempty.intro GE378.1; replace HB := sU HB hb; clear hb hbox hg; have hcz20_0 : w19.cell? ⟨gb378, 0, none⟩ = some (.int .i64 a0_0) := cC BK378 0; have hcz20_1 : w19.cell? ⟨gb378, 1, none⟩ = some (.int .i64 a0_1) := cC BK378 1; have hcz20_2 : w19.cell? ⟨gb378, 2, none⟩ = some (.int .i64 a0_2) := cC BK378 2; have hfz20_0 := fC BK378 0; have hfz20_1 := fC BK378 1; have hfz20_2 := fC BK378 2))
    go_ret
    exact ⟨fT, bS HB.1⟩
  ·
   rw [if_neg c3] at H
   have c3b0 := decide_eq_false c3
   clear c3
   obtain rfl := Option.some.inj H
   go_enter Try.func68, Try.ntmps68
   go_wp2_with (first | ((with_reducible refine gD 1 ?_); refine bE #[.int .i64 a0_0, .int .i64 a0_1, .int .i64 a0_2] 53 ?_; intro gb378 hg w21 hbox hb; have BK378 := Aa (hbox); have GW378 := gU HB hg; have GE378 := gU HB hg; have iE378 := Nonempty.intro GE378.1; replace HB := sU HB hb; clear hb hbox hg; have hcz22_0 : w21.cell? ⟨gb378, 0, none⟩ = some (.int .i64 a0_0) := cC BK378 0; have hcz22_1 : w21.cell? ⟨gb378, 1, none⟩ = some (.int .i64 a0_1) := cC BK378 1; have hcz22_2 : w21.cell? ⟨gb378, 2, none⟩ = some (.int .i64 a0_2) := cC BK378 2; have hfz22_0 := fC BK378 0; have hfz22_1 := fC BK378 1; have hfz22_2 := fC BK378 2))
   go_ret
   exact ⟨fT, bS HB.1⟩
 ·
  rw [if_neg c2] at H
  have c2b0 := decide_eq_false c2
  clear c2
  obtain rfl := Option.some.inj H
  go_enter Try.func68, Try.ntmps68
  go_wp2_with (first | ((with_reducible refine gD 1 ?_); refine bE #[.int .i64 a0_0, .int .i64 a0_1, .int .i64 a0_2] 53 ?_; intro gb378 hg w23 hbox hb; have BK378 := Aa (hbox); have GW378 := gU HB hg; have GE378 := gU HB hg; have iE378 := Nonempty.intro GE378.1; replace HB := sU HB hb; clear hb hbox hg; have hcz24_0 : w23.cell? ⟨gb378, 0, none⟩ = some (.int .i64 a0_0) := cC BK378 0; have hcz24_1 : w23.cell? ⟨gb378, 1, none⟩ = some (.int .i64 a0_1) := cC BK378 1; have hcz24_2 : w23.cell? ⟨gb378, 2, none⟩ = some (.int .i64 a0_2) := cC BK378 2; have hfz24_0 := fC BK378 0; have hfz24_1 := fC BK378 1; have hfz24_2 := fC BK378 2))
  go_ret
  exact ⟨fT, bS HB.1⟩

end Go.Proofs.Ytcjpikjbjehjeaa.PAllocB
