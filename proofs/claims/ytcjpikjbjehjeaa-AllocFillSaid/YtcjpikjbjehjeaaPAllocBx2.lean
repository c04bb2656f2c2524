-- Written for this claim by a program of this session (wip/), out of the translation's own print: Lean checks it
import Derived.Test.YtcjpikjbjehjeaaPAllocBx0
import Derived.WalkSpells
import Derived.Deep.LoopGhost
import Derived.Lib.SliceRun
import Derived.Test.YtcjpikjbjehjeaaWRepsOne
namespace Go.Proofs.Ytcjpikjbjehjeaa.PAllocB
open Go.RowKit Go.Proofs.YtcjpikjbjehjeaaW.PrintWords Go.Proofs.YtcjpikjbjehjeaaW.PrintLast Go.Proofs.YtcjpikjbjehjeaaW.PrintMore
attribute [local go_sem] max2_int min2_int max_two min_two max_three min_three max_four min_four   -- for this text's walks alone
set_option linter.unusedVariables false
set_option linter.unusedSimpArgs false

/-! ### alloc_New: function 11 -/
def alloc_New.j0 : Nat → Int → Bool → Option (Int × (List (S53)) × Int)
 | 0, _, _ => none
 | k + 1, x0, x4 => if x4 = true then (some (0, ([] : List (S53)), 1)) else (if x0 = 0 then (some (0, ([] : List (S53)), 0)) else (some (x0, (([(⟨0, x0, 0⟩ : S53)] : List (S53))), 0)))
def alloc_New.f (k : Nat) (a0 : Int) : Option (Int × (List (S53)) × Int) := if a0 < 0 then (alloc_New.j0 k a0 true) else (alloc_New.j0 k a0 (decide (a0 > 65536)))
theorem alloc_New.mono_l : ∀ k, (∀ y0 y1, LeO (alloc_New.j0 k y0 y1) (alloc_New.j0 (k + 1) y0 y1))
 | 0 => fun _ _ r h => by simp [alloc_New.j0] at h
 | k + 1 => by
  have ih0 := alloc_New.mono_l k
  ·
   intro y0 y1
   unfold alloc_New.j0
   repeat' first
   | (with_reducible exact ih0 _ _)
   | (with_reducible exact LeO.refl _)
   | (with_reducible exact LeO.none _)
   | (with_reducible refine LeO.ite ?_ ?_)
   | (with_reducible refine LeO.bind ?_ (fun _ => ?_))
   | exact ih0 _ _
   | exact LeO.none _
   | refine LeO.ite ?_ ?_
   | refine LeO.bind ?_ (fun _ => ?_)
theorem alloc_New.mono : ∀ a0 k, LeO (alloc_New.f k a0) (alloc_New.f (k + 1) a0) := by
 intro a0 k
 have ih0 := alloc_New.mono_l k
 unfold alloc_New.f
 repeat' first
   | (with_reducible exact ih0 _ _)
   | (with_reducible exact LeO.refl _)
   | (with_reducible exact LeO.none _)
   | (with_reducible refine LeO.ite ?_ ?_)
   | (with_reducible refine LeO.bind ?_ (fun _ => ?_))
   | exact ih0 _ _
   | exact LeO.none _
   | refine LeO.ite ?_ ?_
   | refine LeO.bind ?_ (fun _ => ?_)
set_option maxHeartbeats 8000000 in
set_option maxRecDepth 100000 in
theorem alloc_New.calls (k : Nat) (a0 : Int) (r1 : Int) (r2 : List (S53)) (r3 : Int) (w : World) (h : alloc_New.f k a0 = some (r1, r2, r3)) :
  Calls Try.prog 11 #[.int .i64 a0] w fun e w' => ∃ v1_ : Value, e = .returned (.tuple #[.agg #[.int .i64 r1, v1_], .int .i64 r3]) ∧ Kd.R k53 53 w' w.heap.size (fun _ => True) v1_ r2 ∧ Below w.heap.size w w' := by
 have hu26 := Try.underlying26
 have hu53 := Try.underlying53
 have HB := Aa (Below.refl w.heap.size w)
 have H : (if a0 < 0 then (alloc_New.j0 k a0 true) else (alloc_New.j0 k a0 (decide (a0 > 65536)))) = some (r1, r2, r3) := h
 clear h
 have HC2 := Aside0.mk H
 clear H
 go_enter Try.func11, Try.ntmps11
 go_upto_region 1 with (first | ((with_reducible refine gD 2 ?_); refine bE #[.int .i64 0, .slice none 0 0] 26 ?_; intro gb101 hg w3 hbox hb; have BK101 := Aa (hbox); have GW101 := gU HB hg; have GE101 := gU HB hg; have iE101 := Nonempty.intro GE101.1; replace HB := sU HB hb; clear hb hbox hg))
 (try simp only [Act.put, List.setIfInBounds_toArray, List.set_cons_zero, List.set_cons_succ])
 go_cut [4] (fun v4 wc => ∃ (kq : Nat) (x4_1 : Bool), v4 = .bool x4_1 ∧ Aside0 (alloc_New.j0 kq a0 x4_1 = some (r1, r2, r3)) ∧ Aside0 (kq ≤ k) ∧ Aside0 (wc.heap[gb101]? = some (.cells #[.int .i64 0, (.slice none 0 0)] 26 (0, 0))) ∧ Aside0 (Below w.heap.size w wc))
 case first =>
  have H := HC2.1
  clear HC2
  by_cases c4 : a0 < 0
  ·
   rw [if_pos c4] at H
   have c4b0 := decide_eq_true c4
   clear c4
   (first | rw [c4b0] | (simp only [i64_w, i32_w]; rw [c4b0]) | skip)
   have H' := Aside0.mk H
   clear H
   go_wp2
   go_meet
   case rel => exact ⟨_, (true), (by first | rfl | (simp; done) | (simp [*]; done)), H', ⟨by first | omega | exact Nat.le_refl _⟩, ⟨by refine kP ?_; exact BK101.1⟩, ⟨bS HB.1⟩⟩
  ·
   rw [if_neg c4] at H
   have c4b0 := decide_eq_false c4
   clear c4
   (first | rw [c4b0] | (simp only [i64_w, i32_w]; rw [c4b0]) | skip)
   have H' := Aside0.mk H
   clear H
   go_wp2
   go_meet
   case rel => exact ⟨_, (decide (a0 > 65536)), (by first | rfl | (simp; done) | (simp [*]; done)), H', ⟨by first | omega | exact Nat.le_refl _⟩, ⟨by refine kP ?_; exact BK101.1⟩, ⟨bS HB.1⟩⟩
 case rest =>
  clear HC2
  try clear c1
  try clear p2
  try clear c4
  try clear c4b0
  obtain ⟨kq, x4_1, rfl, HA, HJ1, BK101, HB⟩ := hcut
  cases kq with
  | zero => exact absurd HA.1 (by simp [alloc_New.j0])
  | succ kj1 =>
   have H := HA.1
   clear HA
   simp only [alloc_New.j0] at H
   by_cases c5 : x4_1 = true
   ·
    subst c5
    have H1 : (some (0, ([] : List (S53)), 1)) = some (r1, r2, r3) := by rw [if_pos rfl] at H; exact H
    clear H
    have H := H1
    clear H1
    simp only [Option.some.injEq, Prod.mk.injEq] at H
    obtain ⟨rfl, rfl, rfl⟩ := H
    have hcz6_0 : wc.cell? ⟨gb101, 0, none⟩ = some (.int .i64 0) := cC BK101 0
    have hcz6_1 : wc.cell? ⟨gb101, 1, none⟩ = some (.slice none 0 0) := cC BK101 1
    have hfz6_0 := fC BK101 0
    have hfz6_1 := fC BK101 1
    go_wp2
    refine bodyPost_ret (results_ct rfl _ _ gb101 26 #[.int .i64 0, .slice none 0 0] (0, 0) _ rfl (by refine kP ?_; refine blk_put (cs := #[.int .i64 0, .slice none 0 0]) ?_ 1 _ rfl; refine kP ?_; refine blk_put (cs := #[.int .i64 0, .slice none 0 0]) ?_ 0 _ rfl; refine kP ?_; exact BK101.1) Try.underlying26 rfl (by kernel_rfl)) rfl ?_
    exact ⟨_, fT, by first | exact Kd.R_nil _ _ _ _ _ | exact Kd.N_nil _ _ _ _ _ | exact Kd.V_nil _ _ _ _ _ | exact Kd.Q_nil _ _ _ _ _ | exact Kd.S_nil _ _ _ _ _, bS HB.1⟩
   ·
    replace c5 := Bool.eq_false_iff.mpr c5
    subst c5
    have H1 : (if a0 = 0 then (some (0, ([] : List (S53)), 0)) else (some (a0, (([(⟨0, a0, 0⟩ : S53)] : List (S53))), 0))) = some (r1, r2, r3) := by rw [if_neg (show ¬ (false = true) by decide)] at H; exact H
    clear H
    have H := H1
    clear H1
    by_cases c7 : a0 = 0
    ·
     rw [if_pos c7] at H
     have c7b0 : (a0 == 0) = true := beq_iff_eq.mpr c7
     have c7b1 : (a0 != 0) = false := bne_eq_false_iff_eq.mpr c7
     clear c7
     simp only [Option.some.injEq, Prod.mk.injEq] at H
     obtain ⟨rfl, rfl, rfl⟩ := H
     have hcz8_0 : wc.cell? ⟨gb101, 0, none⟩ = some (.int .i64 0) := cC BK101 0
     have hcz8_1 : wc.cell? ⟨gb101, 1, none⟩ = some (.slice none 0 0) := cC BK101 1
     have hfz8_0 := fC BK101 0
     have hfz8_1 := fC BK101 1
     go_wp2
     refine bodyPost_ret (results_ct rfl _ _ gb101 26 #[.int .i64 0, .slice none 0 0] (0, 0) _ rfl (by refine kP ?_; refine blk_put (cs := #[.int .i64 0, .slice none 0 0]) ?_ 1 _ rfl; refine kP ?_; refine blk_put (cs := #[.int .i64 0, .slice none 0 0]) ?_ 0 _ rfl; refine kP ?_; exact BK101.1) Try.underlying26 rfl (by kernel_rfl)) rfl ?_
     exact ⟨_, fT, by first | exact Kd.R_nil _ _ _ _ _ | exact Kd.N_nil _ _ _ _ _ | exact Kd.V_nil _ _ _ _ _ | exact Kd.Q_nil _ _ _ _ _ | exact Kd.S_nil _ _ _ _ _, bS HB.1⟩
    ·
     rw [if_neg c7] at H
     have c7b0 : (a0 == 0) = false := beq_eq_false_iff_ne.mpr c7
     have c7b1 : (a0 != 0) = true := bne_iff_ne.mpr c7
     obtain ⟨y102, hy102⟩ : ∃ y_ : List (S53), y_ = (([(⟨0, a0, 0⟩ : S53)] : List (S53))) := ⟨_, rfl⟩
     replace H : (some (a0, y102, 0)) = some (r1, r2, r3) := by first | (rw [hy102]; exact H) | exact H
     have Ny102 := Aside0.mk hy102
     clear hy102
     simp only [Option.some.injEq, Prod.mk.injEq] at H
     obtain ⟨rfl, rfl, rfl⟩ := H
     go_wp2_with (first | ((with_reducible refine gD 19 ?_); refine Kd.R_lit k53 _ 53 ?hg (N := 19) ?hd (xs := ([(⟨0, a0, 0⟩ : S53)] : List (S53))) (inner := [.int .i64 0, .int .i64 a0, .int .i64 0]) (ok := fun _ => True) (okp := fun _ => True) ?hr ?hp (fun _ hk => hk) trivial (Below.refl _ _) (Nat.le_refl _) (by simp) ?_; (case hd => rfl); (case hg => rfl); (case hr => first | (go_simp; done) | (go_simp; rfl)); (case hp => exact (Reps.c3 (show Kd.M k53 _ _ _ (⟨0, a0, 0⟩ : S53) [.int .i64 0, .int .i64 a0, .int .i64 0] from (k53_mkM _ _ _ (⟨0, a0, 0⟩ : S53) )) (Reps.none _ _))); intro v103 w9 ho10 hb hg_ hnew_; clear hg_ hnew_; (first | rw [← Ny102.1] at ho10 | (simp only [Int.reduceToNat] at ho10; rw [← Ny102.1] at ho10)); have HO104 := Aa (Kd.R_lower ho10 (below_size (bS HB.1))); replace BK101 := kB BK101 hb; replace HB := sB HB hb; clear hb ho10; obtain ⟨Ao11, co11, eo11⟩ := Kd.R_slice HO104.1; subst eo11; have hcz12_0 : w9.cell? ⟨gb101, 0, none⟩ = some (.int .i64 0) := cC BK101 0; have hcz12_1 : w9.cell? ⟨gb101, 1, none⟩ = some (.slice none 0 0) := cC BK101 1; have hfz12_0 := fC BK101 0; have hfz12_1 := fC BK101 1))
     refine bodyPost_ret (results_ct rfl _ _ gb101 26 #[.int .i64 a0, .slice Ao11 y102.length co11] (0, 0) _ rfl (by refine kP ?_; refine blk_put (cs := #[.int .i64 a0, .slice none 0 0]) ?_ 1 _ rfl; refine kP ?_; refine blk_put (cs := #[.int .i64 0, .slice none 0 0]) ?_ 0 _ rfl; refine kP ?_; exact BK101.1) Try.underlying26 rfl (by kernel_rfl)) rfl ?_
     exact ⟨_, fT, rU (Kd.R_mono (Kd.R_far (p := ⟨gb101, 1, none⟩) (Kd.R_far (p := ⟨gb101, 0, none⟩) (Kd.R_types HO104.1 BK101.1 (by decide)) (fun _ hk => hk.2) (.int .i64 a0)) (fun _ hk => hk.2) (.slice Ao11 y102.length co11)) (fun _ hk => trivial)), bS HB.1⟩

/-! ### alloc_size: function 31 -/
def alloc_size.l0 : Nat → Int → List (S53) → Int → Int → Option (Int)
 | 0, _, _, _, _ => none
 | k + 1, x3, x6, x7, x8 => if x8 < x7 then (if 0 ≤ x8 then (if x8 < (x6.length : Int) then (alloc_size.l0 k (wrap64 (x3 + ((rd_T53 x6 x8).f1))) x6 x7 (wrap64 (x8 + 1))) else (none)) else (none)) else (some x3)
def alloc_size.f (k : Nat) (l0 : List (S53)) : Option (Int) := alloc_size.l0 k 0 l0 (l0.length : Int) 0
theorem alloc_size.mono_l : ∀ k, (∀ y0 y1 y2 y3, LeO (alloc_size.l0 k y0 y1 y2 y3) (alloc_size.l0 (k + 1) y0 y1 y2 y3))
 | 0 => fun _ _ _ _ r h => by simp [alloc_size.l0] at h
 | k + 1 => by
  have ih0 := alloc_size.mono_l k
  ·
   intro y0 y1 y2 y3
   unfold alloc_size.l0
   repeat' first
   | (with_reducible exact ih0 _ _ _ _)
   | (with_reducible exact LeO.refl _)
   | (with_reducible exact LeO.none _)
   | (with_reducible refine LeO.ite ?_ ?_)
   | (with_reducible refine LeO.bind ?_ (fun _ => ?_))
   | exact ih0 _ _ _ _
   | exact LeO.none _
   | refine LeO.ite ?_ ?_
   | refine LeO.bind ?_ (fun _ => ?_)
theorem alloc_size.mono : ∀ a0 k, LeO (alloc_size.f k a0) (alloc_size.f (k + 1) a0) := by
 intro a0 k
 have ih0 := alloc_size.mono_l k
 unfold alloc_size.f
 repeat' first
   | (with_reducible exact ih0 _ _ _ _)
   | (with_reducible exact LeO.refl _)
   | (with_reducible exact LeO.none _)
   | (with_reducible refine LeO.ite ?_ ?_)
   | (with_reducible refine LeO.bind ?_ (fun _ => ?_))
   | exact ih0 _ _ _ _
   | exact LeO.none _
   | refine LeO.ite ?_ ?_
   | refine LeO.bind ?_ (fun _ => ?_)
set_option maxHeartbeats 8000000 in
set_option maxRecDepth 100000 in
theorem alloc_size.calls (k : Nat) (A0 : Option Addr) (c0 : Nat) (l0 : List (S53)) (r : Int) (w : World) (hr0 : Kd.C k53 w A0 l0.length l0) (hc0 : l0.length ≤ c0) (h : alloc_size.f k l0 = some r) :
  Calls Try.prog 31 #[.slice A0 l0.length c0] w fun e w' => e = .returned (.int .i64 r) ∧ Below w.heap.size w w' := by
 have hu53 := Try.underlying53
 have HR0 := Aside0.mk hr0
 have HC0 := Aside0.mk hc0
 clear hr0 hc0
 have HB := Aa (Below.refl w.heap.size w)
 have H : (alloc_size.l0 k 0 l0 (l0.length : Int) 0) = some r := h
 clear h
 have H' := Aside0.mk H
 clear H
 go_enter Try.func31, Try.ntmps31
 go_wp2
 go_loopg [3, 8] k (fun kq v3 v8 w' => ∃ (x3_1 : Int) (x8_1 : Int), v3 = .int .i64 x3_1 ∧ v8 = .int .i64 x8_1 ∧ Aside0 (alloc_size.l0 kq x3_1 l0 (l0.length : Int) x8_1 = some r) ∧ Aside0 (kq ≤ k) ∧ Aside0 (Below w.heap.size w w'))
 case atStart => exact ⟨(0), (0), (by first | rfl | (simp; done) | (simp [*]; done)), (by first | rfl | (simp; done) | (simp [*]; done)), H', ⟨Nat.le_refl _⟩, ⟨bU HB.1⟩⟩
 case round =>
  clear H'
  obtain ⟨x3_1, x8_1, rfl, rfl, HA, HK1, HB⟩ := hrel
  cases gk with
  | zero => exact absurd HA.1 (by simp [alloc_size.l0])
  | succ k1 =>
   have H := HA.1
   clear HA
   simp only [alloc_size.l0] at H
   by_cases c2 : x8_1 < (l0.length : Int)
   ·
    rw [if_pos c2] at H
    have c2b0 := decide_eq_true c2
    clear c2
    by_cases c3 : 0 ≤ x8_1
    ·
     rw [if_pos c3] at H
     have c3b0 := decide_eq_true c3
     clear c3
     by_cases c4 : x8_1 < (l0.length : Int)
     ·
      rw [if_pos c4] at H
      have c4b0 := decide_eq_true c4
      clear c4
      have H' := Aside0.mk H
      clear H
      have p105 : 0 ≤ (x8_1 : Int) := dT
      have q105 : x8_1 < (l0.length : Int) := dT
      obtain ⟨ad105, e105, hx105_0, hx105_1, hx105_2⟩ := at_T53 HR0.1 x8_1 p105 q105
      cases e105
      replace hx105_0 := cB HB hx105_0
      replace hx105_1 := cB HB hx105_1
      replace hx105_2 := cB HB hx105_2
      replace p105 := eq_true p105
      replace q105 := eq_true q105
      go_wp2_with (first | ((with_reducible refine gD 5 ?_); refine bE #[.int .i64 0, .int .i64 0, .int .i64 0] 53 ?_; intro gb106 hg w5 hbox hb; have BK106 := Aa (hbox); have GW106 := gU HB hg; have GE106 := gU HB hg; have iE106 := Nonempty.intro GE106.1; replace HB := sU HB hb; clear hb hbox hg; have hcz6_0 : w5.cell? ⟨gb106, 0, none⟩ = some (.int .i64 0) := cC BK106 0; have hcz6_1 : w5.cell? ⟨gb106, 1, none⟩ = some (.int .i64 0) := cC BK106 1; have hcz6_2 : w5.cell? ⟨gb106, 2, none⟩ = some (.int .i64 0) := cC BK106 2; have hfz6_0 := fC BK106 0; have hfz6_1 := fC BK106 1; have hfz6_2 := fC BK106 2))
      go_roundg k1
      case measure => have := HK1.1; omega
      case rel => exact ⟨(wrap64 (x3_1 + ((rd_T53 l0 x8_1).f1))), (wrap64 (x8_1 + 1)), (by first | rfl | (simp; done) | (simp [*]; done)), (by first | rfl | (simp; done) | (simp [*]; done)), H', ⟨by have := HK1.1; omega⟩, ⟨bS HB.1⟩⟩
     ·
      rw [if_neg c4] at H
      exact absurd H (by simp)
    ·
     rw [if_neg c3] at H
     exact absurd H (by simp)
   ·
    rw [if_neg c2] at H
    have c2b0 := decide_eq_false c2
    clear c2
    obtain rfl := Option.some.inj H
    go_wp2
    go_ret
    exact ⟨fT, bU HB.1⟩

/-! ### alloc_Map_Free: function 15 -/
def alloc_Map_Free.f (k : Nat) (a0_0 : Int) (l0_1 : List (S53)) : Option (Int) := (alloc_size.f k l0_1).bind fun t108 => (some t108)
theorem alloc_Map_Free.mono : ∀ a0 a1 k, LeO (alloc_Map_Free.f k a0 a1) (alloc_Map_Free.f (k + 1) a0 a1) := by
 intro a0 a1 k
 unfold alloc_Map_Free.f
 repeat' first
   | (with_reducible exact alloc_size.mono _ _)
   | (with_reducible exact LeO.refl _)
   | (with_reducible exact LeO.none _)
   | (with_reducible refine LeO.ite ?_ ?_)
   | (with_reducible refine LeO.bind ?_ (fun _ => ?_))
   | exact alloc_size.mono _ _
   | exact LeO.none _
   | refine LeO.ite ?_ ?_
   | refine LeO.bind ?_ (fun _ => ?_)
set_option maxHeartbeats 8000000 in
set_option maxRecDepth 100000 in
theorem alloc_Map_Free.calls (k : Nat) (a0_0 : Int) (A0_1 : Option Addr) (c0_1 : Nat) (l0_1 : List (S53)) (r : Int) (w : World) (hr0_1 : Kd.C k53 w A0_1 l0_1.length l0_1) (hc0_1 : l0_1.length ≤ c0_1) (h : alloc_Map_Free.f k a0_0 l0_1 = some r) :
  Calls Try.prog 15 #[.agg #[.int .i64 a0_0, .slice A0_1 l0_1.length c0_1]] w fun e w' => e = .returned (.int .i64 r) ∧ Below w.heap.size w w' := by
 have hu26 := Try.underlying26
 have HR0_1 := Aside0.mk hr0_1
 have HC0_1 := Aside0.mk hc0_1
 clear hr0_1 hc0_1
 have HB := Aa (Below.refl w.heap.size w)
 have H : ((alloc_size.f k l0_1).bind fun t108 => (some t108)) = some r := h
 clear h
 replace H := Option.bind_eq_some_iff.mp H
 obtain ⟨t108, A20, H⟩ := H
 replace H : (some t108) = some r := H
 have A2 := Aside0.mk A20
 clear A20
 obtain rfl := Option.some.inj H
 go_enter Try.func15, Try.ntmps15
 go_wp2_with (first | ((with_reducible refine gD 1 ?_); refine bE #[.int .i64 a0_0, .slice A0_1 l0_1.length c0_1] 26 ?_; intro gb107 hg w3 hbox hb; have BK107 := Aa (hbox); have GW107 := gU HB hg; have GE107 := gU HB hg; have iE107 := Nonempty.intro GE107.1; replace HB := sU HB hb; clear hb hbox hg; have hcz4_0 : w3.cell? ⟨gb107, 0, none⟩ = some (.int .i64 a0_0) := cC BK107 0; have hcz4_1 : w3.cell? ⟨gb107, 1, none⟩ = some (.slice A0_1 l0_1.length c0_1) := cC BK107 1; have hfz4_0 := fC BK107 0; have hfz4_1 := fC BK107 1) | ((with_reducible refine gC 31 ?_); refine gL 5 Try.func31 #[.slice A0_1 l0_1.length c0_1] ?_; (with_reducible refine (alloc_size.calls k _ _ l0_1 t108 _ ?side1 ?side2 A2.1).mono ?_); (case side1 => exact cU (Kd.C_below HR0_1.1 HB.1)); (case side2 => exact HC0_1.1); rintro e w5 ⟨rfl, hb⟩; refine ⟨_, rfl, ?_⟩; replace BK107 := kB BK107 hb; replace HB := sB HB hb; (try clear hb)))
 go_ret
 exact ⟨fT, bS HB.1⟩

-- MAKES
/-- The cells of a list of extents. -/
def encE (x : S53) : List Value := [.int .i64 x.f0, .int .i64 x.f1, .int .i64 x.f2]
theorem encE_len (l : List S53) : (l.flatMap encE).length = l.length * 3 := by
 induction l with
 | nil => rfl
 | cons x l ih => simp only [List.flatMap_cons, List.length_append, ih, encE, List.length_cons, List.length_nil]; omega
theorem encE_one (l : List S53) : ∀ v ∈ l.flatMap encE, v.oneCell' = true := by
 intro v hv
 obtain ⟨x, _, hx⟩ := List.mem_flatMap.1 hv
 simp [encE] at hx
 rcases hx with rfl | rfl | rfl <;> rfl
theorem encE_take (l : List S53) (i : Nat) : (l.flatMap encE).take (i * 3) = (l.take i).flatMap encE := by
 induction l generalizing i with
 | nil => simp
 | cons x l ih =>
  cases i with
  | zero => simp
  | succ i => rw [List.flatMap_cons, show (i + 1) * 3 = (encE x).length + i * 3 by simp [encE]; omega, List.take_length_add_append, ih]; rfl
theorem encE_drop (l : List S53) (i : Nat) : (l.flatMap encE).drop (i * 3) = (l.drop i).flatMap encE := by
 induction l generalizing i with
 | nil => simp
 | cons x l ih =>
  cases i with
  | zero => simp
  | succ i => rw [List.flatMap_cons, show (i + 1) * 3 = (encE x).length + i * 3 by simp [encE]; omega, List.drop_length_add_append, ih]; rfl
theorem reps_enc {w : World} {b : Nat} {ok : Nat → Prop} : ∀ {ps : List S53} {cs : List Value}, Reps (k53.M w b ok) 3 ps cs → cs = ps.flatMap encE
 | [], cs, h => by have := h.1; simp at this; simpa using this
 | p :: ps, cs, h => by
  have h0 := h.2 0 p rfl
  have h0' := k53_openM h0
  have hl := h.1
  simp only [List.length_cons] at hl
  have hd : Reps (k53.M w b ok) 3 ps (cs.drop 3) := ⟨by rw [List.length_drop]; omega, fun j q hq => by
   have := h.2 (j + 1) q hq
   rw [List.drop_drop, show 3 + j * 3 = (j + 1) * 3 by omega]
   exact this⟩
  have ih := reps_enc hd
  rw [List.flatMap_cons, ← ih]
  simp only [Nat.zero_mul, List.drop_zero] at h0'
  have := List.take_append_drop 3 cs
  rw [h0'] at this
  exact this.symm
theorem enc_reps {w : World} {b : Nat} {ok : Nat → Prop} (ps : List S53) : Reps (k53.M w b ok) 3 ps (ps.flatMap encE) := by
 refine ⟨encE_len ps, fun j p hp => ?_⟩
 have hj := (List.getElem?_eq_some_iff.1 hp).1
 rw [encE_drop, List.drop_eq_getElem_cons hj, List.flatMap_cons, show 3 = (encE ps[j]).length by rfl, List.take_left]
 have hpj : ps[j] = p := (List.getElem?_eq_some_iff.1 hp).2
 rw [hpj]
 exact k53_mkM w b ok p
/-- The cells of a list of extents in a row. -/
theorem cells_at {w : World} {A : Option Addr} {n : Nat} {l : List S53} (h : Kd.C k53 w A n l) (hn : n = l.length) : ∀ j (hj : j < l.length), ∃ ad, A = some ad ∧ ad.block < w.heap.size ∧ w.cell? (ad.add (j * 3)) = some (.int .i64 (l[j]).f0) ∧ w.cell? ⟨(ad.add (j * 3)).block, (ad.add (j * 3)).off + 1, none⟩ = some (.int .i64 (l[j]).f1) ∧ w.cell? ⟨(ad.add (j * 3)).block, (ad.add (j * 3)).off + 2, none⟩ = some (.int .i64 (l[j]).f2) := by
 intro j hj
 obtain ⟨ad, e, c0, c1, c2⟩ := at_T53 h (j : Int) (by omega) (by omega)
 have hr : rd_T53 l (j : Int) = l[j] := by unfold rd_T53; rw [List.getD_eq_getElem?_getD, show (j : Int).toNat = j from by omega, List.getElem?_eq_getElem hj]; rfl
 rw [hr, show (j : Int).toNat = j from by omega] at c0 c1 c2
 have hb : (ad.add (j * 3)).block = ad.block := by unfold Addr.add; split <;> rfl
 exact ⟨ad, e, by rw [← hb]; exact World.block_lt_of_cell? w _ c0, c0, c1, c2⟩

set_option maxHeartbeats 2000000 in
/-- slices.Clone. -/
theorem clone_calls (A : Option Addr) (c : Nat) (l : List S53) (w : World) (hC : Kd.C k53 w A l.length l) (hl : l.length ≤ 1000000000) :
  Calls Try.prog 32 #[.slice A l.length c] w fun e w' => ∃ v : Value, e = .returned v ∧ Kd.R k53 53 w' w.heap.size (fun _ => True) v l ∧ Below w.heap.size w w' := by
 have hu53 := Try.underlying53
 have hu24 := Try.underlying24
 have q : ∀ (w : World) (a : Option Addr) (n c n' c' : Nat), (binOp .eql 24 (.slice a n c) (.slice none n' c')).run Try.prog w = .ok (.bool a.isNone) w := fun w a n c n' c' => Lib.run_eql_slice_nil w _ _ a n c n' c' Try.underlying24
 have HC := Aside0.mk hC
 clear hC
 cases A with
 | none =>
  have h0 : l = [] := by
   cases l with
   | nil => rfl
   | cons x l => obtain ⟨ad, e, _⟩ := cells_at HC.1 rfl 0 (by simp); cases e
  subst h0
  go_enter Try.func32, Try.ntmps32
  go_wp2
  go_ret
  exact ⟨_, rfl, Kd.R_nil _ _ _ _ _, Below.refl _ _⟩
 | some ad =>
  go_enter Try.func32, Try.ntmps32
  go_wp2_with (first
   | ((with_reducible refine gD 5 ?_); refine Kd.R_lit k53 _ 53 ?hg (N := 5) ?hd (xs := ([] : List (S53))) (inner := []) (ok := fun _ => True) (okp := fun _ => True) ?hr ?hp (fun _ hk => hk) trivial (Below.refl _ _) (Nat.le_refl _) (by simp) ?_; (case hd => rfl); (case hg => rfl); (case hr => first | (go_simp; done) | (go_simp; rfl)); (case hp => exact (Reps.none _ _)); intro v193 w3 ho4 hb hg_ hnew_; clear hg_ hnew_; have HO := Aside0.mk ho4; have HB := Aside0.mk hb; clear ho4 hb)
   | ((with_reducible refine gate_builtin (b := .append) (xs := #[.tmp 5, .tmp 6]) rfl ?_); at_builtin; refine Kd.R_append_rows k53 (w0 := w) w.heap.size rfl (.tmp 5) (.tmp 6) 24 53 (.agg #[(.int .i64 0), (.int .i64 0), (.int .i64 0)]) 24 rfl Try.underlying24 info53 rfl (by decide) (by omega) v193 [] l _ _ _ (fun _ => True) (fun _ => False) rfl rfl HO.1 (Kd.C_below HC.1 HB.1) (fun _ _ h => h) (fun _ h => h.elim) (fun _ _ => trivial) HB.1 HB.1.size (by simp; omega) ?_; intro v196 w5 ho hb hg hat; have HO2 := Aside0.mk ho; have HB2 := Aside0.mk hb; clear ho hb hg hat))
  go_ret
  exact ⟨_, rfl, HO2.1, HB2.1⟩
def api_Extent_32.f (l : List S53) : Option (List S53) := if l.length ≤ 1000000000 then some l else none
theorem api_Extent_32.calls (A0 : Option Addr) (c0 : Nat) (l0 : List S53) (r : List S53) (w : World) (hr0 : Kd.C k53 w A0 l0.length l0) (hc0 : l0.length ≤ c0) (h : api_Extent_32.f l0 = some r) :
  Calls Try.prog 32 #[.slice A0 l0.length c0] w fun e w' => ∃ v0_ : Value, e = .returned (v0_) ∧ Kd.R k53 53 w' w.heap.size (fun _ => True) v0_ r ∧ Below w.heap.size w w' := by
 unfold api_Extent_32.f at h
 split at h
 ·
  rename_i hl
  obtain rfl := Option.some.inj h
  exact clone_calls A0 c0 l0 w hr0 hl
 ·
  cases h

/-! ### extent_within: function 65 -/
def extent_within.f (a0 : Int) (a1 : Int) (a2 : Int) : Option (Bool) := if a0 ≥ 0 then (if a1 ≥ 0 then (if a0 ≤ a2 then (some (decide (a1 ≤ (wrap64 (a2 - a0))))) else (some false)) else (some false)) else (some false)
set_option maxHeartbeats 8000000 in
set_option maxRecDepth 100000 in
theorem extent_within.calls (a0 : Int) (a1 : Int) (a2 : Int) (r : Bool) (w : World) (h : extent_within.f a0 a1 a2 = some r) :
  Calls Try.prog 65 #[.int .i64 a0, .int .i64 a1, .int .i64 a2] w fun e w' => e = .returned (.bool r) ∧ Drawn0 w w' := by
 have H : (if a0 ≥ 0 then (if a1 ≥ 0 then (if a0 ≤ a2 then (some (decide (a1 ≤ (wrap64 (a2 - a0))))) else (some false)) else (some false)) else (some false)) = some r := h
 clear h
 by_cases c4 : a0 ≥ 0
 ·
  rw [if_pos c4] at H
  have c4b0 := decide_eq_true c4
  clear c4
  by_cases c5 : a1 ≥ 0
  ·
   rw [if_pos c5] at H
   have c5b0 := decide_eq_true c5
   clear c5
   by_cases c6 : a0 ≤ a2
   ·
    rw [if_pos c6] at H
    have c6b0 := decide_eq_true c6
    clear c6
    obtain rfl := Option.some.inj H
    go_enter Try.func65, Try.ntmps65
    go_wp2
    go_ret
    exact ⟨by first | rfl | (simp; done) | (simp [*]; done), by repeat (first | exact Drawn0.refl _ | apply Drawn0.step)⟩
   ·
    rw [if_neg c6] at H
    have c6b0 := decide_eq_false c6
    clear c6
    obtain rfl := Option.some.inj H
    go_enter Try.func65, Try.ntmps65
    go_wp2
    go_ret
    exact ⟨by first | rfl | (simp; done) | (simp [*]; done), by repeat (first | exact Drawn0.refl _ | apply Drawn0.step)⟩
  ·
   rw [if_neg c5] at H
   have c5b0 := decide_eq_false c5
   clear c5
   obtain rfl := Option.some.inj H
   go_enter Try.func65, Try.ntmps65
   go_wp2
   go_ret
   exact ⟨by first | rfl | (simp; done) | (simp [*]; done), by repeat (first | exact Drawn0.refl _ | apply Drawn0.step)⟩
 ·
  rw [if_neg c4] at H
  have c4b0 := decide_eq_false c4
  clear c4
  obtain rfl := Option.some.inj H
  go_enter Try.func65, Try.ntmps65
  go_wp2
  go_ret
  exact ⟨by first | rfl | (simp; done) | (simp [*]; done), by repeat (first | exact Drawn0.refl _ | apply Drawn0.step)⟩

/-! ### extent_proper: function 57 -/
def extent_proper.f (a0_0 : Int) (a0_1 : Int) (a0_2 : Int) : Option (Bool) := if a0_1 ≥ 1 then ((extent_within.f a0_0 a0_1 65536).bind fun t110 => (if t110 = true then ((extent_within.f a0_2 a0_1 65536).bind fun t111 => (some t111)) else (some false))) else (some false)
set_option maxHeartbeats 8000000 in
set_option maxRecDepth 100000 in
theorem extent_proper.calls (a0_0 : Int) (a0_1 : Int) (a0_2 : Int) (r : Bool) (w : World) (h : extent_proper.f a0_0 a0_1 a0_2 = some r) :
  Calls Try.prog 57 #[.agg #[.int .i64 a0_0, .int .i64 a0_1, .int .i64 a0_2]] w fun e w' => e = .returned (.bool r) ∧ Below w.heap.size w w' := by
 have hu53 := Try.underlying53
 have HB := Aa (Below.refl w.heap.size w)
 have H : (if a0_1 ≥ 1 then ((extent_within.f a0_0 a0_1 65536).bind fun t110 => (if t110 = true then ((extent_within.f a0_2 a0_1 65536).bind fun t111 => (some t111)) else (some false))) else (some false)) = some r := h
 clear h
 by_cases c2 : a0_1 ≥ 1
 ·
  rw [if_pos c2] at H
  have c2b0 := decide_eq_true c2
  clear c2
  replace H := Option.bind_eq_some_iff.mp H
  obtain ⟨t110, A30, H⟩ := H
  replace H : (if t110 = true then ((extent_within.f a0_2 a0_1 65536).bind fun t111 => (some t111)) else (some false)) = some r := H
  have A3 := Aside0.mk A30
  clear A30
  by_cases c4 : t110 = true
  ·
   subst c4
   have H1 : ((extent_within.f a0_2 a0_1 65536).bind fun t111 => (some t111)) = some r := by rw [if_pos rfl] at H; exact H
   clear H
   have H := H1
   clear H1
   replace H := Option.bind_eq_some_iff.mp H
   obtain ⟨t111, A50, H⟩ := H
   replace H : (some t111) = some r := H
   have A5 := Aside0.mk A50
   clear A50
   obtain rfl := Option.some.inj H
   go_enter Try.func57, Try.ntmps57
   go_wp2_with (first | ((with_reducible refine gD 1 ?_); refine bE #[.int .i64 a0_0, .int .i64 a0_1, .int .i64 a0_2] 53 ?_; intro gb109 hg w6 hbox hb; have BK109 := Aa (hbox); have GW109 := gU HB hg; have GE109 := gU HB hg; have iE109 := Nonempty.intro GE109.1; replace HB := sU HB hb; clear hb hbox hg; have hcz7_0 : w6.cell? ⟨gb109, 0, none⟩ = some (.int .i64 a0_0) := cC BK109 0; have hcz7_1 : w6.cell? ⟨gb109, 1, none⟩ = some (.int .i64 a0_1) := cC BK109 1; have hcz7_2 : w6.cell? ⟨gb109, 2, none⟩ = some (.int .i64 a0_2) := cC BK109 2; have hfz7_0 := fC BK109 0; have hfz7_1 := fC BK109 1; have hfz7_2 := fC BK109 2) | (go_at_call 65; (with_reducible refine (extent_within.calls a0_0 a0_1 65536 true _ A3.1).mono ?_); rintro e w' ⟨rfl, ⟨nd, rfl⟩⟩) | (go_at_call 65; (with_reducible refine (extent_within.calls a0_2 a0_1 65536 t111 _ A5.1).mono ?_); rintro e w' ⟨rfl, ⟨nd, rfl⟩⟩))
   go_ret
   exact ⟨fT, bS HB.1⟩
  ·
   replace c4 := Bool.eq_false_iff.mpr c4
   subst c4
   have H1 : (some false) = some r := by rw [if_neg (show ¬ (false = true) by decide)] at H; exact H
   clear H
   have H := H1
   clear H1
   obtain rfl := Option.some.inj H
   go_enter Try.func57, Try.ntmps57
   go_wp2_with (first | ((with_reducible refine gD 1 ?_); refine bE #[.int .i64 a0_0, .int .i64 a0_1, .int .i64 a0_2] 53 ?_; intro gb109 hg w8 hbox hb; have BK109 := Aa (hbox); have GW109 := gU HB hg; have GE109 := gU HB hg; have iE109 := Nonempty.intro GE109.1; replace HB := sU HB hb; clear hb hbox hg; have hcz9_0 : w8.cell? ⟨gb109, 0, none⟩ = some (.int .i64 a0_0) := cC BK109 0; have hcz9_1 : w8.cell? ⟨gb109, 1, none⟩ = some (.int .i64 a0_1) := cC BK109 1; have hcz9_2 : w8.cell? ⟨gb109, 2, none⟩ = some (.int .i64 a0_2) := cC BK109 2; have hfz9_0 := fC BK109 0; have hfz9_1 := fC BK109 1; have hfz9_2 := fC BK109 2) | (go_at_call 65; (with_reducible refine (extent_within.calls a0_0 a0_1 65536 false _ A3.1).mono ?_); rintro e w' ⟨rfl, ⟨nd, rfl⟩⟩))
   go_ret
   exact ⟨fT, bS HB.1⟩
 ·
  rw [if_neg c2] at H
  have c2b0 := decide_eq_false c2
  clear c2
  obtain rfl := Option.some.inj H
  go_enter Try.func57, Try.ntmps57
  go_wp2_with (first | ((with_reducible refine gD 1 ?_); refine bE #[.int .i64 a0_0, .int .i64 a0_1, .int .i64 a0_2] 53 ?_; intro gb109 hg w10 hbox hb; have BK109 := Aa (hbox); have GW109 := gU HB hg; have GE109 := gU HB hg; have iE109 := Nonempty.intro GE109.1; replace HB := sU HB hb; clear hb hbox hg; have hcz11_0 : w10.cell? ⟨gb109, 0, none⟩ = some (.int .i64 a0_0) := cC BK109 0; have hcz11_1 : w10.cell? ⟨gb109, 1, none⟩ = some (.int .i64 a0_1) := cC BK109 1; have hcz11_2 : w10.cell? ⟨gb109, 2, none⟩ = some (.int .i64 a0_2) := cC BK109 2; have hfz11_0 := fC BK109 0; have hfz11_1 := fC BK109 1; have hfz11_2 := fC BK109 2))
  go_ret
  exact ⟨fT, bS HB.1⟩

-- MAKES
theorem fcells_at {w : World} {A : Option Addr} {n : Nat} {l : List S53} (h : Kd.C k53 w A n l) (hn : n = l.length) : ∀ j (hj : j < l.length), ∃ ad, A = some ad ∧ ad.block < w.heap.size ∧ w.cell? (ad.add (j * 3)) = some (.int .i64 (l[j]).f0) ∧ w.cell? ⟨(ad.add (j * 3)).block, (ad.add (j * 3)).off + 1, none⟩ = some (.int .i64 (l[j]).f1) ∧ w.cell? ⟨(ad.add (j * 3)).block, (ad.add (j * 3)).off + 2, none⟩ = some (.int .i64 (l[j]).f2) := by
 intro j hj
 obtain ⟨ad, e, c0, c1, c2⟩ := at_T53 h (j : Int) (by omega) (by omega)
 have hr : rd_T53 l (j : Int) = l[j] := by unfold rd_T53; rw [List.getD_eq_getElem?_getD, show (j : Int).toNat = j from by omega, List.getElem?_eq_getElem hj]; rfl
 rw [hr, show (j : Int).toNat = j from by omega] at c0 c1 c2
 have hb : (ad.add (j * 3)).block = ad.block := by unfold Addr.add; split <;> rfl
 exact ⟨ad, e, by rw [← hb]; exact World.block_lt_of_cell? w _ c0, c0, c1, c2⟩
set_option maxHeartbeats 2000000 in
/-- fit's closure: is a run long enough. -/
theorem fit_step (g : Nat) (n x0 x1 x2 : Int) (w : World) (hg : g < w.heap.size) (hx : w.cell? ⟨g, 0, none⟩ = some (.int .i64 n)) :
  Calls Try.prog 63 #[.agg #[.int .i64 x0, .int .i64 x1, .int .i64 x2], .pointer (some ⟨g, 0, none⟩)] w fun e w' => e = .returned (.bool (decide (x1 ≥ n))) ∧ Below w.heap.size w w' := by
 have hu53 := Try.underlying53
 have hne : ¬ (g = w.heap.size) := by omega
 go_enter Try.func63, Try.ntmps63
 go_wp2
 go_ret
 exact ⟨rfl, (Below.refl _ _).alloc (Nat.le_refl _) _⟩
/-- The number of the first run of at least n slots, else -1. -/
def fidx (n : Int) : List S53 → Int → Int
 | [], _ => -1
 | x :: l, i => if x.f1 ≥ n then i else fidx n l (i + 1)
theorem fidx_none {n : Int} : ∀ {l : List S53} {i : Int}, (∀ x ∈ l, ¬ x.f1 ≥ n) → fidx n l i = -1
 | [], _, _ => rfl
 | x :: l, i, h => by rw [fidx, if_neg (h x List.mem_cons_self), fidx_none fun y hy => h y (List.mem_cons_of_mem _ hy)]
theorem fidx_some {n : Int} : ∀ {pre : List S53} {x : S53} {post : List S53} {i : Int}, (∀ y ∈ pre, ¬ y.f1 ≥ n) → x.f1 ≥ n → fidx n (pre ++ x :: post) i = i + pre.length
 | [], x, post, i, _, h => by rw [List.nil_append, fidx, if_pos h]; simp
 | y :: pre, x, post, i, hp, h => by
  rw [List.cons_append, fidx, if_neg (hp y List.mem_cons_self), fidx_some (fun z hz => hp z (List.mem_cons_of_mem _ hz)) h, List.length_cons]
  omega
theorem first_fit (n : Int) : ∀ l : List S53, (∀ x ∈ l, ¬ x.f1 ≥ n) ∨ ∃ pre x post, l = pre ++ x :: post ∧ (∀ y ∈ pre, ¬ y.f1 ≥ n) ∧ x.f1 ≥ n
 | [] => .inl (by simp)
 | x :: l => by
  by_cases hx : x.f1 ≥ n
  ·
   exact .inr ⟨[], x, l, rfl, by simp, hx⟩
  ·
   rcases first_fit n l with h | ⟨pre, y, post, rfl, h1, h2⟩
   ·
    refine .inl fun y hy => ?_
    rcases List.mem_cons.1 hy with rfl | hy
    ·
     exact hx
    ·
     exact h y hy
   ·
    refine .inr ⟨x :: pre, y, post, rfl, fun z hz => ?_, h2⟩
    rcases List.mem_cons.1 hz with rfl | hz
    ·
     exact hx
    ·
     exact h1 z hz
set_option maxHeartbeats 4000000 in
/-- slices.IndexFunc with fit's closure: up to m runs are too short, the next one (if there is any) is long enough. -/
theorem fit_index (g : Nat) (n : Int) (A : Option Addr) (c : Nat) (l : List S53) (w : World) (hbox : w.heap[g]? = some (.cells #[.int .i64 n] 3 (0, 0))) (hC : Kd.C k53 w A l.length l) (hl : l.length ≤ 1000000000) (m : Nat) (hm : m ≤ l.length) (ho : ∀ (j : Nat) (hj : j < l.length), j < m → ¬ (l[j].f1 ≥ n)) (hb : ∀ h : m < l.length, l[m].f1 ≥ n) :
  Calls Try.prog 62 #[.slice A l.length c, .func (.func 63) #[] #[.pointer (some ⟨g, 0, none⟩)]] w fun e w' => e = .returned (.int .i64 (if m < l.length then (m : Int) else -1)) ∧ Below w.heap.size w w' := by
 have hu53 := Try.underlying53
 have hu24 := Try.underlying24
 have hc53 : Try.prog.cellsOf 53 = 3 := by kernel_rfl
 have HC := Aa (fcells_at hC rfl)
 have HO := Aside0.mk ho
 have HI := Aside0.mk hb
 have HX := Aside0.mk hbox
 clear hC ho hb hbox
 obtain ⟨r, hr⟩ : ∃ r, r = if m < l.length then (m : Int) else -1 := ⟨_, rfl⟩
 rw [← hr]
 have HR := Aside0.mk hr
 clear hr
 obtain ⟨N, hN⟩ : ∃ N, N = l.length := ⟨_, rfl⟩
 rw [← hN] at hl hm ⊢
 have HN := Aside0.mk hN
 clear hN
 go_enter Try.func62, Try.ntmps62
 go_wp2
 go_loopg [5, 8] N (fun gg _ s8 wr => ∃ kk : Nat, kk ≤ m ∧ N - kk ≤ gg ∧ s8 = .int .i64 kk ∧ Aside0 (Below w.heap.size w wr))
 case atStart => exact ⟨0, Nat.zero_le _, by omega, rfl, ⟨Below.refl _ w⟩⟩
 case round =>
  obtain ⟨kk, hkk, hg, rfl, BW⟩ := hrel
  by_cases hlt : kk < N
  ·
   have hltz : (kk : Int) < (N : Int) := by omega
   have hkl : kk < l.length := by rw [← HN.1]; exact hlt
   obtain ⟨ad, rfl, hgw, c0, c1, c2⟩ := HC.1 kk hkl
   have hbl : (ad.add (kk * 3)).block = ad.block := by unfold Addr.add; split <;> rfl
   have d0 : wr.cell? (ad.add (kk * 3)) = some (.int .i64 (l[kk]).f0) := (BW.1.cell (p := ad.add (kk * 3)) (by rw [hbl]; exact hgw)).trans c0
   have d1 : wr.cell? ⟨(ad.add (kk * 3)).block, (ad.add (kk * 3)).off + 1, none⟩ = some (.int .i64 (l[kk]).f1) := (BW.1.cell (p := ⟨(ad.add (kk * 3)).block, _, none⟩) (by rw [hbl]; exact hgw)).trans c1
   have d2 : wr.cell? ⟨(ad.add (kk * 3)).block, (ad.add (kk * 3)).off + 2, none⟩ = some (.int .i64 (l[kk]).f2) := (BW.1.cell (p := ⟨(ad.add (kk * 3)).block, _, none⟩) (by rw [hbl]; exact hgw)).trans c2
   clear c0 c1 c2 hbl
   have hbw := blk_below HX.1 BW.1
   have hgl := blk_lt hbw
   have hcw : wr.cell? ⟨g, 0, none⟩ = some (.int .i64 n) := (blk_cell hbw 0).trans rfl
   by_cases hki : kk = m
   ·
    subst hki
    have hx := HI.1 hkl
    have HRK := Aa (show r = (kk : Int) by rw [HR.1, if_pos hkl])
    generalize l[kk] = y at d0 d1 d2 hx
    obtain ⟨y0, y1, y2⟩ := y
    have hcall := fit_step g n y0 y1 y2 wr hgl hcw
    have e1 : decide (y1 ≥ n) = true := decide_eq_true hx
    rw [e1] at hcall
    clear hx e1 hbw hcw hgl
    go_wp2_with fail
    refine hcall.mono ?_
    clear hcall d0 d1 d2
    rintro e w' ⟨rfl, hb'⟩
    have HBB := Aside0.mk hb'
    clear hb'
    go_wp2_with fail
    go_ret
    exact ⟨by rw [HRK.1]; rfl, BW.1.trans (HBB.1.mono BW.1.size)⟩
   ·
    have hx := HO.1 kk hkl (by omega)
    generalize l[kk] = y at d0 d1 d2 hx
    obtain ⟨y0, y1, y2⟩ := y
    have hcall := fit_step g n y0 y1 y2 wr hgl hcw
    have hx' : ¬ y1 ≥ n := by first | exact hx | (have h9 : y1 < n := hx; omega)
    have e1 : decide (y1 ≥ n) = false := decide_eq_false hx'
    clear hx'
    rw [e1] at hcall
    clear hx e1 hbw hcw hgl
    go_wp2_with fail
    refine hcall.mono ?_
    clear hcall d0 d1 d2
    rintro e w' ⟨rfl, hb'⟩
    have HBB := Aside0.mk hb'
    clear hb'
    go_wp2_with fail
    go_roundg (N - (kk + 1))
    case measure => omega
    case rel => exact ⟨kk + 1, by omega, by omega, by go_num, ⟨BW.1.trans (HBB.1.mono BW.1.size)⟩⟩
  ·
   have HRK := Aa (show r = -1 by rw [HR.1, if_neg (by have := HN.1; omega)])
   go_wp2
   go_ret
   exact ⟨by rw [HRK.1]; rfl, BW.1⟩
def api_Extent_62.f (l : List S53) (n : Int) : Option Int := if l.length ≤ 1000000000 then some (fidx n l 0) else none
/-- slices.IndexFunc as fit calls it: its closure's variable lies in a block of its own. -/
theorem api_Extent_62.calls (A0 : Option Addr) (c0 : Nat) (l0 : List S53) (a1 : Int) (r : Int) (w : World) (g : Nat) (hr0 : Kd.C k53 w A0 l0.length l0) (hc0 : l0.length ≤ c0) (h : api_Extent_62.f l0 a1 = some r) (hbox : w.heap[g]? = some (.cells #[.int .i64 a1] 3 (0, 0))) :
  Calls Try.prog 62 #[.slice A0 l0.length c0, .func (.func 63) #[] #[.pointer (some ⟨g, 0, none⟩)]] w fun e w' => e = .returned (.int .i64 r) ∧ Below w.heap.size w w' := by
 unfold api_Extent_62.f at h
 split at h
 ·
  rename_i hl
  obtain rfl := Option.some.inj h
  rcases first_fit a1 l0 with hn | ⟨pre, x, post, e, h1, h2⟩
  ·
   have := fit_index g a1 A0 c0 l0 w hbox hr0 hl l0.length (Nat.le_refl _) (fun j hj _ => hn _ (List.getElem_mem hj)) (fun h => absurd h (Nat.lt_irrefl _))
   rw [if_neg (Nat.lt_irrefl _)] at this
   rw [fidx_none hn]
   exact this
  ·
   have hlt : pre.length < l0.length := by rw [e]; simp
   have := fit_index g a1 A0 c0 l0 w hbox hr0 hl pre.length (by omega) (fun j hj hji => by subst e; rw [List.getElem_append_left hji]; exact h1 _ (List.getElem_mem hji)) (fun h => by subst e; simp; exact h2)
   rw [if_pos hlt] at this
   have he : fidx a1 l0 0 = (pre.length : Int) := by rw [e, fidx_some h1 h2]; simp
   rw [he]
   exact this
 ·
  cases h

end Go.Proofs.Ytcjpikjbjehjeaa.PAllocB
