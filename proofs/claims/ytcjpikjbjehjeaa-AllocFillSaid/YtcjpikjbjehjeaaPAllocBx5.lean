-- Written for this claim by a program of this session (wip/), out of the translation's own print: Lean checks it
import Derived.Test.YtcjpikjbjehjeaaPAllocBx0
import Derived.Test.YtcjpikjbjehjeaaPAllocBx2
import Derived.Test.YtcjpikjbjehjeaaPAllocBx4
namespace Go.Proofs.Ytcjpikjbjehjeaa.PAllocB
open Go.RowKit Go.Proofs.YtcjpikjbjehjeaaW.PrintWords Go.Proofs.YtcjpikjbjehjeaaW.PrintLast Go.Proofs.YtcjpikjbjehjeaaW.PrintMore
attribute [local go_sem] max2_int min2_int max_two min_two max_three min_three max_four min_four   -- for this text's walks alone
set_option linter.unusedVariables false
set_option linter.unusedSimpArgs false

/-! ### alloc_Map_permitted: function 42 -/
mutual
def alloc_Map_permitted.l0 : Nat → List (S53) → List (S53) → Int → Int → Int → List (S53) → Option ((List (S53)) × Bool)
 | 0, _, _, _, _, _, _ => none
 | k + 1, x1, x11, x12, x13, x129000, x129001 => if x13 < x12 then (if 0 ≤ x13 then (if x13 < (x11.length : Int) then (if ((rd_T53 x11 x13).f1) < 1 then (some (([] : List (S53)), false)) else (if ((rd_T53 x11 x13).f2) < 0 then (some (([] : List (S53)), false)) else (if ((rd_T53 x11 x13).f2) > x129000 then (some (([] : List (S53)), false)) else (if ((rd_T53 x11 x13).f1) > (wrap64 (x129000 - ((rd_T53 x11 x13).f2))) then (some (([] : List (S53)), false)) else (alloc_Map_permitted.l0 k x1 x11 x12 (wrap64 (x13 + 1)) x129000 x129001))))) else (none)) else (none)) else ((api_Extent_32.f x1).bind fun t131 => (alloc_Map_permitted.l1 k x1 t131 (t131.length : Int) 0))
def alloc_Map_permitted.l1 : Nat → List (S53) → List (S53) → Int → Int → Option ((List (S53)) × Bool)
 | 0, _, _, _, _ => none
 | k + 1, x1, x8, x46, x47 => if x47 < x46 then (if 0 ≤ x47 then (if x47 < (x8.length : Int) then (alloc_Map_permitted.l1 k x1 (x8.set (x47 : Int).toNat (⟨0, (rd_T53 x8 x47).f1, (rd_T53 x8 x47).f2⟩ : S53)) x46 (wrap64 (x47 + 1))) else (none)) else (none)) else ((extent_Runs.f k x8).bind fun t135 => ((alloc_size.f k t135).bind fun t138 => ((alloc_size.f k x1).bind fun t139 => (some (t135, (t138 == t139))))))
end
def alloc_Map_permitted.f (k : Nat) (a0_0 : Int) (l0_1 : List (S53)) (l1 : List (S53)) : Option ((List (S53)) × Bool) := alloc_Map_permitted.l0 k l1 l1 (l1.length : Int) 0 a0_0 l0_1
theorem alloc_Map_permitted.mono_l : ∀ k, (∀ y0 y1 y2 y3 y4 y5, LeO (alloc_Map_permitted.l0 k y0 y1 y2 y3 y4 y5) (alloc_Map_permitted.l0 (k + 1) y0 y1 y2 y3 y4 y5)) ∧ (∀ y0 y1 y2 y3, LeO (alloc_Map_permitted.l1 k y0 y1 y2 y3) (alloc_Map_permitted.l1 (k + 1) y0 y1 y2 y3))
 | 0 => ⟨fun _ _ _ _ _ _ r h => by simp [alloc_Map_permitted.l0] at h, fun _ _ _ _ r h => by simp [alloc_Map_permitted.l1] at h⟩
 | k + 1 => by
  obtain ⟨ih0, ih1⟩ := alloc_Map_permitted.mono_l k
  refine ⟨?_, ?_⟩
  all_goals (intros; (first | unfold alloc_Map_permitted.l0 | unfold alloc_Map_permitted.l1))
  all_goals repeat' first
  | (with_reducible exact ih0 _ _ _ _ _ _)
  | (with_reducible exact ih1 _ _ _ _)
  | (with_reducible exact alloc_size.mono _ _)
  | (with_reducible exact extent_Runs.mono _ _)
  | (with_reducible exact LeO.refl _)
  | (with_reducible exact LeO.none _)
  | (with_reducible refine LeO.ite ?_ ?_)
  | (with_reducible refine LeO.bind ?_ (fun _ => ?_))
  | exact ih0 _ _ _ _ _ _
  | exact ih1 _ _ _ _
  | exact alloc_size.mono _ _
  | exact extent_Runs.mono _ _
  | exact LeO.none _
  | refine LeO.ite ?_ ?_
  | refine LeO.bind ?_ (fun _ => ?_)
theorem alloc_Map_permitted.mono : ∀ a0 a1 a2 k, LeO (alloc_Map_permitted.f k a0 a1 a2) (alloc_Map_permitted.f (k + 1) a0 a1 a2) := by
 intro a0 a1 a2 k
 obtain ⟨ih0, ih1⟩ := alloc_Map_permitted.mono_l k
 unfold alloc_Map_permitted.f
 repeat' first
   | (with_reducible exact ih0 _ _ _ _ _ _)
   | (with_reducible exact ih1 _ _ _ _)
   | (with_reducible exact alloc_size.mono _ _)
   | (with_reducible exact extent_Runs.mono _ _)
   | (with_reducible exact LeO.refl _)
   | (with_reducible exact LeO.none _)
   | (with_reducible refine LeO.ite ?_ ?_)
   | (with_reducible refine LeO.bind ?_ (fun _ => ?_))
   | exact ih0 _ _ _ _ _ _
   | exact ih1 _ _ _ _
   | exact alloc_size.mono _ _
   | exact extent_Runs.mono _ _
   | exact LeO.none _
   | refine LeO.ite ?_ ?_
   | refine LeO.bind ?_ (fun _ => ?_)
set_option maxHeartbeats 8000000 in
set_option maxRecDepth 100000 in
theorem alloc_Map_permitted.calls (k : Nat) (a0_0 : Int) (A0_1 : Option Addr) (c0_1 : Nat) (l0_1 : List (S53)) (A1 : Option Addr) (c1 : Nat) (l1 : List (S53)) (r1 : List (S53)) (r2 : Bool) (w : World) (hr0_1 : Kd.C k53 w A0_1 l0_1.length l0_1) (hc0_1 : l0_1.length ≤ c0_1) (hr1 : Kd.C k53 w A1 l1.length l1) (hc1 : l1.length ≤ c1) (h : alloc_Map_permitted.f k a0_0 l0_1 l1 = some (r1, r2)) :
  Calls Try.prog 42 #[.agg #[.int .i64 a0_0, .slice A0_1 l0_1.length c0_1], .slice A1 l1.length c1] w fun e w' => ∃ v0_ : Value, e = .returned (.tuple #[v0_, .bool r2]) ∧ Kd.R k53 53 w' w.heap.size (fun _ => True) v0_ r1 ∧ Below w.heap.size w w' := by
 have hu26 := Try.underlying26
 have hu53 := Try.underlying53
 have HR0_1 := Aside0.mk hr0_1
 have HC0_1 := Aside0.mk hc0_1
 clear hr0_1 hc0_1
 have HR1 := Aside0.mk hr1
 have HC1 := Aside0.mk hc1
 clear hr1 hc1
 have HB := Aa (Below.refl w.heap.size w)
 have H : (alloc_Map_permitted.l0 k l1 l1 (l1.length : Int) 0 a0_0 l0_1) = some (r1, r2) := h
 clear h
 have H' := Aside0.mk H
 clear H
 go_enter Try.func42, Try.ntmps42
 go_wp2_with (first | ((with_reducible refine gD 2 ?_); refine bE #[.int .i64 a0_0, .slice A0_1 l0_1.length c0_1] 26 ?_; intro gb128 hg w3 hbox hb; have BK128 := Aa (hbox); have GW128 := gU HB hg; have GE128 := gU HB hg; have iE128 := Nonempty.intro GE128.1; replace HB := sU HB hb; clear hb hbox hg))
 go_loopg [13] k (fun kq v13 w' => ∃ (x13_1 : Int), v13 = .int .i64 x13_1 ∧ Aside0 (alloc_Map_permitted.l0 kq l1 l1 (l1.length : Int) x13_1 a0_0 l0_1 = some (r1, r2)) ∧ Aside0 (kq ≤ k) ∧ Aside0 (w'.heap[gb128]? = some (.cells #[.int .i64 a0_0, (.slice A0_1 l0_1.length c0_1)] 26 (0, 0))) ∧ Aside0 (Below w.heap.size w w'))
 case atStart => exact ⟨(0), (by first | rfl | (simp; done) | (simp [*]; done)), H', ⟨Nat.le_refl _⟩, ⟨by refine kP ?_; exact BK128.1⟩, ⟨bS HB.1⟩⟩
 case round =>
  clear H'
  try clear c1
  try clear p2
  obtain ⟨x13_1, rfl, HA, HK1, BK128, HB⟩ := hrel
  cases gk with
  | zero => exact absurd HA.1 (by simp [alloc_Map_permitted.l0])
  | succ k1 =>
   have H := HA.1
   clear HA
   simp only [alloc_Map_permitted.l0] at H
   by_cases c4 : x13_1 < (l1.length : Int)
   ·
    rw [if_pos c4] at H
    have c4b0 := decide_eq_true c4
    clear c4
    by_cases c5 : 0 ≤ x13_1
    ·
     rw [if_pos c5] at H
     have c5b0 := decide_eq_true c5
     clear c5
     by_cases c6 : x13_1 < (l1.length : Int)
     ·
      rw [if_pos c6] at H
      have c6b0 := decide_eq_true c6
      clear c6
      by_cases c7 : ((rd_T53 l1 x13_1).f1) < 1
      ·
       rw [if_pos c7] at H
       have c7b0 := decide_eq_true c7
       clear c7
       simp only [Option.some.injEq, Prod.mk.injEq] at H
       obtain ⟨rfl, rfl⟩ := H
       have p129 : 0 ≤ (x13_1 : Int) := dT
       have q129 : x13_1 < (l1.length : Int) := dT
       obtain ⟨ad129, e129, hx129_0, hx129_1, hx129_2⟩ := at_T53 HR1.1 x13_1 p129 q129
       cases e129
       replace hx129_0 := cB HB hx129_0
       replace hx129_1 := cB HB hx129_1
       replace hx129_2 := cB HB hx129_2
       replace p129 := eq_true p129
       replace q129 := eq_true q129
       go_wp2_with (first | ((with_reducible refine gD 7 ?_); refine bE #[.int .i64 0, .int .i64 0, .int .i64 0] 53 ?_; intro gb130 hg w8 hbox hb; have BK130 := Aa (hbox); have GW130 := gS HB hg; have GE130 := gS HB hg; have iE130 := Nonempty.intro GE130.1; replace HB := sB HB hb; have NB128_130 := nL BK128 hg; have NB130_128 := nG BK128 hg; replace BK128 := kB BK128 hb; clear hb hbox hg; have hnb9 := NB130_128.1; have hnc9 := NB128_130.1; have hcz10_0 : w8.cell? ⟨gb130, 0, none⟩ = some (.int .i64 0) := cC BK130 0; have hcz10_1 : w8.cell? ⟨gb130, 1, none⟩ = some (.int .i64 0) := cC BK130 1; have hcz10_2 : w8.cell? ⟨gb130, 2, none⟩ = some (.int .i64 0) := cC BK130 2; have hfz10_0 := fC BK130 0; have hfz10_1 := fC BK130 1; have hfz10_2 := fC BK130 2))
       go_ret2
       exact ⟨_, fT, by first | exact Kd.R_nil _ _ _ _ _ | exact Kd.N_nil _ _ _ _ _ | exact Kd.V_nil _ _ _ _ _ | exact Kd.Q_nil _ _ _ _ _ | exact Kd.S_nil _ _ _ _ _, bS HB.1⟩
      ·
       rw [if_neg c7] at H
       have c7b0 := decide_eq_false c7
       clear c7
       by_cases c11 : ((rd_T53 l1 x13_1).f2) < 0
       ·
        rw [if_pos c11] at H
        have c11b0 := decide_eq_true c11
        clear c11
        simp only [Option.some.injEq, Prod.mk.injEq] at H
        obtain ⟨rfl, rfl⟩ := H
        have p129 : 0 ≤ (x13_1 : Int) := dT
        have q129 : x13_1 < (l1.length : Int) := dT
        obtain ⟨ad129, e129, hx129_0, hx129_1, hx129_2⟩ := at_T53 HR1.1 x13_1 p129 q129
        cases e129
        replace hx129_0 := cB HB hx129_0
        replace hx129_1 := cB HB hx129_1
        replace hx129_2 := cB HB hx129_2
        replace p129 := eq_true p129
        replace q129 := eq_true q129
        go_wp2_with (first | ((with_reducible refine gD 7 ?_); refine bE #[.int .i64 0, .int .i64 0, .int .i64 0] 53 ?_; intro gb130 hg w12 hbox hb; have BK130 := Aa (hbox); have GW130 := gS HB hg; have GE130 := gS HB hg; have iE130 := Nonempty.intro GE130.1; replace HB := sB HB hb; have NB128_130 := nL BK128 hg; have NB130_128 := nG BK128 hg; replace BK128 := kB BK128 hb; clear hb hbox hg; have hnb13 := NB130_128.1; have hnc13 := NB128_130.1; have hcz14_0 : w12.cell? ⟨gb130, 0, none⟩ = some (.int .i64 0) := cC BK130 0; have hcz14_1 : w12.cell? ⟨gb130, 1, none⟩ = some (.int .i64 0) := cC BK130 1; have hcz14_2 : w12.cell? ⟨gb130, 2, none⟩ = some (.int .i64 0) := cC BK130 2; have hfz14_0 := fC BK130 0; have hfz14_1 := fC BK130 1; have hfz14_2 := fC BK130 2))
        go_ret2
        exact ⟨_, fT, by first | exact Kd.R_nil _ _ _ _ _ | exact Kd.N_nil _ _ _ _ _ | exact Kd.V_nil _ _ _ _ _ | exact Kd.Q_nil _ _ _ _ _ | exact Kd.S_nil _ _ _ _ _, bS HB.1⟩
       ·
        rw [if_neg c11] at H
        have c11b0 := decide_eq_false c11
        clear c11
        by_cases c15 : ((rd_T53 l1 x13_1).f2) > a0_0
        ·
         rw [if_pos c15] at H
         have c15b0 := decide_eq_true c15
         clear c15
         simp only [Option.some.injEq, Prod.mk.injEq] at H
         obtain ⟨rfl, rfl⟩ := H
         have p129 : 0 ≤ (x13_1 : Int) := dT
         have q129 : x13_1 < (l1.length : Int) := dT
         obtain ⟨ad129, e129, hx129_0, hx129_1, hx129_2⟩ := at_T53 HR1.1 x13_1 p129 q129
         cases e129
         replace hx129_0 := cB HB hx129_0
         replace hx129_1 := cB HB hx129_1
         replace hx129_2 := cB HB hx129_2
         replace p129 := eq_true p129
         replace q129 := eq_true q129
         go_wp2_with (first | ((with_reducible refine gD 7 ?_); refine bE #[.int .i64 0, .int .i64 0, .int .i64 0] 53 ?_; intro gb130 hg w16 hbox hb; have BK130 := Aa (hbox); have GW130 := gS HB hg; have GE130 := gS HB hg; have iE130 := Nonempty.intro GE130.1; replace HB := sB HB hb; have NB128_130 := nL BK128 hg; have NB130_128 := nG BK128 hg; replace BK128 := kB BK128 hb; clear hb hbox hg; have hnb17 := NB130_128.1; have hnc17 := NB128_130.1; have hcz18_0 : w16.cell? ⟨gb130, 0, none⟩ = some (.int .i64 0) := cC BK130 0; have hcz18_1 : w16.cell? ⟨gb130, 1, none⟩ = some (.int .i64 0) := cC BK130 1; have hcz18_2 : w16.cell? ⟨gb130, 2, none⟩ = some (.int .i64 0) := cC BK130 2; have hfz18_0 := fC BK130 0; have hfz18_1 := fC BK130 1; have hfz18_2 := fC BK130 2; have hcz19_0 : w16.cell? ⟨gb128, 0, none⟩ = some (.int .i64 a0_0) := cC BK128 0; have hcz19_1 : w16.cell? ⟨gb128, 1, none⟩ = some (.slice A0_1 l0_1.length c0_1) := cC BK128 1; have hfz19_0 := fC BK128 0; have hfz19_1 := fC BK128 1))
         go_ret2
         exact ⟨_, fT, by first | exact Kd.R_nil _ _ _ _ _ | exact Kd.N_nil _ _ _ _ _ | exact Kd.V_nil _ _ _ _ _ | exact Kd.Q_nil _ _ _ _ _ | exact Kd.S_nil _ _ _ _ _, bS HB.1⟩
        ·
         rw [if_neg c15] at H
         have c15b0 := decide_eq_false c15
         clear c15
         by_cases c20 : ((rd_T53 l1 x13_1).f1) > (wrap64 (a0_0 - ((rd_T53 l1 x13_1).f2)))
         ·
          rw [if_pos c20] at H
          have c20b0 := decide_eq_true c20
          clear c20
          simp only [Option.some.injEq, Prod.mk.injEq] at H
          obtain ⟨rfl, rfl⟩ := H
          have p129 : 0 ≤ (x13_1 : Int) := dT
          have q129 : x13_1 < (l1.length : Int) := dT
          obtain ⟨ad129, e129, hx129_0, hx129_1, hx129_2⟩ := at_T53 HR1.1 x13_1 p129 q129
          cases e129
          replace hx129_0 := cB HB hx129_0
          replace hx129_1 := cB HB hx129_1
          replace hx129_2 := cB HB hx129_2
          replace p129 := eq_true p129
          replace q129 := eq_true q129
          go_wp2_with (first | ((with_reducible refine gD 7 ?_); refine bE #[.int .i64 0, .int .i64 0, .int .i64 0] 53 ?_; intro gb130 hg w21 hbox hb; have BK130 := Aa (hbox); have GW130 := gS HB hg; have GE130 := gS HB hg; have iE130 := Nonempty.intro GE130.1; replace HB := sB HB hb; have NB128_130 := nL BK128 hg; have NB130_128 := nG BK128 hg; replace BK128 := kB BK128 hb; clear hb hbox hg; have hnb22 := NB130_128.1; have hnc22 := NB128_130.1; have hcz23_0 : w21.cell? ⟨gb130, 0, none⟩ = some (.int .i64 0) := cC BK130 0; have hcz23_1 : w21.cell? ⟨gb130, 1, none⟩ = some (.int .i64 0) := cC BK130 1; have hcz23_2 : w21.cell? ⟨gb130, 2, none⟩ = some (.int .i64 0) := cC BK130 2; have hfz23_0 := fC BK130 0; have hfz23_1 := fC BK130 1; have hfz23_2 := fC BK130 2; have hcz24_0 : w21.cell? ⟨gb128, 0, none⟩ = some (.int .i64 a0_0) := cC BK128 0; have hcz24_1 : w21.cell? ⟨gb128, 1, none⟩ = some (.slice A0_1 l0_1.length c0_1) := cC BK128 1; have hfz24_0 := fC BK128 0; have hfz24_1 := fC BK128 1))
          go_ret2
          exact ⟨_, fT, by first | exact Kd.R_nil _ _ _ _ _ | exact Kd.N_nil _ _ _ _ _ | exact Kd.V_nil _ _ _ _ _ | exact Kd.Q_nil _ _ _ _ _ | exact Kd.S_nil _ _ _ _ _, bS HB.1⟩
         ·
          rw [if_neg c20] at H
          have c20b0 := decide_eq_false c20
          clear c20
          have H' := Aside0.mk H
          clear H
          have p129 : 0 ≤ (x13_1 : Int) := dT
          have q129 : x13_1 < (l1.length : Int) := dT
          obtain ⟨ad129, e129, hx129_0, hx129_1, hx129_2⟩ := at_T53 HR1.1 x13_1 p129 q129
          cases e129
          replace hx129_0 := cB HB hx129_0
          replace hx129_1 := cB HB hx129_1
          replace hx129_2 := cB HB hx129_2
          replace p129 := eq_true p129
          replace q129 := eq_true q129
          go_wp2_with (first | ((with_reducible refine gD 7 ?_); refine bE #[.int .i64 0, .int .i64 0, .int .i64 0] 53 ?_; intro gb130 hg w25 hbox hb; have BK130 := Aa (hbox); have GW130 := gS HB hg; have GE130 := gS HB hg; have iE130 := Nonempty.intro GE130.1; replace HB := sB HB hb; have NB128_130 := nL BK128 hg; have NB130_128 := nG BK128 hg; replace BK128 := kB BK128 hb; clear hb hbox hg; have hnb26 := NB130_128.1; have hnc26 := NB128_130.1; have hcz27_0 : w25.cell? ⟨gb130, 0, none⟩ = some (.int .i64 0) := cC BK130 0; have hcz27_1 : w25.cell? ⟨gb130, 1, none⟩ = some (.int .i64 0) := cC BK130 1; have hcz27_2 : w25.cell? ⟨gb130, 2, none⟩ = some (.int .i64 0) := cC BK130 2; have hfz27_0 := fC BK130 0; have hfz27_1 := fC BK130 1; have hfz27_2 := fC BK130 2; have hcz28_0 : w25.cell? ⟨gb128, 0, none⟩ = some (.int .i64 a0_0) := cC BK128 0; have hcz28_1 : w25.cell? ⟨gb128, 1, none⟩ = some (.slice A0_1 l0_1.length c0_1) := cC BK128 1; have hfz28_0 := fC BK128 0; have hfz28_1 := fC BK128 1))
          go_roundg k1
          case measure => have := HK1.1; omega
          case rel => exact ⟨(wrap64 (x13_1 + 1)), (by first | rfl | (simp; done) | (simp [*]; done)), H', ⟨by have := HK1.1; omega⟩, ⟨by refine kP ?_; refine blk_far ?_ NB128_130.1 _; refine kP ?_; refine blk_far ?_ NB128_130.1 _; refine kP ?_; refine blk_far ?_ NB128_130.1 _; refine kP ?_; exact BK128.1⟩, ⟨bS HB.1⟩⟩
     ·
      rw [if_neg c6] at H
      exact absurd H (by simp)
    ·
     rw [if_neg c5] at H
     exact absurd H (by simp)
   ·
    rw [if_neg c4] at H
    have c4b0 := decide_eq_false c4
    clear c4
    replace H := Option.bind_eq_some_iff.mp H
    obtain ⟨t131, A290, H⟩ := H
    replace H : (alloc_Map_permitted.l1 k1 l1 t131 (t131.length : Int) 0) = some (r1, r2) := H
    have A29 := Aside0.mk A290
    clear A290
    have H' := Aside0.mk H
    clear H
    go_wp2_with (first | ((with_reducible refine gC 32 ?_); refine gL 44 Try.func32 #[.slice A1 l1.length c1] ?_; (with_reducible refine (api_Extent_32.calls _ _ l1 t131 _ ?side1 ?side2 A29.1).mono ?_); (case side1 => exact cU (Kd.C_below HR1.1 HB.1)); (case side2 => exact HC1.1); rintro e w30 ⟨v132, rfl, ho0, hb⟩; refine ⟨_, rfl, ?_⟩; have HO133 := Aa (Kd.R_lower ho0 (below_size (bS HB.1))); replace BK128 := kB BK128 hb; replace HB := sB HB hb; (try clear hb); (try clear ho0); obtain ⟨Ao31, co31, eo31⟩ := Kd.R_slice HO133.1; subst eo31))
    go_loopg [47] k1 (fun kq v47 w' => ∃ (x8_2 : List (S53)) (x47_2 : Int), v47 = .int .i64 x47_2 ∧ Aside0 (alloc_Map_permitted.l1 kq l1 x8_2 (t131.length : Int) x47_2 = some (r1, r2)) ∧ Aside0 (kq ≤ k1) ∧ Aside0 (Kd.R k53 53 w' w.heap.size (fun _ => True) (.slice Ao31 t131.length co31) x8_2) ∧ Aside0 (w'.heap[gb128]? = some (.cells #[.int .i64 a0_0, (.slice A0_1 l0_1.length c0_1)] 26 (0, 0))) ∧ Aside0 (Below w.heap.size w w'))
    case atStart => exact ⟨(t131), (0), (by first | rfl | (simp; done) | (simp [*]; done)), H', ⟨Nat.le_refl _⟩, ⟨rU HO133.1⟩, ⟨by refine kP ?_; exact BK128.1⟩, ⟨bS HB.1⟩⟩
    case round =>
     clear H'
     try clear c1
     try clear p1
     try clear q1
     try clear hx1
     try clear c2
     try clear p2
     try clear c3
     try clear c4
     try clear c4b0
     try clear c5
     try clear c5b0
     try clear c6
     try clear c6b0
     try clear p6
     try clear c7
     try clear c7b0
     try clear c9
     try clear c11
     try clear c11b0
     try clear p12
     try clear q12
     try clear hx12
     try clear c13
     try clear c15
     try clear c15b0
     try clear c17
     try clear c20
     try clear c20b0
     try clear c22
     try clear c26
     try clear hcz10_0
     try clear hcz10_1
     try clear hcz10_2
     try clear hcz14_0
     try clear hcz14_1
     try clear hcz14_2
     try clear hcz18_0
     try clear hcz18_1
     try clear hcz18_2
     try clear hcz19_0
     try clear hcz19_1
     try clear hcz23_0
     try clear hcz23_1
     try clear hcz23_2
     try clear hcz24_0
     try clear hcz24_1
     try clear hcz27_0
     try clear hcz27_1
     try clear hcz27_2
     try clear hcz28_0
     try clear hcz28_1
     try clear hfz10_0
     try clear hfz10_1
     try clear hfz10_2
     try clear hfz14_0
     try clear hfz14_1
     try clear hfz14_2
     try clear hfz18_0
     try clear hfz18_1
     try clear hfz18_2
     try clear hfz19_0
     try clear hfz19_1
     try clear hfz23_0
     try clear hfz23_1
     try clear hfz23_2
     try clear hfz24_0
     try clear hfz24_1
     try clear hfz27_0
     try clear hfz27_1
     try clear hfz27_2
     try clear hfz28_0
     try clear hfz28_1
     try clear hx129_0
     try clear hx129_1
     try clear hx129_2
     try clear p129
     try clear p2
     try clear q129
     obtain ⟨x8_2, x47_2, rfl, HA, HK2, HO_8, BK128, HB⟩ := hrel
     have hl8_2 := (Kd.R_reads' HO_8.1).1
     rw [hl8_2] at HO_8
     (try simp only [hl8_2])
     (try simp only [hl8_2] at BK128)
     cases gk with
     | zero => exact absurd HA.1 (by simp [alloc_Map_permitted.l1])
     | succ k2 =>
      have H := HA.1
      clear HA
      simp only [alloc_Map_permitted.l1] at H
      by_cases c32 : x47_2 < (t131.length : Int)
      ·
       rw [if_pos c32] at H
       have c32b0 := decide_eq_true c32
       clear c32
       by_cases c33 : 0 ≤ x47_2
       ·
        rw [if_pos c33] at H
        have c33b0 := decide_eq_true c33
        clear c33
        by_cases c34 : x47_2 < (x8_2.length : Int)
        ·
         rw [if_pos c34] at H
         have c34b0 := decide_eq_true c34
         clear c34
         obtain ⟨y134, hy134⟩ : ∃ y_ : List (S53), y_ = (x8_2.set (x47_2 : Int).toNat (⟨0, (rd_T53 x8_2 x47_2).f1, (rd_T53 x8_2 x47_2).f2⟩ : S53)) := ⟨_, rfl⟩
         replace H : (alloc_Map_permitted.l1 k2 l1 y134 (t131.length : Int) (wrap64 (x47_2 + 1))) = some (r1, r2) := by first | (rw [hy134]; exact H) | exact H
         have Ny134 := Aside0.mk hy134
         clear hy134
         have H' := Aside0.mk H
         clear H
         have p35 : 0 ≤ (x47_2 : Int) := dT
         have q35 : (x47_2 : Int) < ((x8_2.length : Int) : Int) := dT
         obtain ⟨go35, co35, eo35, gb35, gl35, cl35, HG35⟩ := Kd.R_form HO_8.1 (by omega)
         (first | cases eo35 | (injection eo35 with ea_ en_ ec_; (first | subst ea_ | (injection ea_ with ea_; subst ea_)); subst ec_; clear en_))
         have GB35 := Aside0.mk gb35
         have GG35 := Aside0.mk HG35
         clear gb35 gl35 HG35
         obtain ⟨ce35, hcl35, hM35, hcc35, hfr35⟩ := Kd.R_elem HO_8.1 z53 (x47_2 : Int) p35 q35
         obtain rfl := k53_openM hM35
         have hx35_0 : wr.cell? ⟨go35, (x47_2 : Int).toNat * 3, none⟩ = some (.int .i64 ((rd_T53 x8_2 x47_2).f0)) := hcc35 0 _ rfl
         have hx35_1 : wr.cell? ⟨go35, (x47_2 : Int).toNat * 3 + 1, none⟩ = some (.int .i64 ((rd_T53 x8_2 x47_2).f1)) := hcc35 1 _ rfl
         have hx35_2 : wr.cell? ⟨go35, (x47_2 : Int).toNat * 3 + 2, none⟩ = some (.int .i64 ((rd_T53 x8_2 x47_2).f2)) := hcc35 2 _ rfl
         have hf35_0 : wr.frozen? ⟨go35, (x47_2 : Int).toNat * 3, none⟩ = false := hfr35 0
         have hf35_1 : wr.frozen? ⟨go35, (x47_2 : Int).toNat * 3 + 1, none⟩ = false := hfr35 1
         have hf35_2 : wr.frozen? ⟨go35, (x47_2 : Int).toNat * 3 + 2, none⟩ = false := hfr35 2
         clear hcl35 hcc35 hfr35 hM35
         replace p35 := eq_true p35
         replace q35 := eq_true q35
         have HX36 := Aa (show Kd.R k53 53 wr w.heap.size (fun _ => True) (.slice (some ⟨go35, 0, none⟩) x8_2.length co31) x8_2 from (rU HO_8.1))
         obtain ⟨ce36, hcl36, hM36, hcc36, hfr36⟩ := Kd.R_elem HX36.1 z53 (x47_2 : Int) (dT) (by have h_ : (x47_2 : Int) < ((x8_2.length : Int) : Int) := dT; first | exact h_ | (have e_ := (Kd.R_reads' HO_8.1).1; omega) | simpa using h_)
         obtain rfl := k53_openM hM36
         have HP36 := Kd.R_seg HX36.1 (x47_2 : Int) (dT) (by have h_ : (x47_2 : Int) < ((x8_2.length : Int) : Int) := dT; first | exact h_ | (have e_ := (Kd.R_reads' HO_8.1).1; omega) | simpa using h_) (seg := [.int .i64 0]) (j := 0) hcl36 hcc36 (show 1 ≤ 3 from by decide) (x' := (⟨0, (rd_T53 x8_2 x47_2).f1, (rd_T53 x8_2 x47_2).f2⟩ : S53)) (k53_mkM _ _ _ (⟨0, (rd_T53 x8_2 x47_2).f1, (rd_T53 x8_2 x47_2).f2⟩ : S53) ) (fun _ hk => hk)
         have hx36_0 := hcc36 0 _ rfl
         (try simp only [show (k53).sz = 3 from rfl, Nat.mul_one, Nat.add_zero] at hx36_0)
         have hf36_0 := hfr36 0
         (try simp only [show (k53).sz = 3 from rfl, Nat.mul_one, Nat.add_zero] at hf36_0)
         clear hcl36 hcc36 hfr36 hM36
         go_wp2_with (first | ((with_reducible refine gT 3 53 ?_); refine sE (wr.setCell ⟨go35, (x47_2 : Int).toNat * 3, none⟩ (.int .i64 0)) ?_; intro w37 hw; have hg : wr.grownBy w37 (some go35) := (by rw [hw]; exact HP36.2); have hp_ : Kd.R k53 53 w37 w.heap.size (fun _ => True) (.slice (some ⟨go35, 0, none⟩) x8_2.length co31) y134 := (by rw [hw, Ny134.1]; exact HP36.1); clear HP36; replace BK128 := Aa (blk_grown (g := gb128) (o := .cells #[.int .i64 a0_0, .slice A0_1 l0_1.length c0_1] 26 (0, 0)) (kU BK128.1) hg (Kd.R_ne HO_8.1 BK128.1 (by decide))); replace HO_8 := Aa (hp_); replace HB := Aa ((by rw [hw]; exact below_set (HB.1) GB35.1 : Below w.heap.size w w37)); clear hg hw hp_))
         (try simp only [← hl8_2])
         go_roundg k2
         case measure => have := HK1.1; have := HK2.1; omega
         case rel => exact ⟨(y134), (wrap64 (x47_2 + 1)), (by first | rfl | (simp; done) | (simp [*]; done)), H', ⟨by have := HK1.1; have := HK2.1; omega⟩, ⟨by (try simp only [hl8_2]); (with_reducible repeat (first | apply Kd.R_alloc | apply Kd.R_drewN | apply Kd.R_drew)); exact HO_8.1⟩, ⟨by (try simp only [hl8_2]); refine kP ?_; exact BK128.1⟩, ⟨bS HB.1⟩⟩
        ·
         rw [if_neg c34] at H
         exact absurd H (by simp)
       ·
        rw [if_neg c33] at H
        exact absurd H (by simp)
      ·
       rw [if_neg c32] at H
       have c32b0 := decide_eq_false c32
       clear c32
       (try simp only [hl8_2] at c32b0)
       replace H := Option.bind_eq_some_iff.mp H
       obtain ⟨t135, A380, H⟩ := H
       replace H : ((alloc_size.f k2 t135).bind fun t138 => ((alloc_size.f k2 l1).bind fun t139 => (some (t135, (t138 == t139))))) = some (r1, r2) := H
       have A38 := Aside0.mk A380
       clear A380
       replace H := Option.bind_eq_some_iff.mp H
       obtain ⟨t138, A390, H⟩ := H
       replace H : ((alloc_size.f k2 l1).bind fun t139 => (some (t135, (t138 == t139)))) = some (r1, r2) := H
       have A39 := Aside0.mk A390
       clear A390
       replace H := Option.bind_eq_some_iff.mp H
       obtain ⟨t139, A400, H⟩ := H
       replace H : (some (t135, (t138 == t139))) = some (r1, r2) := H
       have A40 := Aside0.mk A400
       clear A400
       simp only [Option.some.injEq, Prod.mk.injEq] at H
       obtain ⟨rfl, rfl⟩ := H
       go_wp2_with (first | ((with_reducible refine gC 43 ?_); refine gL 56 Try.func43 #[.slice Ao31 x8_2.length co31] ?_; (with_reducible refine (extent_Runs.calls k2 _ _ x8_2 t135 _ ?side1 ?side2 A38.1).mono ?_); (case side1 => repeat (first | exact (Kd.R_reads' HO_8.1).2.2 | (with_reducible refine Kd.C_alloc ?_ _) | (with_reducible refine Kd.C_drewN ?_ _) | (with_reducible refine Kd.C_drew ?_))); (case side2 => exact (Kd.R_reads' HO_8.1).2.1); rintro e w41 ⟨v136, rfl, ho0, hb⟩; refine ⟨_, rfl, ?_⟩; have HO137 := Aa (Kd.R_lower (Kd.R_new' ho0 (Kd.R_lt (rU HO_8.1))) (below_size (bS HB.1))); replace HO_8 := rE HO_8 ho0 hb; replace BK128 := kB BK128 hb; replace HB := sB HB hb; (try clear hb); (try clear ho0); obtain ⟨Ao42, co42, eo42⟩ := Kd.R_slice HO137.1; subst eo42) | ((with_reducible refine gC 31 ?_); refine gL 59 Try.func31 #[.slice Ao42 t135.length co42] ?_; (with_reducible refine (alloc_size.calls k2 _ _ t135 t138 _ ?side1 ?side2 A39.1).mono ?_); (case side1 => repeat (first | exact (Kd.R_reads' HO137.1).2.2 | (with_reducible refine Kd.C_alloc ?_ _) | (with_reducible refine Kd.C_drewN ?_ _) | (with_reducible refine Kd.C_drew ?_))); (case side2 => exact (Kd.R_reads' HO137.1).2.1); rintro e w43 ⟨rfl, hb⟩; refine ⟨_, rfl, ?_⟩; replace HO_8 := rB HO_8 hb; replace HO137 := rB HO137 hb; replace BK128 := kB BK128 hb; replace HB := sB HB hb; (try clear hb)) | ((with_reducible refine gC 31 ?_); refine gL 61 Try.func31 #[.slice A1 l1.length c1] ?_; (with_reducible refine (alloc_size.calls k2 _ _ l1 t139 _ ?side1 ?side2 A40.1).mono ?_); (case side1 => exact cU (Kd.C_below HR1.1 HB.1)); (case side2 => exact HC1.1); rintro e w44 ⟨rfl, hb⟩; refine ⟨_, rfl, ?_⟩; replace HO_8 := rB HO_8 hb; replace HO137 := rB HO137 hb; replace BK128 := kB BK128 hb; replace HB := sB HB hb; (try clear hb)))
       go_ret2
       exact ⟨_, fT, rU (Kd.R_mono HO137.1 (fun _ hk => trivial)), bS HB.1⟩

/-! ### alloc_end: function 36 -/
def alloc_end.f (a0_0 : Int) (a0_1 : Int) (a0_2 : Int) : Option (Int) := some (wrap64 (a0_2 + a0_1))
set_option maxHeartbeats 8000000 in
set_option maxRecDepth 100000 in
theorem alloc_end.calls (a0_0 : Int) (a0_1 : Int) (a0_2 : Int) (r : Int) (w : World) (h : alloc_end.f a0_0 a0_1 a0_2 = some r) :
  Calls Try.prog 36 #[.agg #[.int .i64 a0_0, .int .i64 a0_1, .int .i64 a0_2]] w fun e w' => e = .returned (.int .i64 r) ∧ Below w.heap.size w w' := by
 have hu53 := Try.underlying53
 have HB := Aa (Below.refl w.heap.size w)
 have H : (some (wrap64 (a0_2 + a0_1))) = some r := h
 clear h
 obtain rfl := Option.some.inj H
 go_enter Try.func36, Try.ntmps36
 go_wp2_with (first | ((with_reducible refine gD 1 ?_); refine bE #[.int .i64 a0_0, .int .i64 a0_1, .int .i64 a0_2] 53 ?_; intro gb140 hg w2 hbox hb; have BK140 := Aa (hbox); have GW140 := gU HB hg; have GE140 := gU HB hg; have iE140 := Nonempty.intro GE140.1; replace HB := sU HB hb; clear hb hbox hg; have hcz3_0 : w2.cell? ⟨gb140, 0, none⟩ = some (.int .i64 a0_0) := cC BK140 0; have hcz3_1 : w2.cell? ⟨gb140, 1, none⟩ = some (.int .i64 a0_1) := cC BK140 1; have hcz3_2 : w2.cell? ⟨gb140, 2, none⟩ = some (.int .i64 a0_2) := cC BK140 2; have hfz3_0 := fC BK140 0; have hfz3_1 := fC BK140 1; have hfz3_2 := fC BK140 2))
 go_ret
 exact ⟨fT, bS HB.1⟩

/-! ### alloc_run: function 61 -/
def alloc_run.f (a0 : Int) (a1 : Int) : Option (Int × Int × Int) := some (0, wrap64 (a1 - a0), a0)
set_option maxHeartbeats 8000000 in
set_option maxRecDepth 100000 in
theorem alloc_run.calls (a0 : Int) (a1 : Int) (r1 : Int) (r2 : Int) (r3 : Int) (w : World) (h : alloc_run.f a0 a1 = some (r1, r2, r3)) :
  Calls Try.prog 61 #[.int .i64 a0, .int .i64 a1] w fun e w' => e = .returned (.agg #[.int .i64 r1, .int .i64 r2, .int .i64 r3]) ∧ Below w.heap.size w w' := by
 have hu53 := Try.underlying53
 have HB := Aa (Below.refl w.heap.size w)
 have H : (some (0, wrap64 (a1 - a0), a0)) = some (r1, r2, r3) := h
 clear h
 simp only [Option.some.injEq, Prod.mk.injEq] at H
 obtain ⟨rfl, rfl, rfl⟩ := H
 go_enter Try.func61, Try.ntmps61
 go_wp2_with (first | ((with_reducible refine gD 4 ?_); refine bE #[.int .i64 0, .int .i64 0, .int .i64 0] 53 ?_; intro gb141 hg w3 hbox hb; have BK141 := Aa (hbox); have GW141 := gU HB hg; have GE141 := gU HB hg; have iE141 := Nonempty.intro GE141.1; replace HB := sU HB hb; clear hb hbox hg; have hcz4_0 : w3.cell? ⟨gb141, 0, none⟩ = some (.int .i64 0) := cC BK141 0; have hcz4_1 : w3.cell? ⟨gb141, 1, none⟩ = some (.int .i64 0) := cC BK141 1; have hcz4_2 : w3.cell? ⟨gb141, 2, none⟩ = some (.int .i64 0) := cC BK141 2; have hfz4_0 := fC BK141 0; have hfz4_1 := fC BK141 1; have hfz4_2 := fC BK141 2))
 refine bodyPost_ret (results_cell_row rfl _ _ gb141 53 #[.int .i64 0, .int .i64 (wrap64 (a1 - a0)), .int .i64 a0] (0, 0) _ rfl (by refine kP ?_; refine blk_put (cs := #[.int .i64 0, .int .i64 (wrap64 (a1 - a0)), .int .i64 0]) ?_ 2 _ rfl; refine kP ?_; refine blk_put (cs := #[.int .i64 0, .int .i64 0, .int .i64 0]) ?_ 1 _ rfl; refine kP ?_; refine blk_put (cs := #[.int .i64 0, .int .i64 0, .int .i64 0]) ?_ 0 _ rfl; refine kP ?_; exact BK141.1) Try.underlying53 rfl (by kernel_rfl)) rfl ?_
 exact ⟨fT, bS HB.1⟩

end Go.Proofs.Ytcjpikjbjehjeaa.PAllocB
