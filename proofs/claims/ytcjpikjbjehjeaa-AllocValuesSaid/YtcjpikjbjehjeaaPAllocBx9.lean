-- Written for this claim by a program of this session (wip/), out of the translation's own print: Lean checks it
import Derived.Test.YtcjpikjbjehjeaaPAllocBx0
import Derived.Test.YtcjpikjbjehjeaaWRepsOne
import Derived.Test.YtcjpikjbjehjeaaPAllocBx1
import Derived.Test.YtcjpikjbjehjeaaPAllocBx2
import Derived.Test.YtcjpikjbjehjeaaPAllocBx7
import Derived.Test.YtcjpikjbjehjeaaPAllocBx8
namespace Go.Proofs.Ytcjpikjbjehjeaa.PAllocB
open Go.RowKit Go.Proofs.YtcjpikjbjehjeaaW.PrintWords Go.Proofs.YtcjpikjbjehjeaaW.PrintLast Go.Proofs.YtcjpikjbjehjeaaW.PrintMore
attribute [local go_sem] max2_int min2_int max_two min_two max_three min_three max_four min_four   -- for this text's walks alone
set_option linter.unusedVariables false
set_option linter.unusedSimpArgs false

attribute [local go_sem high] eqA53
/-! ### alloc_Map_Take: function 12 -/
def alloc_Map_Take.j0 : Nat → Int → Int → Bool → Int → List (S53) → Option ((List (S53)) × Int × (List (S53)) × Int)
 | 0, _, _, _, _, _ => none
 | k + 1, x1, x2, x15, x241000, x241001 => if x15 = true then (some (([] : List (S53)), 0, ([] : List (S53)), 1)) else ((alloc_Map_Free.f k x241000 x241001).bind fun t242 => (if x1 > t242 then (some (([] : List (S53)), 0, ([] : List (S53)), 11)) else (if x1 = 0 then (some (([] : List (S53)), x241000, x241001, 0)) else ((alloc_behind.f k x241000 x241001 x1 x2).bind fun bt243 => (if bt243.2 = true then ((alloc_Map_Mark.f k x241000 x241001 bt243.1).bind fun bt247 => (some (bt243.1, bt247.1, bt247.2.1, bt247.2.2))) else ((alloc_anywhere.f x241000 x241001 x1 x2).bind fun bt253 => (if bt253.2 = true then ((alloc_Map_Mark.f k x241000 x241001 bt253.1).bind fun bt257 => (some (bt253.1, bt257.1, bt257.2.1, bt257.2.2))) else ((alloc_pieces.f k x241000 x241001 x1 x2).bind fun bt263 => (if bt263.2 = true then ((alloc_Map_Mark.f k x241000 x241001 bt263.1).bind fun bt267 => (some (bt263.1, bt267.1, bt267.2.1, bt267.2.2))) else (some (([] : List (S53)), 0, ([] : List (S53)), 11)))))))))))
def alloc_Map_Take.f (k : Nat) (a0_0 : Int) (l0_1 : List (S53)) (a1 : Int) (a2 : Int) : Option ((List (S53)) × Int × (List (S53)) × Int) := if a1 < 0 then (alloc_Map_Take.j0 k a1 a2 true a0_0 l0_1) else (if a2 < 0 then (alloc_Map_Take.j0 k a1 a2 true a0_0 l0_1) else (alloc_Map_Take.j0 k a1 a2 (decide (a2 > a0_0)) a0_0 l0_1))
theorem alloc_Map_Take.mono_l : ∀ k, (∀ y0 y1 y2 y3 y4, LeO (alloc_Map_Take.j0 k y0 y1 y2 y3 y4) (alloc_Map_Take.j0 (k + 1) y0 y1 y2 y3 y4))
 | 0 => fun _ _ _ _ _ r h => by simp [alloc_Map_Take.j0] at h
 | k + 1 => by
  have ih0 := alloc_Map_Take.mono_l k
  ·
   intro y0 y1 y2 y3 y4
   unfold alloc_Map_Take.j0
   repeat' first
   | (with_reducible exact ih0 _ _ _ _ _)
   | (with_reducible exact alloc_Map_Free.mono _ _ _)
   | (with_reducible exact alloc_Map_Mark.mono _ _ _ _)
   | (with_reducible exact alloc_behind.mono _ _ _ _ _)
   | (with_reducible exact alloc_pieces.mono _ _ _ _ _)
   | (with_reducible exact LeO.refl _)
   | (with_reducible exact LeO.none _)
   | (with_reducible refine LeO.ite ?_ ?_)
   | (with_reducible refine LeO.bind ?_ (fun _ => ?_))
   | exact ih0 _ _ _ _ _
   | exact alloc_Map_Free.mono _ _ _
   | exact alloc_Map_Mark.mono _ _ _ _
   | exact alloc_behind.mono _ _ _ _ _
   | exact alloc_pieces.mono _ _ _ _ _
   | exact LeO.none _
   | refine LeO.ite ?_ ?_
   | refine LeO.bind ?_ (fun _ => ?_)
theorem alloc_Map_Take.mono : ∀ a0 a1 a2 a3 k, LeO (alloc_Map_Take.f k a0 a1 a2 a3) (alloc_Map_Take.f (k + 1) a0 a1 a2 a3) := by
 intro a0 a1 a2 a3 k
 have ih0 := alloc_Map_Take.mono_l k
 unfold alloc_Map_Take.f
 repeat' first
   | (with_reducible exact ih0 _ _ _ _ _)
   | (with_reducible exact alloc_Map_Free.mono _ _ _)
   | (with_reducible exact alloc_Map_Mark.mono _ _ _ _)
   | (with_reducible exact alloc_behind.mono _ _ _ _ _)
   | (with_reducible exact alloc_pieces.mono _ _ _ _ _)
   | (with_reducible exact LeO.refl _)
   | (with_reducible exact LeO.none _)
   | (with_reducible refine LeO.ite ?_ ?_)
   | (with_reducible refine LeO.bind ?_ (fun _ => ?_))
   | exact ih0 _ _ _ _ _
   | exact alloc_Map_Free.mono _ _ _
   | exact alloc_Map_Mark.mono _ _ _ _
   | exact alloc_behind.mono _ _ _ _ _
   | exact alloc_pieces.mono _ _ _ _ _
   | exact LeO.none _
   | refine LeO.ite ?_ ?_
   | refine LeO.bind ?_ (fun _ => ?_)
set_option maxHeartbeats 8000000 in
set_option maxRecDepth 100000 in
theorem alloc_Map_Take.calls (k : Nat) (a0_0 : Int) (P0_1_ : Nat → Prop) (A0_1 : Option Addr) (c0_1 : Nat) (l0_1 : List (S53)) (a1 : Int) (a2 : Int) (r1 : List (S53)) (r2 : Int) (r3 : List (S53)) (r4 : Int) (w : World) (hs0_1 : Kd.V k53 53 w w.heap.size (fun k_ => P0_1_ k_) (.slice A0_1 l0_1.length c0_1) l0_1) (h : alloc_Map_Take.f k a0_0 l0_1 a1 a2 = some (r1, r2, r3, r4)) :
  Calls Try.prog 12 #[.agg #[.int .i64 a0_0, .slice A0_1 l0_1.length c0_1], .int .i64 a1, .int .i64 a2] w fun e w' => ∃ v0_ v2_ : Value, e = .returned (.tuple #[v0_, .agg #[.int .i64 r2, v2_], .int .i64 r4]) ∧ Kd.R k53 53 w' w.heap.size (fun k_ => (w.heap.size ≤ k_)) v0_ r1 ∧ Kd.V k53 53 w' w.heap.size (fun k_ => (P0_1_ k_ ∨ w.heap.size ≤ k_) ∧ some k_ ≠ (v0_ : Value).ownBlock) v2_ r3 ∧ Below w.heap.size w w' := by
 have qi0 : ∀ W : World, (Instr.index 63 (.agg #[.func (.func 28) #[] #[], .func (.func 29) #[] #[], .func (.func 30) #[] #[]]) (.int .i64 0)).run Try.prog W = .ok (.func (.func 28) #[] #[]) W := fun W => by kernel_rfl
 have qi1 : ∀ W : World, (Instr.index 63 (.agg #[.func (.func 28) #[] #[], .func (.func 29) #[] #[], .func (.func 30) #[] #[]]) (.int .i64 1)).run Try.prog W = .ok (.func (.func 29) #[] #[]) W := fun W => by kernel_rfl
 have qi2 : ∀ W : World, (Instr.index 63 (.agg #[.func (.func 28) #[] #[], .func (.func 29) #[] #[], .func (.func 30) #[] #[]]) (.int .i64 2)).run Try.prog W = .ok (.func (.func 30) #[] #[]) W := fun W => by kernel_rfl
 have hu26 := Try.underlying26
 have HO0_1 := Aa (show Kd.V k53 53 w w.heap.size (fun k_ => (P0_1_ k_ ∨ w.heap.size ≤ k_)) (.slice A0_1 l0_1.length c0_1) l0_1 from Kd.V_mono hs0_1 (fun k_ hk => .inl hk))
 have HB := Aa (Below.refl w.heap.size w)
 have H : (if a1 < 0 then (alloc_Map_Take.j0 k a1 a2 true a0_0 l0_1) else (if a2 < 0 then (alloc_Map_Take.j0 k a1 a2 true a0_0 l0_1) else (alloc_Map_Take.j0 k a1 a2 (decide (a2 > a0_0)) a0_0 l0_1))) = some (r1, r2, r3, r4) := h
 clear h
 have HC4 := Aside0.mk H
 clear H
 go_enter Try.func12, Try.ntmps12
 go_upto_region 1 with (first | ((with_reducible refine gD 3 ?_); refine bE #[.int .i64 a0_0, .slice A0_1 l0_1.length c0_1] 26 ?_; intro gb240 hg w5 hbox hb; replace HO0_1 := vG HO0_1 hg hb; have BK240 := Aa (hbox); have GW240 := gU HB hg; have GE240 := gU HB hg; have iE240 := Nonempty.intro GE240.1; replace HB := sU HB hb; clear hb hbox hg) | ((with_reducible refine gD 7 ?_); refine bE #[.int .i64 0, .slice none 0 0] 26 ?_; intro gb241 hg w6 hbox hb; replace HO0_1 := vG HO0_1 hg hb; have BK241 := Aa (hbox); have GW241 := gS HB hg; have GE241 := gS HB hg; have iE241 := Nonempty.intro GE241.1; replace HB := sB HB hb; have NB240_241 := nL BK240 hg; have NB241_240 := nG BK240 hg; replace BK240 := kB BK240 hb; clear hb hbox hg))
 (try simp only [Act.put, List.setIfInBounds_toArray, List.set_cons_zero, List.set_cons_succ])
 go_cut [15] (fun v15 wc => ∃ (kq : Nat) (x15_3 : Bool), v15 = .bool x15_3 ∧ Aside0 (alloc_Map_Take.j0 kq a1 a2 x15_3 a0_0 l0_1 = some (r1, r2, r3, r4)) ∧ Aside0 (kq ≤ k) ∧ Aside0 (Kd.V k53 53 wc w.heap.size (fun k_ => (P0_1_ k_ ∨ w.heap.size ≤ k_) ∧ k_ ≠ gb240 ∧ k_ ≠ gb241) (.slice A0_1 l0_1.length c0_1) l0_1) ∧ Aside0 (wc.heap[gb240]? = some (.cells #[.int .i64 a0_0, (.slice A0_1 l0_1.length c0_1)] 26 (0, 0))) ∧ Aside0 (wc.heap[gb241]? = some (.cells #[.int .i64 0, (.slice none 0 0)] 26 (0, 0))) ∧ Aside0 (Below w.heap.size w wc))
 case first =>
  have H := HC4.1
  clear HC4
  by_cases c7 : a1 < 0
  ·
   rw [if_pos c7] at H
   have c7b0 := decide_eq_true c7
   clear c7
   (first | rw [c7b0] | (simp only [i64_w, i32_w]; rw [c7b0]) | skip)
   have H' := Aside0.mk H
   clear H
   go_wp2
   go_meet
   case rel => exact ⟨_, (true), (by first | rfl | (simp; done) | (simp [*]; done)), H', ⟨by first | omega | exact Nat.le_refl _⟩, ⟨vU (Kd.V_mono HO0_1.1 (fun _ hk => ⟨hk.1.1, ⟨hk.1.2, hk.2⟩⟩))⟩, ⟨by refine kP ?_; exact BK240.1⟩, ⟨by refine kP ?_; exact BK241.1⟩, ⟨bS HB.1⟩⟩
  ·
   rw [if_neg c7] at H
   have c7b0 := decide_eq_false c7
   clear c7
   (first | rw [c7b0] | (simp only [i64_w, i32_w]; rw [c7b0]) | skip)
   by_cases c8 : a2 < 0
   ·
    rw [if_pos c8] at H
    have c8b0 := decide_eq_true c8
    clear c8
    have H' := Aside0.mk H
    clear H
    go_wp2
    go_meet
    case rel => exact ⟨_, (true), (by first | rfl | (simp; done) | (simp [*]; done)), H', ⟨by first | omega | exact Nat.le_refl _⟩, ⟨vU (Kd.V_mono HO0_1.1 (fun _ hk => ⟨hk.1.1, ⟨hk.1.2, hk.2⟩⟩))⟩, ⟨by refine kP ?_; exact BK240.1⟩, ⟨by refine kP ?_; exact BK241.1⟩, ⟨bS HB.1⟩⟩
   ·
    rw [if_neg c8] at H
    have c8b0 := decide_eq_false c8
    clear c8
    have H' := Aside0.mk H
    clear H
    have hnb9 := NB240_241.1
    have hnc9 := NB241_240.1
    have hcz10_0 : w6.cell? ⟨gb240, 0, none⟩ = some (.int .i64 a0_0) := cC BK240 0
    have hcz10_1 : w6.cell? ⟨gb240, 1, none⟩ = some (.slice A0_1 l0_1.length c0_1) := cC BK240 1
    have hfz10_0 := fC BK240 0
    have hfz10_1 := fC BK240 1
    go_wp2
    go_meet
    case rel => exact ⟨_, (decide (a2 > a0_0)), (by first | rfl | (simp; done) | (simp [*]; done)), H', ⟨by first | omega | exact Nat.le_refl _⟩, ⟨vU (Kd.V_mono HO0_1.1 (fun _ hk => ⟨hk.1.1, ⟨hk.1.2, hk.2⟩⟩))⟩, ⟨by refine kP ?_; exact BK240.1⟩, ⟨by refine kP ?_; exact BK241.1⟩, ⟨bS HB.1⟩⟩
 case rest =>
  clear HC4
  try clear c1
  try clear p2
  try clear c7
  try clear c7b0
  try clear c8
  try clear c8b0
  try clear c9
  try clear hcz10_0
  try clear hcz10_1
  try clear hfz10_0
  try clear hfz10_1
  obtain ⟨kq, x15_3, rfl, HA, HJ3, HO_241001, BK240, BK241, HB⟩ := hcut
  cases kq with
  | zero => exact absurd HA.1 (by simp [alloc_Map_Take.j0])
  | succ kj3 =>
   have H := HA.1
   clear HA
   simp only [alloc_Map_Take.j0] at H
   by_cases c11 : x15_3 = true
   ·
    subst c11
    have H1 : (some (([] : List (S53)), 0, ([] : List (S53)), 1)) = some (r1, r2, r3, r4) := by rw [if_pos rfl] at H; exact H
    clear H
    have H := H1
    clear H1
    simp only [Option.some.injEq, Prod.mk.injEq] at H
    obtain ⟨rfl, rfl, rfl, rfl⟩ := H
    have hnb12 := NB241_240.1
    have hnc12 := NB240_241.1
    have hcz13_0 : wc.cell? ⟨gb241, 0, none⟩ = some (.int .i64 0) := cC BK241 0
    have hcz13_1 : wc.cell? ⟨gb241, 1, none⟩ = some (.slice none 0 0) := cC BK241 1
    have hfz13_0 := fC BK241 0
    have hfz13_1 := fC BK241 1
    go_wp2
    refine bodyPost_ret (results_list (rs := [.tmp 6, .cell 7 26, .tmp 8]) rfl (by simp) (.tmp (.cell gb241 26 #[.int .i64 0, .slice none 0 0] (0, 0) _ rfl (by refine kP ?_; refine blk_put (cs := #[.int .i64 0, .slice none 0 0]) ?_ 1 _ rfl; refine kP ?_; refine blk_put (cs := #[.int .i64 0, .slice none 0 0]) ?_ 0 _ rfl; refine kP ?_; exact BK241.1) Try.underlying26 rfl (by kernel_rfl) (.tmp .nil)))) rfl ?_
    exact ⟨_, _, fT, by first | exact Kd.R_nil _ _ _ _ _ | exact Kd.N_nil _ _ _ _ _ | exact Kd.V_nil _ _ _ _ _ | exact Kd.Q_nil _ _ _ _ _ | exact Kd.S_nil _ _ _ _ _, Kd.V_nil _ _ _ _ _, bS HB.1⟩
   ·
    replace c11 := Bool.eq_false_iff.mpr c11
    subst c11
    have H1 : ((alloc_Map_Free.f kj3 a0_0 l0_1).bind fun t242 => (if a1 > t242 then (some (([] : List (S53)), 0, ([] : List (S53)), 11)) else (if a1 = 0 then (some (([] : List (S53)), a0_0, l0_1, 0)) else ((alloc_behind.f kj3 a0_0 l0_1 a1 a2).bind fun bt243 => (if bt243.2 = true then ((alloc_Map_Mark.f kj3 a0_0 l0_1 bt243.1).bind fun bt247 => (some (bt243.1, bt247.1, bt247.2.1, bt247.2.2))) else ((alloc_anywhere.f a0_0 l0_1 a1 a2).bind fun bt253 => (if bt253.2 = true then ((alloc_Map_Mark.f kj3 a0_0 l0_1 bt253.1).bind fun bt257 => (some (bt253.1, bt257.1, bt257.2.1, bt257.2.2))) else ((alloc_pieces.f kj3 a0_0 l0_1 a1 a2).bind fun bt263 => (if bt263.2 = true then ((alloc_Map_Mark.f kj3 a0_0 l0_1 bt263.1).bind fun bt267 => (some (bt263.1, bt267.1, bt267.2.1, bt267.2.2))) else (some (([] : List (S53)), 0, ([] : List (S53)), 11))))))))))) = some (r1, r2, r3, r4) := by rw [if_neg (show ¬ (false = true) by decide)] at H; exact H
    clear H
    have H := H1
    clear H1
    replace H := Option.bind_eq_some_iff.mp H
    obtain ⟨t242, A140, H⟩ := H
    replace H : (if a1 > t242 then (some (([] : List (S53)), 0, ([] : List (S53)), 11)) else (if a1 = 0 then (some (([] : List (S53)), a0_0, l0_1, 0)) else ((alloc_behind.f kj3 a0_0 l0_1 a1 a2).bind fun bt243 => (if bt243.2 = true then ((alloc_Map_Mark.f kj3 a0_0 l0_1 bt243.1).bind fun bt247 => (some (bt243.1, bt247.1, bt247.2.1, bt247.2.2))) else ((alloc_anywhere.f a0_0 l0_1 a1 a2).bind fun bt253 => (if bt253.2 = true then ((alloc_Map_Mark.f kj3 a0_0 l0_1 bt253.1).bind fun bt257 => (some (bt253.1, bt257.1, bt257.2.1, bt257.2.2))) else ((alloc_pieces.f kj3 a0_0 l0_1 a1 a2).bind fun bt263 => (if bt263.2 = true then ((alloc_Map_Mark.f kj3 a0_0 l0_1 bt263.1).bind fun bt267 => (some (bt263.1, bt267.1, bt267.2.1, bt267.2.2))) else (some (([] : List (S53)), 0, ([] : List (S53)), 11)))))))))) = some (r1, r2, r3, r4) := H
    have A14 := Aside0.mk A140
    clear A140
    by_cases c15 : a1 > t242
    ·
     rw [if_pos c15] at H
     have c15b0 := decide_eq_true c15
     clear c15
     simp only [Option.some.injEq, Prod.mk.injEq] at H
     obtain ⟨rfl, rfl, rfl, rfl⟩ := H
     have hnb16 := NB240_241.1
     have hnc16 := NB241_240.1
     have hcz17_0 : wc.cell? ⟨gb240, 0, none⟩ = some (.int .i64 a0_0) := cC BK240 0
     have hcz17_1 : wc.cell? ⟨gb240, 1, none⟩ = some (.slice A0_1 l0_1.length c0_1) := cC BK240 1
     have hfz17_0 := fC BK240 0
     have hfz17_1 := fC BK240 1
     go_wp2_with (first | ((with_reducible refine gC 15 ?_); refine gL 32 Try.func15 #[.agg #[.int .i64 a0_0, .slice A0_1 l0_1.length c0_1]] ?_; (with_reducible refine (alloc_Map_Free.calls kj3 a0_0 _ _ l0_1 t242 _ ?side1 ?side2 A14.1).mono ?_); (case side1 => repeat (first | exact (Kd.V_reads' HO_241001.1).2.2 | (with_reducible refine Kd.C_alloc ?_ _) | (with_reducible refine Kd.C_drewN ?_ _) | (with_reducible refine Kd.C_drew ?_))); (case side2 => exact (Kd.V_reads' HO_241001.1).2.1); rintro e w18 ⟨rfl, hb⟩; refine ⟨_, rfl, ?_⟩; replace HO_241001 := vB HO_241001 hb; replace BK240 := kB BK240 hb; replace BK241 := kB BK241 hb; replace HB := sB HB hb; (try clear hb); have hcz19_0 : w18.cell? ⟨gb241, 0, none⟩ = some (.int .i64 0) := cC BK241 0; have hcz19_1 : w18.cell? ⟨gb241, 1, none⟩ = some (.slice none 0 0) := cC BK241 1; have hfz19_0 := fC BK241 0; have hfz19_1 := fC BK241 1))
     refine bodyPost_ret (results_list (rs := [.tmp 6, .cell 7 26, .tmp 8]) rfl (by simp) (.tmp (.cell gb241 26 #[.int .i64 0, .slice none 0 0] (0, 0) _ rfl (by refine kP ?_; refine blk_put (cs := #[.int .i64 0, .slice none 0 0]) ?_ 1 _ rfl; refine kP ?_; refine blk_put (cs := #[.int .i64 0, .slice none 0 0]) ?_ 0 _ rfl; refine kP ?_; exact BK241.1) Try.underlying26 rfl (by kernel_rfl) (.tmp .nil)))) rfl ?_
     exact ⟨_, _, fT, by first | exact Kd.R_nil _ _ _ _ _ | exact Kd.N_nil _ _ _ _ _ | exact Kd.V_nil _ _ _ _ _ | exact Kd.Q_nil _ _ _ _ _ | exact Kd.S_nil _ _ _ _ _, Kd.V_nil _ _ _ _ _, bS HB.1⟩
    ·
     rw [if_neg c15] at H
     have c15b0 := decide_eq_false c15
     clear c15
     by_cases c20 : a1 = 0
     ·
      rw [if_pos c20] at H
      have c20b0 : (a1 == 0) = true := beq_iff_eq.mpr c20
      have c20b1 : (a1 != 0) = false := bne_eq_false_iff_eq.mpr c20
      clear c20
      simp only [Option.some.injEq, Prod.mk.injEq] at H
      obtain ⟨rfl, rfl, rfl, rfl⟩ := H
      have hnb21 := NB240_241.1
      have hnc21 := NB241_240.1
      have hcz22_0 : wc.cell? ⟨gb240, 0, none⟩ = some (.int .i64 a0_0) := cC BK240 0
      have hcz22_1 : wc.cell? ⟨gb240, 1, none⟩ = some (.slice A0_1 l0_1.length c0_1) := cC BK240 1
      have hfz22_0 := fC BK240 0
      have hfz22_1 := fC BK240 1
      try go_wp2_with (first | ((with_reducible refine gC 15 ?_); refine gL 32 Try.func15 #[.agg #[.int .i64 a0_0, .slice A0_1 l0_1.length c0_1]] ?_; (with_reducible refine (alloc_Map_Free.calls kj3 a0_0 _ _ l0_1 t242 _ ?side1 ?side2 A14.1).mono ?_); (case side1 => repeat (first | exact (Kd.V_reads' HO_241001.1).2.2 | (with_reducible refine Kd.C_alloc ?_ _) | (with_reducible refine Kd.C_drewN ?_ _) | (with_reducible refine Kd.C_drew ?_))); (case side2 => exact (Kd.V_reads' HO_241001.1).2.1); rintro e w23 ⟨rfl, hb⟩; refine ⟨_, rfl, ?_⟩; replace HO_241001 := vB HO_241001 hb; replace BK240 := kB BK240 hb; replace BK241 := kB BK241 hb; replace HB := sB HB hb; (try clear hb)))
      replace HO_241001 := Aa (Kd.V_drew HO_241001.1)
      replace BK240 := Aa (blk_drew BK240.1)
      replace BK241 := Aa (blk_drew BK241.1)
      replace HB := Aa (below_drew1 HB.1)
      refine start_ (n := 4) (S := fun w' => w'.cell? ⟨gb240, 0, none⟩ = some (.int .i64 a0_0) ∧ w'.cell? ⟨gb240, 1, none⟩ = some (.slice A0_1 l0_1.length c0_1)) (ds := []) (bm 4 0) (by kernel_rfl) rfl (bm0 _) ⟨cC BK240 0, cC BK240 1⟩ (fun hHeld => ?_)
      generalize w23.drew = w24 at HO_241001 BK240 BK241 HB hHeld ⊢
      refine pure_ (i := 1) (N := some 6) (v := ?_) (a' := ?_) (bm 4 2) rfl rfl (by kernel_rfl) (fun _ _ _ h => h) (Or.inl ⟨by rfl, ?_⟩) ?_ ?_
      rotate_left
      ·
       intro w'; go_simp; with_reducible rfl
      rotate_left
      ·
       simp only [AP]; rfl
      refine take_ (i := 0) (N := some 38) (v := ?_) (a' := ?_) (bm 4 3) rfl rfl (by kernel_rfl) (fun _ _ _ h => h) (Or.inl ⟨by rfl, ?_⟩) hHeld ?_ ?_
      rotate_left
      ·
       rintro w' ⟨s0, s1⟩
       go_simp; with_reducible rfl
      rotate_left
      ·
       simp only [AP]; rfl
      refine one_ (i := 2) (N := none) (bm 4 7) rfl rfl (by kernel_rfl) (by decide) (fun K hK => ?_)
      have hs25 : w24.cell? ⟨gb241, 0, none⟩ = some (.int .i64 0) := cC BK241 0
      have hfs25 := fC BK241 0
      have hns25_0 := NB240_241.1
      have hms25_0 := NB241_240.1
      have hs26 : w24.cell? ⟨gb241, 1, none⟩ = some (.slice none 0 0) := cC BK241 1
      have hfs26 := fC BK241 1
      have hns26_0 := NB240_241.1
      have hms26_0 := NB241_240.1
      refine skip_ (w1 := ?_) (by rfl) rfl ?_ ?_
      rotate_left
      ·
       go_simp; rfl
      refine hK.out _ _ ⟨((cell_far (p := ⟨gb241, _, none⟩) NB240_241.1 _).trans (((cell_far (p := ⟨gb241, _, none⟩) NB240_241.1 _).trans (hHeld.1)))), ((cell_far (p := ⟨gb241, _, none⟩) NB240_241.1 _).trans (((cell_far (p := ⟨gb241, _, none⟩) NB240_241.1 _).trans (hHeld.2))))⟩ (fun hHeld => ?_)
      clear hK K
      refine pure_ (i := 3) (N := some 8) (v := ?_) (a' := ?_) (bm 4 15) rfl rfl (by kernel_rfl) (fun _ _ _ h => h) (Or.inl ⟨by rfl, ?_⟩) ?_ ?_
      rotate_left
      ·
       intro w'; go_simp; with_reducible rfl
      rotate_left
      ·
       simp only [AP]; rfl
      refine done_ (by kernel_rfl) ?_
      try go_wp2
      refine bodyPost_ret (results_list (rs := [.tmp 6, .cell 7 26, .tmp 8]) rfl (by simp) (.tmp (.cell gb241 26 #[.int .i64 a0_0, .slice A0_1 l0_1.length c0_1] (0, 0) _ rfl (by refine kP ?_; refine blk_put (cs := #[.int .i64 a0_0, .slice none 0 0]) ?_ 1 _ rfl; refine kP ?_; refine blk_put (cs := #[.int .i64 0, .slice none 0 0]) ?_ 0 _ rfl; refine kP ?_; exact BK241.1) Try.underlying26 rfl (by kernel_rfl) (.tmp .nil)))) rfl ?_
      exact ⟨_, _, fT, by first | exact Kd.R_nil _ _ _ _ _ | exact Kd.N_nil _ _ _ _ _ | exact Kd.V_nil _ _ _ _ _ | exact Kd.Q_nil _ _ _ _ _ | exact Kd.S_nil _ _ _ _ _, vU (Kd.V_mono (Kd.V_far (p := ⟨gb241, 1, none⟩) (Kd.V_far (p := ⟨gb241, 0, none⟩) (Kd.V_mono HO_241001.1 (fun k_ hk => (⟨hk, hk.2.2⟩ : _ ∧ k_ ≠ gb241))) (fun _ hk => hk.2) (.int .i64 a0_0)) (fun _ hk => hk.2) (.slice A0_1 l0_1.length c0_1)) (fun _ hk => ⟨hk.1.1, (by simp [Value.ownBlock])⟩)), bS HB.1⟩
     ·
      rw [if_neg c20] at H
      have c20b0 : (a1 == 0) = false := beq_eq_false_iff_ne.mpr c20
      have c20b1 : (a1 != 0) = true := bne_iff_ne.mpr c20
      replace H := Option.bind_eq_some_iff.mp H
      obtain ⟨⟨t243, t246⟩, A270, H⟩ := H
      replace H : (if t246 = true then ((alloc_Map_Mark.f kj3 a0_0 l0_1 t243).bind fun bt247 => (some (t243, bt247.1, bt247.2.1, bt247.2.2))) else ((alloc_anywhere.f a0_0 l0_1 a1 a2).bind fun bt253 => (if bt253.2 = true then ((alloc_Map_Mark.f kj3 a0_0 l0_1 bt253.1).bind fun bt257 => (some (bt253.1, bt257.1, bt257.2.1, bt257.2.2))) else ((alloc_pieces.f kj3 a0_0 l0_1 a1 a2).bind fun bt263 => (if bt263.2 = true then ((alloc_Map_Mark.f kj3 a0_0 l0_1 bt263.1).bind fun bt267 => (some (bt263.1, bt267.1, bt267.2.1, bt267.2.2))) else (some (([] : List (S53)), 0, ([] : List (S53)), 11))))))) = some (r1, r2, r3, r4) := H
      have A27 := Aside0.mk A270
      clear A270
      by_cases c28 : t246 = true
      ·
       subst c28
       have H1 : ((alloc_Map_Mark.f kj3 a0_0 l0_1 t243).bind fun bt247 => (some (t243, bt247.1, bt247.2.1, bt247.2.2))) = some (r1, r2, r3, r4) := by rw [if_pos rfl] at H; exact H
       clear H
       have H := H1
       clear H1
       replace H := Option.bind_eq_some_iff.mp H
       obtain ⟨⟨t247, t248, t251⟩, A290, H⟩ := H
       replace H : (some (t243, t247, t248, t251)) = some (r1, r2, r3, r4) := H
       have A29 := Aside0.mk A290
       clear A290
       simp only [Option.some.injEq, Prod.mk.injEq] at H
       obtain ⟨rfl, rfl, rfl, rfl⟩ := H
       have hnb30 := NB240_241.1
       have hnc30 := NB241_240.1
       have hcz31_0 : wc.cell? ⟨gb240, 0, none⟩ = some (.int .i64 a0_0) := cC BK240 0
       have hcz31_1 : wc.cell? ⟨gb240, 1, none⟩ = some (.slice A0_1 l0_1.length c0_1) := cC BK240 1
       have hfz31_0 := fC BK240 0
       have hfz31_1 := fC BK240 1
       try go_wp2_with (first | ((with_reducible refine gC 15 ?_); refine gL 32 Try.func15 #[.agg #[.int .i64 a0_0, .slice A0_1 l0_1.length c0_1]] ?_; (with_reducible refine (alloc_Map_Free.calls kj3 a0_0 _ _ l0_1 t242 _ ?side1 ?side2 A14.1).mono ?_); (case side1 => repeat (first | exact (Kd.V_reads' HO_241001.1).2.2 | (with_reducible refine Kd.C_alloc ?_ _) | (with_reducible refine Kd.C_drewN ?_ _) | (with_reducible refine Kd.C_drew ?_))); (case side2 => exact (Kd.V_reads' HO_241001.1).2.1); rintro e w32 ⟨rfl, hb⟩; refine ⟨_, rfl, ?_⟩; replace HO_241001 := vB HO_241001 hb; replace BK240 := kB BK240 hb; replace BK241 := kB BK241 hb; replace HB := sB HB hb; (try clear hb); have hcz33_0 : w32.cell? ⟨gb240, 0, none⟩ = some (.int .i64 a0_0) := cC BK240 0; have hcz33_1 : w32.cell? ⟨gb240, 1, none⟩ = some (.slice A0_1 l0_1.length c0_1) := cC BK240 1; have hfz33_0 := fC BK240 0; have hfz33_1 := fC BK240 1) | ((with_reducible refine gate_tmp (t := 44) rfl ?_); refine goesT_ (some 48) rfl rfl Try.func28 (by kernel_rfl) rfl #[.agg #[.int .i64 a0_0, .slice A0_1 l0_1.length c0_1], .int .i64 a1, .int .i64 a2] rfl rfl aT ?_; (with_reducible refine (alloc_behind.calls kj3 a0_0 _ _ l0_1 a1 a2 t243 true _ ?side1 ?side2 A27.1).mono ?_); (case side1 => repeat (first | exact (Kd.V_reads' HO_241001.1).2.2 | (with_reducible refine Kd.C_alloc ?_ _) | (with_reducible refine Kd.C_drewN ?_ _) | (with_reducible refine Kd.C_drew ?_))); (case side2 => exact (Kd.V_reads' HO_241001.1).2.1); rintro e w34 ⟨v244, rfl, ho0, hb⟩; refine ⟨_, rfl, ?_⟩; replace HO_241001 := vE HO_241001 ho0 hb; have HO245 := Aa (Kd.R_lower (Kd.R_newM (M := fun k_ => (w.heap.size ≤ k_)) ho0 (below_size (bS HB.1)) (fun k_ h_ => h_)) (below_size (bS HB.1))); replace BK240 := kB BK240 hb; replace BK241 := kB BK241 hb; replace HB := sB HB hb; (try clear hb); (try clear ho0); have hcz35_0 : w34.cell? ⟨gb240, 0, none⟩ = some (.int .i64 a0_0) := cC BK240 0; have hcz35_1 : w34.cell? ⟨gb240, 1, none⟩ = some (.slice A0_1 l0_1.length c0_1) := cC BK240 1; have hfz35_0 := fC BK240 0; have hfz35_1 := fC BK240 1; obtain ⟨Ao36, co36, eo36⟩ := Kd.R_slice HO245.1; subst eo36) | ((with_reducible refine gC 27 ?_); refine gL 55 Try.func27 #[.agg #[.int .i64 a0_0, .slice A0_1 l0_1.length c0_1], .slice Ao36 t243.length co36] ?_; (with_reducible refine (alloc_Map_Mark.calls kj3 a0_0 (fun k_ => (((P0_1_ k_ ∨ w.heap.size ≤ k_) ∧ (k_ ≠ gb240 ∧ k_ ≠ gb241)) ∧ nb k_ Ao36 t243.length co36)) _ _ l0_1 _ _ t243 t247 t248 t251 _ ?side1 ?side2 ?side3 A29.1).mono ?_); (case side1 => exact HO_241001.1); (case side2 => repeat (first | exact (Kd.R_reads' HO245.1).2.2 | (with_reducible refine Kd.C_alloc ?_ _) | (with_reducible refine Kd.C_drewN ?_ _) | (with_reducible refine Kd.C_drew ?_))); (case side3 => exact (Kd.R_reads' HO245.1).2.1); rintro e w37 ⟨v249, rfl, ho0, hb⟩; refine ⟨_, rfl, ?_⟩; replace HO_241001 := vB HO_241001 hb; have HO250 := Aa (Kd.V_lower (Kd.V_mono (ok' := fun k_ => (P0_1_ k_ ∨ w.heap.size ≤ k_) ∧ nb k_ Ao36 t243.length co36 ∧ k_ ≠ gb240 ∧ k_ ≠ gb241) ho0 (fun k_ hk_ => ⟨Or.elim hk_ (fun hs_ => hs_.1.1) (fun hn_ => (.inr (Nat.le_trans (below_size (bS HB.1)) hn_))), Or.elim hk_ (fun hs_ => hs_.2) (fun hn_ => (Kd.fresh' (Kd.R_lt (rU HO245.1)) k_ hn_)), Or.elim hk_ (fun hs_ => hs_.1.2.1) (fun hn_ => (Kd.freshB (g := gb240) (o := .cells #[.int .i64 a0_0, .slice A0_1 l0_1.length c0_1] 26 (0, 0)) (kU BK240.1) k_ hn_)), Or.elim hk_ (fun hs_ => hs_.1.2.2) (fun hn_ => (Kd.freshB (g := gb241) (o := .cells #[.int .i64 0, .slice none 0 0] 26 (0, 0)) (kU BK241.1) k_ hn_))⟩)) (below_size (bS HB.1))); replace HO245 := rB HO245 hb; replace BK240 := kB BK240 hb; replace BK241 := kB BK241 hb; replace HB := sB HB hb; (try clear hb); (try clear ho0)) | ((with_reducible refine gD 13 ?_); refine bE #[.int .i64 0, .slice none 0 0] 26 ?_; intro gb252 hg w38 hbox hb; replace HO_241001 := vG HO_241001 hg hb; replace HO245 := rB HO245 hb; replace HO250 := vG HO250 hg hb; have BK252 := Aa (hbox); have GW252 := gS HB hg; have GE252 := gS HB hg; have iE252 := Nonempty.intro GE252.1; replace HB := sB HB hb; have NB240_252 := nL BK240 hg; have NB252_240 := nG BK240 hg; replace BK240 := kB BK240 hb; have NB241_252 := nL BK241 hg; have NB252_241 := nG BK241 hg; replace BK241 := kB BK241 hb; clear hb hbox hg; have hnb39 := NB252_240.1; have hnc39 := NB240_252.1; have hnb40 := NB252_241.1; have hnc40 := NB241_252.1; have hcz41_0 : w38.cell? ⟨gb252, 0, none⟩ = some (.int .i64 0) := cC BK252 0; have hcz41_1 : w38.cell? ⟨gb252, 1, none⟩ = some (.slice none 0 0) := cC BK252 1; have hfz41_0 := fC BK252 0; have hfz41_1 := fC BK252 1; obtain ⟨Ao42, co42, eo42⟩ := Kd.V_slice HO250.1; subst eo42) | (refine wp_loop_rounds 4 ?_; rw [rounds_succ]) | (rw [rounds_succ]))
       have n0_ : Aside0 (Kd.V k53 53 ((w38.setCell ⟨gb252, 0, none⟩ (.int .i64 t247)).setCell ⟨gb252, 1, none⟩ (.slice Ao42 t248.length co42)) w.heap.size (fun k_ => (P0_1_ k_ ∨ w.heap.size ≤ k_) ∧ nb k_ Ao36 t243.length co36 ∧ k_ ≠ gb240 ∧ k_ ≠ gb241 ∧ k_ ≠ gb252) (.slice A0_1 l0_1.length c0_1) l0_1) := ⟨vU (Kd.V_mono (Kd.V_far (p := ⟨gb252, 1, none⟩) (Kd.V_far (p := ⟨gb252, 0, none⟩) (Kd.V_mono HO_241001.1 (fun k_ hk => (⟨hk, hk.2⟩ : _ ∧ k_ ≠ gb252))) (fun _ hk => hk.2) (.int .i64 t247)) (fun _ hk => hk.2) (.slice Ao42 t248.length co42)) (fun _ hk => ⟨hk.1.1.1.1, ⟨hk.1.1.2, ⟨hk.1.1.1.2.1, ⟨hk.1.1.1.2.2, hk.1.2⟩⟩⟩⟩))⟩
       have n1_ : Aside0 (Kd.R k53 53 ((w38.setCell ⟨gb252, 0, none⟩ (.int .i64 t247)).setCell ⟨gb252, 1, none⟩ (.slice Ao42 t248.length co42)) w.heap.size (fun k_ => (w.heap.size ≤ k_)) (.slice Ao36 t243.length co36) t243) := ⟨rU (Kd.R_mono (Kd.R_far (p := ⟨gb252, 1, none⟩) (Kd.R_far (p := ⟨gb252, 0, none⟩) (Kd.R_types HO245.1 BK252.1 (by decide)) (fun _ hk => hk.2) (.int .i64 t247)) (fun _ hk => hk.2) (.slice Ao42 t248.length co42)) (fun _ hk => hk.1.1))⟩
       have n2_ : Aside0 (Kd.V k53 53 ((w38.setCell ⟨gb252, 0, none⟩ (.int .i64 t247)).setCell ⟨gb252, 1, none⟩ (.slice Ao42 t248.length co42)) w.heap.size (fun k_ => (P0_1_ k_ ∨ w.heap.size ≤ k_) ∧ nb k_ Ao36 t243.length co36 ∧ k_ ≠ gb240 ∧ k_ ≠ gb241 ∧ k_ ≠ gb252) (.slice Ao42 t248.length co42) t248) := ⟨vU (Kd.V_mono (Kd.V_far (p := ⟨gb252, 1, none⟩) (Kd.V_far (p := ⟨gb252, 0, none⟩) (Kd.V_mono HO250.1 (fun k_ hk => (⟨hk, hk.2⟩ : _ ∧ k_ ≠ gb252))) (fun _ hk => hk.2) (.int .i64 t247)) (fun _ hk => hk.2) (.slice Ao42 t248.length co42)) (fun _ hk => ⟨hk.1.1.1, ⟨hk.1.1.2.1, ⟨hk.1.1.2.2.1, ⟨hk.1.1.2.2.2, hk.1.2⟩⟩⟩⟩))⟩
       have n3_ : Aside0 (((w38.setCell ⟨gb252, 0, none⟩ (.int .i64 t247)).setCell ⟨gb252, 1, none⟩ (.slice Ao42 t248.length co42)).heap[gb240]? = some (.cells #[.int .i64 a0_0, .slice A0_1 l0_1.length c0_1] 26 (0, 0))) := ⟨by refine kP ?_; refine blk_far ?_ NB240_252.1 _; refine kP ?_; refine blk_far ?_ NB240_252.1 _; refine kP ?_; exact BK240.1⟩
       have n4_ : Aside0 (((w38.setCell ⟨gb252, 0, none⟩ (.int .i64 t247)).setCell ⟨gb252, 1, none⟩ (.slice Ao42 t248.length co42)).heap[gb241]? = some (.cells #[.int .i64 0, .slice none 0 0] 26 (0, 0))) := ⟨by refine kP ?_; refine blk_far ?_ NB241_252.1 _; refine kP ?_; refine blk_far ?_ NB241_252.1 _; refine kP ?_; exact BK241.1⟩
       have n5_ : Aside0 (((w38.setCell ⟨gb252, 0, none⟩ (.int .i64 t247)).setCell ⟨gb252, 1, none⟩ (.slice Ao42 t248.length co42)).heap[gb252]? = some (.cells #[.int .i64 t247, .slice Ao42 t248.length co42] 26 (0, 0))) := ⟨by refine kP ?_; refine blk_put (cs := #[.int .i64 t247, .slice none 0 0]) ?_ 1 _ rfl; refine kP ?_; refine blk_put (cs := #[.int .i64 0, .slice none 0 0]) ?_ 0 _ rfl; refine kP ?_; exact BK252.1⟩
       have n6_ : Aside0 (Below w.heap.size w ((w38.setCell ⟨gb252, 0, none⟩ (.int .i64 t247)).setCell ⟨gb252, 1, none⟩ (.slice Ao42 t248.length co42))) := ⟨bS HB.1⟩
       (try clear HO_241001)
       (try clear HO245)
       (try clear HO250)
       (try clear BK240)
       (try clear BK241)
       (try clear BK252)
       (try clear HB)
       generalize ((w38.setCell ⟨gb252, 0, none⟩ (.int .i64 t247)).setCell ⟨gb252, 1, none⟩ (.slice Ao42 t248.length co42)) = w43 at n0_ n1_ n2_ n3_ n4_ n5_ n6_ ⊢
       have HO_241001 := n0_
       have HO245 := n1_
       have HO250 := n2_
       have BK240 := n3_
       have BK241 := n4_
       have BK252 := n5_
       have HB := n6_
       clear n0_ n1_ n2_ n3_ n4_ n5_ n6_
       replace HO_241001 := Aa (Kd.V_drew HO_241001.1)
       replace HO245 := Aa (Kd.R_drew HO245.1)
       replace HO250 := Aa (Kd.V_drew HO250.1)
       replace BK240 := Aa (blk_drew BK240.1)
       replace BK241 := Aa (blk_drew BK241.1)
       replace BK252 := Aa (blk_drew BK252.1)
       replace HB := Aa (below_drew1 HB.1)
       refine start_ (n := 6) (S := fun w' => w'.cell? ⟨gb252, 0, none⟩ = some (.int .i64 t247) ∧ w'.cell? ⟨gb252, 1, none⟩ = some (.slice Ao42 t248.length co42)) (ds := []) (bm 6 0) (by kernel_rfl) rfl (bm0 _) ⟨cC BK252 0, cC BK252 1⟩ (fun hHeld => ?_)
       generalize w43.drew = w44 at HO_241001 HO245 HO250 BK240 BK241 BK252 HB hHeld ⊢
       refine pure_ (i := 0) (N := some 58) (v := ?_) (a' := ?_) (bm 6 1) rfl rfl (by kernel_rfl) (fun _ _ _ h => h) (Or.inl ⟨by rfl, ?_⟩) ?_ ?_
       rotate_left
       ·
        intro w'; go_simp; with_reducible rfl
       rotate_left
       ·
        simp only [AP]; rfl
       refine pure_ (i := 2) (N := some 60) (v := ?_) (a' := ?_) (bm 6 5) rfl rfl (by kernel_rfl) (fun _ _ _ h => h) (Or.inl ⟨by rfl, ?_⟩) ?_ ?_
       rotate_left
       ·
        intro w'; go_simp; with_reducible rfl
       rotate_left
       ·
        simp only [AP]; rfl
       refine pure_ (i := 3) (N := some 6) (v := ?_) (a' := ?_) (bm 6 13) rfl rfl (by kernel_rfl) (fun _ _ _ h => h) (Or.inl ⟨by rfl, ?_⟩) ?_ ?_
       rotate_left
       ·
        intro w'; go_simp; with_reducible rfl
       rotate_left
       ·
        simp only [AP]; rfl
       refine take_ (i := 1) (N := some 59) (v := ?_) (a' := ?_) (bm 6 15) rfl rfl (by kernel_rfl) (fun _ _ _ h => h) (Or.inl ⟨by rfl, ?_⟩) hHeld ?_ ?_
       rotate_left
       ·
        rintro w' ⟨s0, s1⟩
        go_simp; with_reducible rfl
       rotate_left
       ·
        simp only [AP]; rfl
       refine one_ (i := 4) (N := none) (bm 6 31) rfl rfl (by kernel_rfl) (by decide) (fun K hK => ?_)
       have hs45 : w44.cell? ⟨gb241, 0, none⟩ = some (.int .i64 0) := cC BK241 0
       have hfs45 := fC BK241 0
       have hns45_0 := NB240_241.1
       have hns45_2 := NB252_241.1
       have hms45_0 := NB241_240.1
       have hms45_2 := NB241_252.1
       have hs46 : w44.cell? ⟨gb241, 1, none⟩ = some (.slice none 0 0) := cC BK241 1
       have hfs46 := fC BK241 1
       have hns46_0 := NB240_241.1
       have hns46_2 := NB252_241.1
       have hms46_0 := NB241_240.1
       have hms46_2 := NB241_252.1
       refine skip_ (w1 := ?_) (by rfl) rfl ?_ ?_
       rotate_left
       ·
        go_simp; rfl
       refine hK.out _ _ ⟨((cell_far (p := ⟨gb241, _, none⟩) NB252_241.1 _).trans (((cell_far (p := ⟨gb241, _, none⟩) NB252_241.1 _).trans (hHeld.1)))), ((cell_far (p := ⟨gb241, _, none⟩) NB252_241.1 _).trans (((cell_far (p := ⟨gb241, _, none⟩) NB252_241.1 _).trans (hHeld.2))))⟩ (fun hHeld => ?_)
       clear hK K
       refine pure_ (i := 5) (N := some 8) (v := ?_) (a' := ?_) (bm 6 63) rfl rfl (by kernel_rfl) (fun _ _ _ h => h) (Or.inl ⟨by rfl, ?_⟩) ?_ ?_
       rotate_left
       ·
        intro w'; go_simp; with_reducible rfl
       rotate_left
       ·
        simp only [AP]; rfl
       refine done_ (by kernel_rfl) ?_
       try go_wp2
       refine bodyPost_ret (results_list (rs := [.tmp 6, .cell 7 26, .tmp 8]) rfl (by simp) (.tmp (.cell gb241 26 #[.int .i64 t247, .slice Ao42 t248.length co42] (0, 0) _ rfl (by refine kP ?_; refine blk_put (cs := #[.int .i64 t247, .slice none 0 0]) ?_ 1 _ rfl; refine kP ?_; refine blk_put (cs := #[.int .i64 0, .slice none 0 0]) ?_ 0 _ rfl; refine kP ?_; exact BK241.1) Try.underlying26 rfl (by kernel_rfl) (.tmp .nil)))) rfl ?_
       exact ⟨_, _, fT, rU (Kd.R_mono (Kd.R_far (p := ⟨gb241, 1, none⟩) (Kd.R_far (p := ⟨gb241, 0, none⟩) (Kd.R_types HO245.1 BK241.1 (by decide)) (fun _ hk => hk.2) (.int .i64 t247)) (fun _ hk => hk.2) (.slice Ao42 t248.length co42)) (fun _ hk => hk.1)), vU (Kd.V_mono (Kd.V_far (p := ⟨gb241, 1, none⟩) (Kd.V_far (p := ⟨gb241, 0, none⟩) (Kd.V_mono HO250.1 (fun k_ hk => (⟨hk, hk.2.2.2.1⟩ : _ ∧ k_ ≠ gb241))) (fun _ hk => hk.2) (.int .i64 t247)) (fun _ hk => hk.2) (.slice Ao42 t248.length co42)) (fun _ hk => ⟨hk.1.1, hk.1.2.1⟩)), bS HB.1⟩
      ·
       replace c28 := Bool.eq_false_iff.mpr c28
       subst c28
       have H1 : ((alloc_anywhere.f a0_0 l0_1 a1 a2).bind fun bt253 => (if bt253.2 = true then ((alloc_Map_Mark.f kj3 a0_0 l0_1 bt253.1).bind fun bt257 => (some (bt253.1, bt257.1, bt257.2.1, bt257.2.2))) else ((alloc_pieces.f kj3 a0_0 l0_1 a1 a2).bind fun bt263 => (if bt263.2 = true then ((alloc_Map_Mark.f kj3 a0_0 l0_1 bt263.1).bind fun bt267 => (some (bt263.1, bt267.1, bt267.2.1, bt267.2.2))) else (some (([] : List (S53)), 0, ([] : List (S53)), 11)))))) = some (r1, r2, r3, r4) := by rw [if_neg (show ¬ (false = true) by decide)] at H; exact H
       clear H
       have H := H1
       clear H1
       replace H := Option.bind_eq_some_iff.mp H
       obtain ⟨⟨t253, t256⟩, A470, H⟩ := H
       replace H : (if t256 = true then ((alloc_Map_Mark.f kj3 a0_0 l0_1 t253).bind fun bt257 => (some (t253, bt257.1, bt257.2.1, bt257.2.2))) else ((alloc_pieces.f kj3 a0_0 l0_1 a1 a2).bind fun bt263 => (if bt263.2 = true then ((alloc_Map_Mark.f kj3 a0_0 l0_1 bt263.1).bind fun bt267 => (some (bt263.1, bt267.1, bt267.2.1, bt267.2.2))) else (some (([] : List (S53)), 0, ([] : List (S53)), 11))))) = some (r1, r2, r3, r4) := H
       have A47 := Aside0.mk A470
       clear A470
       by_cases c48 : t256 = true
       ·
        subst c48
        have H1 : ((alloc_Map_Mark.f kj3 a0_0 l0_1 t253).bind fun bt257 => (some (t253, bt257.1, bt257.2.1, bt257.2.2))) = some (r1, r2, r3, r4) := by rw [if_pos rfl] at H; exact H
        clear H
        have H := H1
        clear H1
        replace H := Option.bind_eq_some_iff.mp H
        obtain ⟨⟨t257, t258, t261⟩, A490, H⟩ := H
        replace H : (some (t253, t257, t258, t261)) = some (r1, r2, r3, r4) := H
        have A49 := Aside0.mk A490
        clear A490
        simp only [Option.some.injEq, Prod.mk.injEq] at H
        obtain ⟨rfl, rfl, rfl, rfl⟩ := H
        have hnb50 := NB240_241.1
        have hnc50 := NB241_240.1
        have hcz51_0 : wc.cell? ⟨gb240, 0, none⟩ = some (.int .i64 a0_0) := cC BK240 0
        have hcz51_1 : wc.cell? ⟨gb240, 1, none⟩ = some (.slice A0_1 l0_1.length c0_1) := cC BK240 1
        have hfz51_0 := fC BK240 0
        have hfz51_1 := fC BK240 1
        try go_wp2_with (first | ((with_reducible refine gC 15 ?_); refine gL 32 Try.func15 #[.agg #[.int .i64 a0_0, .slice A0_1 l0_1.length c0_1]] ?_; (with_reducible refine (alloc_Map_Free.calls kj3 a0_0 _ _ l0_1 t242 _ ?side1 ?side2 A14.1).mono ?_); (case side1 => repeat (first | exact (Kd.V_reads' HO_241001.1).2.2 | (with_reducible refine Kd.C_alloc ?_ _) | (with_reducible refine Kd.C_drewN ?_ _) | (with_reducible refine Kd.C_drew ?_))); (case side2 => exact (Kd.V_reads' HO_241001.1).2.1); rintro e w52 ⟨rfl, hb⟩; refine ⟨_, rfl, ?_⟩; replace HO_241001 := vB HO_241001 hb; replace BK240 := kB BK240 hb; replace BK241 := kB BK241 hb; replace HB := sB HB hb; (try clear hb); have hcz53_0 : w52.cell? ⟨gb240, 0, none⟩ = some (.int .i64 a0_0) := cC BK240 0; have hcz53_1 : w52.cell? ⟨gb240, 1, none⟩ = some (.slice A0_1 l0_1.length c0_1) := cC BK240 1; have hfz53_0 := fC BK240 0; have hfz53_1 := fC BK240 1) | ((with_reducible refine gate_tmp (t := 44) rfl ?_); refine goesT_ (some 48) rfl rfl Try.func28 (by kernel_rfl) rfl #[.agg #[.int .i64 a0_0, .slice A0_1 l0_1.length c0_1], .int .i64 a1, .int .i64 a2] rfl rfl aT ?_; (with_reducible refine (alloc_behind.calls kj3 a0_0 _ _ l0_1 a1 a2 t243 false _ ?side1 ?side2 A27.1).mono ?_); (case side1 => repeat (first | exact (Kd.V_reads' HO_241001.1).2.2 | (with_reducible refine Kd.C_alloc ?_ _) | (with_reducible refine Kd.C_drewN ?_ _) | (with_reducible refine Kd.C_drew ?_))); (case side2 => exact (Kd.V_reads' HO_241001.1).2.1); rintro e w54 ⟨v244, rfl, ho0, hb⟩; refine ⟨_, rfl, ?_⟩; replace HO_241001 := vE HO_241001 ho0 hb; have HO245 := Aa (Kd.R_lower (Kd.R_newM (M := fun k_ => (w.heap.size ≤ k_)) ho0 (below_size (bS HB.1)) (fun k_ h_ => h_)) (below_size (bS HB.1))); replace BK240 := kB BK240 hb; replace BK241 := kB BK241 hb; replace HB := sB HB hb; (try clear hb); (try clear ho0); have hcz55_0 : w54.cell? ⟨gb240, 0, none⟩ = some (.int .i64 a0_0) := cC BK240 0; have hcz55_1 : w54.cell? ⟨gb240, 1, none⟩ = some (.slice A0_1 l0_1.length c0_1) := cC BK240 1; have hfz55_0 := fC BK240 0; have hfz55_1 := fC BK240 1) | ((with_reducible refine gate_tmp (t := 44) rfl ?_); refine goesT_ (some 48) rfl rfl Try.func29 (by kernel_rfl) rfl #[.agg #[.int .i64 a0_0, .slice A0_1 l0_1.length c0_1], .int .i64 a1, .int .i64 a2] rfl rfl aT ?_; (with_reducible refine (alloc_anywhere.calls a0_0 _ _ l0_1 a1 a2 t253 true _ ?side1 ?side2 A47.1).mono ?_); (case side1 => repeat (first | exact (Kd.V_reads' HO_241001.1).2.2 | (with_reducible refine Kd.C_alloc ?_ _) | (with_reducible refine Kd.C_drewN ?_ _) | (with_reducible refine Kd.C_drew ?_))); (case side2 => exact (Kd.V_reads' HO_241001.1).2.1); rintro e w56 ⟨v254, rfl, ho0, hb⟩; refine ⟨_, rfl, ?_⟩; replace HO_241001 := vE HO_241001 ho0 hb; have HO255 := Aa (Kd.R_lower (Kd.R_new' (Kd.R_newM (M := fun k_ => (w.heap.size ≤ k_)) ho0 (below_size (bS HB.1)) (fun k_ h_ => h_)) (Kd.R_lt (rU HO245.1))) (below_size (bS HB.1))); replace HO245 := rE HO245 ho0 hb; replace BK240 := kB BK240 hb; replace BK241 := kB BK241 hb; replace HB := sB HB hb; (try clear hb); (try clear ho0); have hcz57_0 : w56.cell? ⟨gb240, 0, none⟩ = some (.int .i64 a0_0) := cC BK240 0; have hcz57_1 : w56.cell? ⟨gb240, 1, none⟩ = some (.slice A0_1 l0_1.length c0_1) := cC BK240 1; have hfz57_0 := fC BK240 0; have hfz57_1 := fC BK240 1; obtain ⟨Ao58, co58, eo58⟩ := Kd.R_slice HO255.1; subst eo58) | ((with_reducible refine gC 27 ?_); refine gL 55 Try.func27 #[.agg #[.int .i64 a0_0, .slice A0_1 l0_1.length c0_1], .slice Ao58 t253.length co58] ?_; (with_reducible refine (alloc_Map_Mark.calls kj3 a0_0 (fun k_ => ((((P0_1_ k_ ∨ w.heap.size ≤ k_) ∧ (k_ ≠ gb240 ∧ k_ ≠ gb241)) ∧ some k_ ≠ (v244 : Value).ownBlock) ∧ nb k_ Ao58 t253.length co58)) _ _ l0_1 _ _ t253 t257 t258 t261 _ ?side1 ?side2 ?side3 A49.1).mono ?_); (case side1 => exact HO_241001.1); (case side2 => repeat (first | exact (Kd.R_reads' HO255.1).2.2 | (with_reducible refine Kd.C_alloc ?_ _) | (with_reducible refine Kd.C_drewN ?_ _) | (with_reducible refine Kd.C_drew ?_))); (case side3 => exact (Kd.R_reads' HO255.1).2.1); rintro e w59 ⟨v259, rfl, ho0, hb⟩; refine ⟨_, rfl, ?_⟩; replace HO_241001 := vB HO_241001 hb; have HO260 := Aa (Kd.V_lower (Kd.V_mono (ok' := fun k_ => (P0_1_ k_ ∨ w.heap.size ≤ k_) ∧ some k_ ≠ (v244 : Value).ownBlock ∧ nb k_ Ao58 t253.length co58 ∧ k_ ≠ gb240 ∧ k_ ≠ gb241) ho0 (fun k_ hk_ => ⟨Or.elim hk_ (fun hs_ => hs_.1.1.1) (fun hn_ => (.inr (Nat.le_trans (below_size (bS HB.1)) hn_))), Or.elim hk_ (fun hs_ => hs_.1.2) (fun hn_ => (Kd.fresh' (Kd.R_lt (rU HO245.1)) k_ hn_)), Or.elim hk_ (fun hs_ => hs_.2) (fun hn_ => (Kd.fresh' (Kd.R_lt (rU HO255.1)) k_ hn_)), Or.elim hk_ (fun hs_ => hs_.1.1.2.1) (fun hn_ => (Kd.freshB (g := gb240) (o := .cells #[.int .i64 a0_0, .slice A0_1 l0_1.length c0_1] 26 (0, 0)) (kU BK240.1) k_ hn_)), Or.elim hk_ (fun hs_ => hs_.1.1.2.2) (fun hn_ => (Kd.freshB (g := gb241) (o := .cells #[.int .i64 0, .slice none 0 0] 26 (0, 0)) (kU BK241.1) k_ hn_))⟩)) (below_size (bS HB.1))); replace HO245 := rB HO245 hb; replace HO255 := rB HO255 hb; replace BK240 := kB BK240 hb; replace BK241 := kB BK241 hb; replace HB := sB HB hb; (try clear hb); (try clear ho0)) | ((with_reducible refine gD 13 ?_); refine bE #[.int .i64 0, .slice none 0 0] 26 ?_; intro gb262 hg w60 hbox hb; replace HO_241001 := vG HO_241001 hg hb; replace HO245 := rB HO245 hb; replace HO255 := rB HO255 hb; replace HO260 := vG HO260 hg hb; have BK262 := Aa (hbox); have GW262 := gS HB hg; have GE262 := gS HB hg; have iE262 := Nonempty.intro GE262.1; replace HB := sB HB hb; have NB240_262 := nL BK240 hg; have NB262_240 := nG BK240 hg; replace BK240 := kB BK240 hb; have NB241_262 := nL BK241 hg; have NB262_241 := nG BK241 hg; replace BK241 := kB BK241 hb; clear hb hbox hg; have hnb61 := NB262_240.1; have hnc61 := NB240_262.1; have hnb62 := NB262_241.1; have hnc62 := NB241_262.1; have hcz63_0 : w60.cell? ⟨gb262, 0, none⟩ = some (.int .i64 0) := cC BK262 0; have hcz63_1 : w60.cell? ⟨gb262, 1, none⟩ = some (.slice none 0 0) := cC BK262 1; have hfz63_0 := fC BK262 0; have hfz63_1 := fC BK262 1; obtain ⟨Ao64, co64, eo64⟩ := Kd.V_slice HO260.1; subst eo64) | (refine wp_loop_rounds 4 ?_; rw [rounds_succ]) | (rw [rounds_succ]))
        have n0_ : Aside0 (Kd.V k53 53 ((w60.setCell ⟨gb262, 0, none⟩ (.int .i64 t257)).setCell ⟨gb262, 1, none⟩ (.slice Ao64 t258.length co64)) w.heap.size (fun k_ => (P0_1_ k_ ∨ w.heap.size ≤ k_) ∧ some k_ ≠ (v244 : Value).ownBlock ∧ nb k_ Ao58 t253.length co58 ∧ k_ ≠ gb240 ∧ k_ ≠ gb241 ∧ k_ ≠ gb262) (.slice A0_1 l0_1.length c0_1) l0_1) := ⟨vU (Kd.V_mono (Kd.V_far (p := ⟨gb262, 1, none⟩) (Kd.V_far (p := ⟨gb262, 0, none⟩) (Kd.V_mono HO_241001.1 (fun k_ hk => (⟨hk, hk.2⟩ : _ ∧ k_ ≠ gb262))) (fun _ hk => hk.2) (.int .i64 t257)) (fun _ hk => hk.2) (.slice Ao64 t258.length co64)) (fun _ hk => ⟨hk.1.1.1.1.1, ⟨hk.1.1.1.2, ⟨hk.1.1.2, ⟨hk.1.1.1.1.2.1, ⟨hk.1.1.1.1.2.2, hk.1.2⟩⟩⟩⟩⟩))⟩
        have n1_ : Aside0 (Kd.R k53 53 ((w60.setCell ⟨gb262, 0, none⟩ (.int .i64 t257)).setCell ⟨gb262, 1, none⟩ (.slice Ao64 t258.length co64)) w.heap.size (fun k_ => (w.heap.size ≤ k_) ∧ nb k_ Ao58 t253.length co58) v244 t243) := ⟨rU (Kd.R_mono (Kd.R_far (p := ⟨gb262, 1, none⟩) (Kd.R_far (p := ⟨gb262, 0, none⟩) (Kd.R_types HO245.1 BK262.1 (by decide)) (fun _ hk => hk.2) (.int .i64 t257)) (fun _ hk => hk.2) (.slice Ao64 t258.length co64)) (fun _ hk => ⟨hk.1.1.1, hk.1.2⟩))⟩
        have n2_ : Aside0 (Kd.R k53 53 ((w60.setCell ⟨gb262, 0, none⟩ (.int .i64 t257)).setCell ⟨gb262, 1, none⟩ (.slice Ao64 t258.length co64)) w.heap.size (fun k_ => (w.heap.size ≤ k_) ∧ some k_ ≠ (v244 : Value).ownBlock) (.slice Ao58 t253.length co58) t253) := ⟨rU (Kd.R_mono (Kd.R_far (p := ⟨gb262, 1, none⟩) (Kd.R_far (p := ⟨gb262, 0, none⟩) (Kd.R_types HO255.1 BK262.1 (by decide)) (fun _ hk => hk.2) (.int .i64 t257)) (fun _ hk => hk.2) (.slice Ao64 t258.length co64)) (fun _ hk => ⟨hk.1.1.1, hk.1.2⟩))⟩
        have n3_ : Aside0 (Kd.V k53 53 ((w60.setCell ⟨gb262, 0, none⟩ (.int .i64 t257)).setCell ⟨gb262, 1, none⟩ (.slice Ao64 t258.length co64)) w.heap.size (fun k_ => (P0_1_ k_ ∨ w.heap.size ≤ k_) ∧ some k_ ≠ (v244 : Value).ownBlock ∧ nb k_ Ao58 t253.length co58 ∧ k_ ≠ gb240 ∧ k_ ≠ gb241 ∧ k_ ≠ gb262) (.slice Ao64 t258.length co64) t258) := ⟨vU (Kd.V_mono (Kd.V_far (p := ⟨gb262, 1, none⟩) (Kd.V_far (p := ⟨gb262, 0, none⟩) (Kd.V_mono HO260.1 (fun k_ hk => (⟨hk, hk.2⟩ : _ ∧ k_ ≠ gb262))) (fun _ hk => hk.2) (.int .i64 t257)) (fun _ hk => hk.2) (.slice Ao64 t258.length co64)) (fun _ hk => ⟨hk.1.1.1, ⟨hk.1.1.2.1, ⟨hk.1.1.2.2.1, ⟨hk.1.1.2.2.2.1, ⟨hk.1.1.2.2.2.2, hk.1.2⟩⟩⟩⟩⟩))⟩
        have n4_ : Aside0 (((w60.setCell ⟨gb262, 0, none⟩ (.int .i64 t257)).setCell ⟨gb262, 1, none⟩ (.slice Ao64 t258.length co64)).heap[gb240]? = some (.cells #[.int .i64 a0_0, .slice A0_1 l0_1.length c0_1] 26 (0, 0))) := ⟨by refine kP ?_; refine blk_far ?_ NB240_262.1 _; refine kP ?_; refine blk_far ?_ NB240_262.1 _; refine kP ?_; exact BK240.1⟩
        have n5_ : Aside0 (((w60.setCell ⟨gb262, 0, none⟩ (.int .i64 t257)).setCell ⟨gb262, 1, none⟩ (.slice Ao64 t258.length co64)).heap[gb241]? = some (.cells #[.int .i64 0, .slice none 0 0] 26 (0, 0))) := ⟨by refine kP ?_; refine blk_far ?_ NB241_262.1 _; refine kP ?_; refine blk_far ?_ NB241_262.1 _; refine kP ?_; exact BK241.1⟩
        have n6_ : Aside0 (((w60.setCell ⟨gb262, 0, none⟩ (.int .i64 t257)).setCell ⟨gb262, 1, none⟩ (.slice Ao64 t258.length co64)).heap[gb262]? = some (.cells #[.int .i64 t257, .slice Ao64 t258.length co64] 26 (0, 0))) := ⟨by refine kP ?_; refine blk_put (cs := #[.int .i64 t257, .slice none 0 0]) ?_ 1 _ rfl; refine kP ?_; refine blk_put (cs := #[.int .i64 0, .slice none 0 0]) ?_ 0 _ rfl; refine kP ?_; exact BK262.1⟩
        have n7_ : Aside0 (Below w.heap.size w ((w60.setCell ⟨gb262, 0, none⟩ (.int .i64 t257)).setCell ⟨gb262, 1, none⟩ (.slice Ao64 t258.length co64))) := ⟨bS HB.1⟩
        (try clear HO_241001)
        (try clear HO245)
        (try clear HO255)
        (try clear HO260)
        (try clear BK240)
        (try clear BK241)
        (try clear BK262)
        (try clear HB)
        generalize ((w60.setCell ⟨gb262, 0, none⟩ (.int .i64 t257)).setCell ⟨gb262, 1, none⟩ (.slice Ao64 t258.length co64)) = w65 at n0_ n1_ n2_ n3_ n4_ n5_ n6_ n7_ ⊢
        have HO_241001 := n0_
        have HO245 := n1_
        have HO255 := n2_
        have HO260 := n3_
        have BK240 := n4_
        have BK241 := n5_
        have BK262 := n6_
        have HB := n7_
        clear n0_ n1_ n2_ n3_ n4_ n5_ n6_ n7_
        replace HO_241001 := Aa (Kd.V_drew HO_241001.1)
        replace HO245 := Aa (Kd.R_drew HO245.1)
        replace HO255 := Aa (Kd.R_drew HO255.1)
        replace HO260 := Aa (Kd.V_drew HO260.1)
        replace BK240 := Aa (blk_drew BK240.1)
        replace BK241 := Aa (blk_drew BK241.1)
        replace BK262 := Aa (blk_drew BK262.1)
        replace HB := Aa (below_drew1 HB.1)
        refine start_ (n := 6) (S := fun w' => w'.cell? ⟨gb262, 0, none⟩ = some (.int .i64 t257) ∧ w'.cell? ⟨gb262, 1, none⟩ = some (.slice Ao64 t258.length co64)) (ds := []) (bm 6 0) (by kernel_rfl) rfl (bm0 _) ⟨cC BK262 0, cC BK262 1⟩ (fun hHeld => ?_)
        generalize w65.drew = w66 at HO_241001 HO245 HO255 HO260 BK240 BK241 BK262 HB hHeld ⊢
        refine pure_ (i := 0) (N := some 58) (v := ?_) (a' := ?_) (bm 6 1) rfl rfl (by kernel_rfl) (fun _ _ _ h => h) (Or.inl ⟨by rfl, ?_⟩) ?_ ?_
        rotate_left
        ·
         intro w'; go_simp; with_reducible rfl
        rotate_left
        ·
         simp only [AP]; rfl
        refine pure_ (i := 2) (N := some 60) (v := ?_) (a' := ?_) (bm 6 5) rfl rfl (by kernel_rfl) (fun _ _ _ h => h) (Or.inl ⟨by rfl, ?_⟩) ?_ ?_
        rotate_left
        ·
         intro w'; go_simp; with_reducible rfl
        rotate_left
        ·
         simp only [AP]; rfl
        refine pure_ (i := 3) (N := some 6) (v := ?_) (a' := ?_) (bm 6 13) rfl rfl (by kernel_rfl) (fun _ _ _ h => h) (Or.inl ⟨by rfl, ?_⟩) ?_ ?_
        rotate_left
        ·
         intro w'; go_simp; with_reducible rfl
        rotate_left
        ·
         simp only [AP]; rfl
        refine take_ (i := 1) (N := some 59) (v := ?_) (a' := ?_) (bm 6 15) rfl rfl (by kernel_rfl) (fun _ _ _ h => h) (Or.inl ⟨by rfl, ?_⟩) hHeld ?_ ?_
        rotate_left
        ·
         rintro w' ⟨s0, s1⟩
         go_simp; with_reducible rfl
        rotate_left
        ·
         simp only [AP]; rfl
        refine one_ (i := 4) (N := none) (bm 6 31) rfl rfl (by kernel_rfl) (by decide) (fun K hK => ?_)
        have hs67 : w66.cell? ⟨gb241, 0, none⟩ = some (.int .i64 0) := cC BK241 0
        have hfs67 := fC BK241 0
        have hns67_0 := NB240_241.1
        have hns67_2 := NB262_241.1
        have hms67_0 := NB241_240.1
        have hms67_2 := NB241_262.1
        have hs68 : w66.cell? ⟨gb241, 1, none⟩ = some (.slice none 0 0) := cC BK241 1
        have hfs68 := fC BK241 1
        have hns68_0 := NB240_241.1
        have hns68_2 := NB262_241.1
        have hms68_0 := NB241_240.1
        have hms68_2 := NB241_262.1
        refine skip_ (w1 := ?_) (by rfl) rfl ?_ ?_
        rotate_left
        ·
         go_simp; rfl
        refine hK.out _ _ ⟨((cell_far (p := ⟨gb241, _, none⟩) NB262_241.1 _).trans (((cell_far (p := ⟨gb241, _, none⟩) NB262_241.1 _).trans (hHeld.1)))), ((cell_far (p := ⟨gb241, _, none⟩) NB262_241.1 _).trans (((cell_far (p := ⟨gb241, _, none⟩) NB262_241.1 _).trans (hHeld.2))))⟩ (fun hHeld => ?_)
        clear hK K
        refine pure_ (i := 5) (N := some 8) (v := ?_) (a' := ?_) (bm 6 63) rfl rfl (by kernel_rfl) (fun _ _ _ h => h) (Or.inl ⟨by rfl, ?_⟩) ?_ ?_
        rotate_left
        ·
         intro w'; go_simp; with_reducible rfl
        rotate_left
        ·
         simp only [AP]; rfl
        refine done_ (by kernel_rfl) ?_
        try go_wp2
        refine bodyPost_ret (results_list (rs := [.tmp 6, .cell 7 26, .tmp 8]) rfl (by simp) (.tmp (.cell gb241 26 #[.int .i64 t257, .slice Ao64 t258.length co64] (0, 0) _ rfl (by refine kP ?_; refine blk_put (cs := #[.int .i64 t257, .slice none 0 0]) ?_ 1 _ rfl; refine kP ?_; refine blk_put (cs := #[.int .i64 0, .slice none 0 0]) ?_ 0 _ rfl; refine kP ?_; exact BK241.1) Try.underlying26 rfl (by kernel_rfl) (.tmp .nil)))) rfl ?_
        exact ⟨_, _, fT, rU (Kd.R_mono (Kd.R_far (p := ⟨gb241, 1, none⟩) (Kd.R_far (p := ⟨gb241, 0, none⟩) (Kd.R_types HO255.1 BK241.1 (by decide)) (fun _ hk => hk.2) (.int .i64 t257)) (fun _ hk => hk.2) (.slice Ao64 t258.length co64)) (fun _ hk => hk.1.1)), vU (Kd.V_mono (Kd.V_far (p := ⟨gb241, 1, none⟩) (Kd.V_far (p := ⟨gb241, 0, none⟩) (Kd.V_mono HO260.1 (fun k_ hk => (⟨hk, hk.2.2.2.2.1⟩ : _ ∧ k_ ≠ gb241))) (fun _ hk => hk.2) (.int .i64 t257)) (fun _ hk => hk.2) (.slice Ao64 t258.length co64)) (fun _ hk => ⟨hk.1.1, hk.1.2.2.1⟩)), bS HB.1⟩
       ·
        replace c48 := Bool.eq_false_iff.mpr c48
        subst c48
        have H1 : ((alloc_pieces.f kj3 a0_0 l0_1 a1 a2).bind fun bt263 => (if bt263.2 = true then ((alloc_Map_Mark.f kj3 a0_0 l0_1 bt263.1).bind fun bt267 => (some (bt263.1, bt267.1, bt267.2.1, bt267.2.2))) else (some (([] : List (S53)), 0, ([] : List (S53)), 11)))) = some (r1, r2, r3, r4) := by rw [if_neg (show ¬ (false = true) by decide)] at H; exact H
        clear H
        have H := H1
        clear H1
        replace H := Option.bind_eq_some_iff.mp H
        obtain ⟨⟨t263, t266⟩, A690, H⟩ := H
        replace H : (if t266 = true then ((alloc_Map_Mark.f kj3 a0_0 l0_1 t263).bind fun bt267 => (some (t263, bt267.1, bt267.2.1, bt267.2.2))) else (some (([] : List (S53)), 0, ([] : List (S53)), 11))) = some (r1, r2, r3, r4) := H
        have A69 := Aside0.mk A690
        clear A690
        by_cases c70 : t266 = true
        ·
         subst c70
         have H1 : ((alloc_Map_Mark.f kj3 a0_0 l0_1 t263).bind fun bt267 => (some (t263, bt267.1, bt267.2.1, bt267.2.2))) = some (r1, r2, r3, r4) := by rw [if_pos rfl] at H; exact H
         clear H
         have H := H1
         clear H1
         replace H := Option.bind_eq_some_iff.mp H
         obtain ⟨⟨t267, t268, t271⟩, A710, H⟩ := H
         replace H : (some (t263, t267, t268, t271)) = some (r1, r2, r3, r4) := H
         have A71 := Aside0.mk A710
         clear A710
         simp only [Option.some.injEq, Prod.mk.injEq] at H
         obtain ⟨rfl, rfl, rfl, rfl⟩ := H
         have hnb72 := NB240_241.1
         have hnc72 := NB241_240.1
         have hcz73_0 : wc.cell? ⟨gb240, 0, none⟩ = some (.int .i64 a0_0) := cC BK240 0
         have hcz73_1 : wc.cell? ⟨gb240, 1, none⟩ = some (.slice A0_1 l0_1.length c0_1) := cC BK240 1
         have hfz73_0 := fC BK240 0
         have hfz73_1 := fC BK240 1
         try go_wp2_with (first | ((with_reducible refine gC 15 ?_); refine gL 32 Try.func15 #[.agg #[.int .i64 a0_0, .slice A0_1 l0_1.length c0_1]] ?_; (with_reducible refine (alloc_Map_Free.calls kj3 a0_0 _ _ l0_1 t242 _ ?side1 ?side2 A14.1).mono ?_); (case side1 => repeat (first | exact (Kd.V_reads' HO_241001.1).2.2 | (with_reducible refine Kd.C_alloc ?_ _) | (with_reducible refine Kd.C_drewN ?_ _) | (with_reducible refine Kd.C_drew ?_))); (case side2 => exact (Kd.V_reads' HO_241001.1).2.1); rintro e w74 ⟨rfl, hb⟩; refine ⟨_, rfl, ?_⟩; replace HO_241001 := vB HO_241001 hb; replace BK240 := kB BK240 hb; replace BK241 := kB BK241 hb; replace HB := sB HB hb; (try clear hb); have hcz75_0 : w74.cell? ⟨gb240, 0, none⟩ = some (.int .i64 a0_0) := cC BK240 0; have hcz75_1 : w74.cell? ⟨gb240, 1, none⟩ = some (.slice A0_1 l0_1.length c0_1) := cC BK240 1; have hfz75_0 := fC BK240 0; have hfz75_1 := fC BK240 1) | ((with_reducible refine gate_tmp (t := 44) rfl ?_); refine goesT_ (some 48) rfl rfl Try.func28 (by kernel_rfl) rfl #[.agg #[.int .i64 a0_0, .slice A0_1 l0_1.length c0_1], .int .i64 a1, .int .i64 a2] rfl rfl aT ?_; (with_reducible refine (alloc_behind.calls kj3 a0_0 _ _ l0_1 a1 a2 t243 false _ ?side1 ?side2 A27.1).mono ?_); (case side1 => repeat (first | exact (Kd.V_reads' HO_241001.1).2.2 | (with_reducible refine Kd.C_alloc ?_ _) | (with_reducible refine Kd.C_drewN ?_ _) | (with_reducible refine Kd.C_drew ?_))); (case side2 => exact (Kd.V_reads' HO_241001.1).2.1); rintro e w76 ⟨v244, rfl, ho0, hb⟩; refine ⟨_, rfl, ?_⟩; replace HO_241001 := vE HO_241001 ho0 hb; have HO245 := Aa (Kd.R_lower (Kd.R_newM (M := fun k_ => (w.heap.size ≤ k_)) ho0 (below_size (bS HB.1)) (fun k_ h_ => h_)) (below_size (bS HB.1))); replace BK240 := kB BK240 hb; replace BK241 := kB BK241 hb; replace HB := sB HB hb; (try clear hb); (try clear ho0); have hcz77_0 : w76.cell? ⟨gb240, 0, none⟩ = some (.int .i64 a0_0) := cC BK240 0; have hcz77_1 : w76.cell? ⟨gb240, 1, none⟩ = some (.slice A0_1 l0_1.length c0_1) := cC BK240 1; have hfz77_0 := fC BK240 0; have hfz77_1 := fC BK240 1) | ((with_reducible refine gate_tmp (t := 44) rfl ?_); refine goesT_ (some 48) rfl rfl Try.func29 (by kernel_rfl) rfl #[.agg #[.int .i64 a0_0, .slice A0_1 l0_1.length c0_1], .int .i64 a1, .int .i64 a2] rfl rfl aT ?_; (with_reducible refine (alloc_anywhere.calls a0_0 _ _ l0_1 a1 a2 t253 false _ ?side1 ?side2 A47.1).mono ?_); (case side1 => repeat (first | exact (Kd.V_reads' HO_241001.1).2.2 | (with_reducible refine Kd.C_alloc ?_ _) | (with_reducible refine Kd.C_drewN ?_ _) | (with_reducible refine Kd.C_drew ?_))); (case side2 => exact (Kd.V_reads' HO_241001.1).2.1); rintro e w78 ⟨v254, rfl, ho0, hb⟩; refine ⟨_, rfl, ?_⟩; replace HO_241001 := vE HO_241001 ho0 hb; have HO255 := Aa (Kd.R_lower (Kd.R_new' (Kd.R_newM (M := fun k_ => (w.heap.size ≤ k_)) ho0 (below_size (bS HB.1)) (fun k_ h_ => h_)) (Kd.R_lt (rU HO245.1))) (below_size (bS HB.1))); replace HO245 := rE HO245 ho0 hb; replace BK240 := kB BK240 hb; replace BK241 := kB BK241 hb; replace HB := sB HB hb; (try clear hb); (try clear ho0); have hcz79_0 : w78.cell? ⟨gb240, 0, none⟩ = some (.int .i64 a0_0) := cC BK240 0; have hcz79_1 : w78.cell? ⟨gb240, 1, none⟩ = some (.slice A0_1 l0_1.length c0_1) := cC BK240 1; have hfz79_0 := fC BK240 0; have hfz79_1 := fC BK240 1) | ((with_reducible refine gate_tmp (t := 44) rfl ?_); refine goesT_ (some 48) rfl rfl Try.func30 (by kernel_rfl) rfl #[.agg #[.int .i64 a0_0, .slice A0_1 l0_1.length c0_1], .int .i64 a1, .int .i64 a2] rfl rfl aT ?_; (with_reducible refine (alloc_pieces.calls kj3 a0_0 _ _ l0_1 a1 a2 t263 true _ ?side1 ?side2 A69.1).mono ?_); (case side1 => repeat (first | exact (Kd.V_reads' HO_241001.1).2.2 | (with_reducible refine Kd.C_alloc ?_ _) | (with_reducible refine Kd.C_drewN ?_ _) | (with_reducible refine Kd.C_drew ?_))); (case side2 => exact (Kd.V_reads' HO_241001.1).2.1); rintro e w80 ⟨v264, rfl, ho0, hb⟩; refine ⟨_, rfl, ?_⟩; replace HO_241001 := vE HO_241001 ho0 hb; have HO265 := Aa (Kd.R_lower (Kd.R_new' (Kd.R_new' (Kd.R_newM (M := fun k_ => (w.heap.size ≤ k_)) ho0 (below_size (bS HB.1)) (fun k_ h_ => h_)) (Kd.R_lt (rU HO245.1))) (Kd.R_lt (rU HO255.1))) (below_size (bS HB.1))); replace HO245 := rE HO245 ho0 hb; replace HO255 := rE HO255 ho0 hb; replace BK240 := kB BK240 hb; replace BK241 := kB BK241 hb; replace HB := sB HB hb; (try clear hb); (try clear ho0); have hcz81_0 : w80.cell? ⟨gb240, 0, none⟩ = some (.int .i64 a0_0) := cC BK240 0; have hcz81_1 : w80.cell? ⟨gb240, 1, none⟩ = some (.slice A0_1 l0_1.length c0_1) := cC BK240 1; have hfz81_0 := fC BK240 0; have hfz81_1 := fC BK240 1; obtain ⟨Ao82, co82, eo82⟩ := Kd.R_slice HO265.1; subst eo82) | ((with_reducible refine gC 27 ?_); refine gL 55 Try.func27 #[.agg #[.int .i64 a0_0, .slice A0_1 l0_1.length c0_1], .slice Ao82 t263.length co82] ?_; (with_reducible refine (alloc_Map_Mark.calls kj3 a0_0 (fun k_ => (((((P0_1_ k_ ∨ w.heap.size ≤ k_) ∧ (k_ ≠ gb240 ∧ k_ ≠ gb241)) ∧ some k_ ≠ (v244 : Value).ownBlock) ∧ some k_ ≠ (v254 : Value).ownBlock) ∧ nb k_ Ao82 t263.length co82)) _ _ l0_1 _ _ t263 t267 t268 t271 _ ?side1 ?side2 ?side3 A71.1).mono ?_); (case side1 => exact HO_241001.1); (case side2 => repeat (first | exact (Kd.R_reads' HO265.1).2.2 | (with_reducible refine Kd.C_alloc ?_ _) | (with_reducible refine Kd.C_drewN ?_ _) | (with_reducible refine Kd.C_drew ?_))); (case side3 => exact (Kd.R_reads' HO265.1).2.1); rintro e w83 ⟨v269, rfl, ho0, hb⟩; refine ⟨_, rfl, ?_⟩; replace HO_241001 := vB HO_241001 hb; have HO270 := Aa (Kd.V_lower (Kd.V_mono (ok' := fun k_ => (P0_1_ k_ ∨ w.heap.size ≤ k_) ∧ some k_ ≠ (v244 : Value).ownBlock ∧ some k_ ≠ (v254 : Value).ownBlock ∧ nb k_ Ao82 t263.length co82 ∧ k_ ≠ gb240 ∧ k_ ≠ gb241) ho0 (fun k_ hk_ => ⟨Or.elim hk_ (fun hs_ => hs_.1.1.1.1) (fun hn_ => (.inr (Nat.le_trans (below_size (bS HB.1)) hn_))), Or.elim hk_ (fun hs_ => hs_.1.1.2) (fun hn_ => (Kd.fresh' (Kd.R_lt (rU HO245.1)) k_ hn_)), Or.elim hk_ (fun hs_ => hs_.1.2) (fun hn_ => (Kd.fresh' (Kd.R_lt (rU HO255.1)) k_ hn_)), Or.elim hk_ (fun hs_ => hs_.2) (fun hn_ => (Kd.fresh' (Kd.R_lt (rU HO265.1)) k_ hn_)), Or.elim hk_ (fun hs_ => hs_.1.1.1.2.1) (fun hn_ => (Kd.freshB (g := gb240) (o := .cells #[.int .i64 a0_0, .slice A0_1 l0_1.length c0_1] 26 (0, 0)) (kU BK240.1) k_ hn_)), Or.elim hk_ (fun hs_ => hs_.1.1.1.2.2) (fun hn_ => (Kd.freshB (g := gb241) (o := .cells #[.int .i64 0, .slice none 0 0] 26 (0, 0)) (kU BK241.1) k_ hn_))⟩)) (below_size (bS HB.1))); replace HO245 := rB HO245 hb; replace HO255 := rB HO255 hb; replace HO265 := rB HO265 hb; replace BK240 := kB BK240 hb; replace BK241 := kB BK241 hb; replace HB := sB HB hb; (try clear hb); (try clear ho0)) | ((with_reducible refine gD 13 ?_); refine bE #[.int .i64 0, .slice none 0 0] 26 ?_; intro gb272 hg w84 hbox hb; replace HO_241001 := vG HO_241001 hg hb; replace HO245 := rB HO245 hb; replace HO255 := rB HO255 hb; replace HO265 := rB HO265 hb; replace HO270 := vG HO270 hg hb; have BK272 := Aa (hbox); have GW272 := gS HB hg; have GE272 := gS HB hg; have iE272 := Nonempty.intro GE272.1; replace HB := sB HB hb; have NB240_272 := nL BK240 hg; have NB272_240 := nG BK240 hg; replace BK240 := kB BK240 hb; have NB241_272 := nL BK241 hg; have NB272_241 := nG BK241 hg; replace BK241 := kB BK241 hb; clear hb hbox hg; have hnb85 := NB272_240.1; have hnc85 := NB240_272.1; have hnb86 := NB272_241.1; have hnc86 := NB241_272.1; have hcz87_0 : w84.cell? ⟨gb272, 0, none⟩ = some (.int .i64 0) := cC BK272 0; have hcz87_1 : w84.cell? ⟨gb272, 1, none⟩ = some (.slice none 0 0) := cC BK272 1; have hfz87_0 := fC BK272 0; have hfz87_1 := fC BK272 1; obtain ⟨Ao88, co88, eo88⟩ := Kd.V_slice HO270.1; subst eo88) | (refine wp_loop_rounds 4 ?_; rw [rounds_succ]) | (rw [rounds_succ]))
         have n0_ : Aside0 (Kd.V k53 53 ((w84.setCell ⟨gb272, 0, none⟩ (.int .i64 t267)).setCell ⟨gb272, 1, none⟩ (.slice Ao88 t268.length co88)) w.heap.size (fun k_ => (P0_1_ k_ ∨ w.heap.size ≤ k_) ∧ some k_ ≠ (v244 : Value).ownBlock ∧ some k_ ≠ (v254 : Value).ownBlock ∧ nb k_ Ao82 t263.length co82 ∧ k_ ≠ gb240 ∧ k_ ≠ gb241 ∧ k_ ≠ gb272) (.slice A0_1 l0_1.length c0_1) l0_1) := ⟨vU (Kd.V_mono (Kd.V_far (p := ⟨gb272, 1, none⟩) (Kd.V_far (p := ⟨gb272, 0, none⟩) (Kd.V_mono HO_241001.1 (fun k_ hk => (⟨hk, hk.2⟩ : _ ∧ k_ ≠ gb272))) (fun _ hk => hk.2) (.int .i64 t267)) (fun _ hk => hk.2) (.slice Ao88 t268.length co88)) (fun _ hk => ⟨hk.1.1.1.1.1.1, ⟨hk.1.1.1.1.2, ⟨hk.1.1.1.2, ⟨hk.1.1.2, ⟨hk.1.1.1.1.1.2.1, ⟨hk.1.1.1.1.1.2.2, hk.1.2⟩⟩⟩⟩⟩⟩))⟩
         have n1_ : Aside0 (Kd.R k53 53 ((w84.setCell ⟨gb272, 0, none⟩ (.int .i64 t267)).setCell ⟨gb272, 1, none⟩ (.slice Ao88 t268.length co88)) w.heap.size (fun k_ => (w.heap.size ≤ k_) ∧ some k_ ≠ (v254 : Value).ownBlock ∧ nb k_ Ao82 t263.length co82) v244 t243) := ⟨rU (Kd.R_mono (Kd.R_far (p := ⟨gb272, 1, none⟩) (Kd.R_far (p := ⟨gb272, 0, none⟩) (Kd.R_types HO245.1 BK272.1 (by decide)) (fun _ hk => hk.2) (.int .i64 t267)) (fun _ hk => hk.2) (.slice Ao88 t268.length co88)) (fun _ hk => ⟨hk.1.1.1.1, ⟨hk.1.1.2, hk.1.2⟩⟩))⟩
         have n2_ : Aside0 (Kd.R k53 53 ((w84.setCell ⟨gb272, 0, none⟩ (.int .i64 t267)).setCell ⟨gb272, 1, none⟩ (.slice Ao88 t268.length co88)) w.heap.size (fun k_ => (w.heap.size ≤ k_) ∧ some k_ ≠ (v244 : Value).ownBlock ∧ nb k_ Ao82 t263.length co82) v254 t253) := ⟨rU (Kd.R_mono (Kd.R_far (p := ⟨gb272, 1, none⟩) (Kd.R_far (p := ⟨gb272, 0, none⟩) (Kd.R_types HO255.1 BK272.1 (by decide)) (fun _ hk => hk.2) (.int .i64 t267)) (fun _ hk => hk.2) (.slice Ao88 t268.length co88)) (fun _ hk => ⟨hk.1.1.1.1, ⟨hk.1.1.2, hk.1.2⟩⟩))⟩
         have n3_ : Aside0 (Kd.R k53 53 ((w84.setCell ⟨gb272, 0, none⟩ (.int .i64 t267)).setCell ⟨gb272, 1, none⟩ (.slice Ao88 t268.length co88)) w.heap.size (fun k_ => (w.heap.size ≤ k_) ∧ some k_ ≠ (v244 : Value).ownBlock ∧ some k_ ≠ (v254 : Value).ownBlock) (.slice Ao82 t263.length co82) t263) := ⟨rU (Kd.R_mono (Kd.R_far (p := ⟨gb272, 1, none⟩) (Kd.R_far (p := ⟨gb272, 0, none⟩) (Kd.R_types HO265.1 BK272.1 (by decide)) (fun _ hk => hk.2) (.int .i64 t267)) (fun _ hk => hk.2) (.slice Ao88 t268.length co88)) (fun _ hk => ⟨hk.1.1.1.1, ⟨hk.1.1.2, hk.1.2⟩⟩))⟩
         have n4_ : Aside0 (Kd.V k53 53 ((w84.setCell ⟨gb272, 0, none⟩ (.int .i64 t267)).setCell ⟨gb272, 1, none⟩ (.slice Ao88 t268.length co88)) w.heap.size (fun k_ => (P0_1_ k_ ∨ w.heap.size ≤ k_) ∧ some k_ ≠ (v244 : Value).ownBlock ∧ some k_ ≠ (v254 : Value).ownBlock ∧ nb k_ Ao82 t263.length co82 ∧ k_ ≠ gb240 ∧ k_ ≠ gb241 ∧ k_ ≠ gb272) (.slice Ao88 t268.length co88) t268) := ⟨vU (Kd.V_mono (Kd.V_far (p := ⟨gb272, 1, none⟩) (Kd.V_far (p := ⟨gb272, 0, none⟩) (Kd.V_mono HO270.1 (fun k_ hk => (⟨hk, hk.2⟩ : _ ∧ k_ ≠ gb272))) (fun _ hk => hk.2) (.int .i64 t267)) (fun _ hk => hk.2) (.slice Ao88 t268.length co88)) (fun _ hk => ⟨hk.1.1.1, ⟨hk.1.1.2.1, ⟨hk.1.1.2.2.1, ⟨hk.1.1.2.2.2.1, ⟨hk.1.1.2.2.2.2.1, ⟨hk.1.1.2.2.2.2.2, hk.1.2⟩⟩⟩⟩⟩⟩))⟩
         have n5_ : Aside0 (((w84.setCell ⟨gb272, 0, none⟩ (.int .i64 t267)).setCell ⟨gb272, 1, none⟩ (.slice Ao88 t268.length co88)).heap[gb240]? = some (.cells #[.int .i64 a0_0, .slice A0_1 l0_1.length c0_1] 26 (0, 0))) := ⟨by refine kP ?_; refine blk_far ?_ NB240_272.1 _; refine kP ?_; refine blk_far ?_ NB240_272.1 _; refine kP ?_; exact BK240.1⟩
         have n6_ : Aside0 (((w84.setCell ⟨gb272, 0, none⟩ (.int .i64 t267)).setCell ⟨gb272, 1, none⟩ (.slice Ao88 t268.length co88)).heap[gb241]? = some (.cells #[.int .i64 0, .slice none 0 0] 26 (0, 0))) := ⟨by refine kP ?_; refine blk_far ?_ NB241_272.1 _; refine kP ?_; refine blk_far ?_ NB241_272.1 _; refine kP ?_; exact BK241.1⟩
         have n7_ : Aside0 (((w84.setCell ⟨gb272, 0, none⟩ (.int .i64 t267)).setCell ⟨gb272, 1, none⟩ (.slice Ao88 t268.length co88)).heap[gb272]? = some (.cells #[.int .i64 t267, .slice Ao88 t268.length co88] 26 (0, 0))) := ⟨by refine kP ?_; refine blk_put (cs := #[.int .i64 t267, .slice none 0 0]) ?_ 1 _ rfl; refine kP ?_; refine blk_put (cs := #[.int .i64 0, .slice none 0 0]) ?_ 0 _ rfl; refine kP ?_; exact BK272.1⟩
         have n8_ : Aside0 (Below w.heap.size w ((w84.setCell ⟨gb272, 0, none⟩ (.int .i64 t267)).setCell ⟨gb272, 1, none⟩ (.slice Ao88 t268.length co88))) := ⟨bS HB.1⟩
         (try clear HO_241001)
         (try clear HO245)
         (try clear HO255)
         (try clear HO265)
         (try clear HO270)
         (try clear BK240)
         (try clear BK241)
         (try clear BK272)
         (try clear HB)
         generalize ((w84.setCell ⟨gb272, 0, none⟩ (.int .i64 t267)).setCell ⟨gb272, 1, none⟩ (.slice Ao88 t268.length co88)) = w89 at n0_ n1_ n2_ n3_ n4_ n5_ n6_ n7_ n8_ ⊢
         have HO_241001 := n0_
         have HO245 := n1_
         have HO255 := n2_
         have HO265 := n3_
         have HO270 := n4_
         have BK240 := n5_
         have BK241 := n6_
         have BK272 := n7_
         have HB := n8_
         clear n0_ n1_ n2_ n3_ n4_ n5_ n6_ n7_ n8_
         replace HO_241001 := Aa (Kd.V_drew HO_241001.1)
         replace HO245 := Aa (Kd.R_drew HO245.1)
         replace HO255 := Aa (Kd.R_drew HO255.1)
         replace HO265 := Aa (Kd.R_drew HO265.1)
         replace HO270 := Aa (Kd.V_drew HO270.1)
         replace BK240 := Aa (blk_drew BK240.1)
         replace BK241 := Aa (blk_drew BK241.1)
         replace BK272 := Aa (blk_drew BK272.1)
         replace HB := Aa (below_drew1 HB.1)
         refine start_ (n := 6) (S := fun w' => w'.cell? ⟨gb272, 0, none⟩ = some (.int .i64 t267) ∧ w'.cell? ⟨gb272, 1, none⟩ = some (.slice Ao88 t268.length co88)) (ds := []) (bm 6 0) (by kernel_rfl) rfl (bm0 _) ⟨cC BK272 0, cC BK272 1⟩ (fun hHeld => ?_)
         generalize w89.drew = w90 at HO_241001 HO245 HO255 HO265 HO270 BK240 BK241 BK272 HB hHeld ⊢
         refine pure_ (i := 0) (N := some 58) (v := ?_) (a' := ?_) (bm 6 1) rfl rfl (by kernel_rfl) (fun _ _ _ h => h) (Or.inl ⟨by rfl, ?_⟩) ?_ ?_
         rotate_left
         ·
          intro w'; go_simp; with_reducible rfl
         rotate_left
         ·
          simp only [AP]; rfl
         refine pure_ (i := 2) (N := some 60) (v := ?_) (a' := ?_) (bm 6 5) rfl rfl (by kernel_rfl) (fun _ _ _ h => h) (Or.inl ⟨by rfl, ?_⟩) ?_ ?_
         rotate_left
         ·
          intro w'; go_simp; with_reducible rfl
         rotate_left
         ·
          simp only [AP]; rfl
         refine pure_ (i := 3) (N := some 6) (v := ?_) (a' := ?_) (bm 6 13) rfl rfl (by kernel_rfl) (fun _ _ _ h => h) (Or.inl ⟨by rfl, ?_⟩) ?_ ?_
         rotate_left
         ·
          intro w'; go_simp; with_reducible rfl
         rotate_left
         ·
          simp only [AP]; rfl
         refine take_ (i := 1) (N := some 59) (v := ?_) (a' := ?_) (bm 6 15) rfl rfl (by kernel_rfl) (fun _ _ _ h => h) (Or.inl ⟨by rfl, ?_⟩) hHeld ?_ ?_
         rotate_left
         ·
          rintro w' ⟨s0, s1⟩
          go_simp; with_reducible rfl
         rotate_left
         ·
          simp only [AP]; rfl
         refine one_ (i := 4) (N := none) (bm 6 31) rfl rfl (by kernel_rfl) (by decide) (fun K hK => ?_)
         have hs91 : w90.cell? ⟨gb241, 0, none⟩ = some (.int .i64 0) := cC BK241 0
         have hfs91 := fC BK241 0
         have hns91_0 := NB240_241.1
         have hns91_2 := NB272_241.1
         have hms91_0 := NB241_240.1
         have hms91_2 := NB241_272.1
         have hs92 : w90.cell? ⟨gb241, 1, none⟩ = some (.slice none 0 0) := cC BK241 1
         have hfs92 := fC BK241 1
         have hns92_0 := NB240_241.1
         have hns92_2 := NB272_241.1
         have hms92_0 := NB241_240.1
         have hms92_2 := NB241_272.1
         refine skip_ (w1 := ?_) (by rfl) rfl ?_ ?_
         rotate_left
         ·
          go_simp; rfl
         refine hK.out _ _ ⟨((cell_far (p := ⟨gb241, _, none⟩) NB272_241.1 _).trans (((cell_far (p := ⟨gb241, _, none⟩) NB272_241.1 _).trans (hHeld.1)))), ((cell_far (p := ⟨gb241, _, none⟩) NB272_241.1 _).trans (((cell_far (p := ⟨gb241, _, none⟩) NB272_241.1 _).trans (hHeld.2))))⟩ (fun hHeld => ?_)
         clear hK K
         refine pure_ (i := 5) (N := some 8) (v := ?_) (a' := ?_) (bm 6 63) rfl rfl (by kernel_rfl) (fun _ _ _ h => h) (Or.inl ⟨by rfl, ?_⟩) ?_ ?_
         rotate_left
         ·
          intro w'; go_simp; with_reducible rfl
         rotate_left
         ·
          simp only [AP]; rfl
         refine done_ (by kernel_rfl) ?_
         try go_wp2
         refine bodyPost_ret (results_list (rs := [.tmp 6, .cell 7 26, .tmp 8]) rfl (by simp) (.tmp (.cell gb241 26 #[.int .i64 t267, .slice Ao88 t268.length co88] (0, 0) _ rfl (by refine kP ?_; refine blk_put (cs := #[.int .i64 t267, .slice none 0 0]) ?_ 1 _ rfl; refine kP ?_; refine blk_put (cs := #[.int .i64 0, .slice none 0 0]) ?_ 0 _ rfl; refine kP ?_; exact BK241.1) Try.underlying26 rfl (by kernel_rfl) (.tmp .nil)))) rfl ?_
         exact ⟨_, _, fT, rU (Kd.R_mono (Kd.R_far (p := ⟨gb241, 1, none⟩) (Kd.R_far (p := ⟨gb241, 0, none⟩) (Kd.R_types HO265.1 BK241.1 (by decide)) (fun _ hk => hk.2) (.int .i64 t267)) (fun _ hk => hk.2) (.slice Ao88 t268.length co88)) (fun _ hk => hk.1.1)), vU (Kd.V_mono (Kd.V_far (p := ⟨gb241, 1, none⟩) (Kd.V_far (p := ⟨gb241, 0, none⟩) (Kd.V_mono HO270.1 (fun k_ hk => (⟨hk, hk.2.2.2.2.2.1⟩ : _ ∧ k_ ≠ gb241))) (fun _ hk => hk.2) (.int .i64 t267)) (fun _ hk => hk.2) (.slice Ao88 t268.length co88)) (fun _ hk => ⟨hk.1.1, hk.1.2.2.2.1⟩)), bS HB.1⟩
        ·
         replace c70 := Bool.eq_false_iff.mpr c70
         subst c70
         have H1 : (some (([] : List (S53)), 0, ([] : List (S53)), 11)) = some (r1, r2, r3, r4) := by rw [if_neg (show ¬ (false = true) by decide)] at H; exact H
         clear H
         have H := H1
         clear H1
         simp only [Option.some.injEq, Prod.mk.injEq] at H
         obtain ⟨rfl, rfl, rfl, rfl⟩ := H
         have hnb93 := NB240_241.1
         have hnc93 := NB241_240.1
         have hcz94_0 : wc.cell? ⟨gb240, 0, none⟩ = some (.int .i64 a0_0) := cC BK240 0
         have hcz94_1 : wc.cell? ⟨gb240, 1, none⟩ = some (.slice A0_1 l0_1.length c0_1) := cC BK240 1
         have hfz94_0 := fC BK240 0
         have hfz94_1 := fC BK240 1
         go_wp2_with (first | ((with_reducible refine gC 15 ?_); refine gL 32 Try.func15 #[.agg #[.int .i64 a0_0, .slice A0_1 l0_1.length c0_1]] ?_; (with_reducible refine (alloc_Map_Free.calls kj3 a0_0 _ _ l0_1 t242 _ ?side1 ?side2 A14.1).mono ?_); (case side1 => repeat (first | exact (Kd.V_reads' HO_241001.1).2.2 | (with_reducible refine Kd.C_alloc ?_ _) | (with_reducible refine Kd.C_drewN ?_ _) | (with_reducible refine Kd.C_drew ?_))); (case side2 => exact (Kd.V_reads' HO_241001.1).2.1); rintro e w95 ⟨rfl, hb⟩; refine ⟨_, rfl, ?_⟩; replace HO_241001 := vB HO_241001 hb; replace BK240 := kB BK240 hb; replace BK241 := kB BK241 hb; replace HB := sB HB hb; (try clear hb); have hcz96_0 : w95.cell? ⟨gb240, 0, none⟩ = some (.int .i64 a0_0) := cC BK240 0; have hcz96_1 : w95.cell? ⟨gb240, 1, none⟩ = some (.slice A0_1 l0_1.length c0_1) := cC BK240 1; have hfz96_0 := fC BK240 0; have hfz96_1 := fC BK240 1) | ((with_reducible refine gate_tmp (t := 44) rfl ?_); refine goesT_ (some 48) rfl rfl Try.func28 (by kernel_rfl) rfl #[.agg #[.int .i64 a0_0, .slice A0_1 l0_1.length c0_1], .int .i64 a1, .int .i64 a2] rfl rfl aT ?_; (with_reducible refine (alloc_behind.calls kj3 a0_0 _ _ l0_1 a1 a2 t243 false _ ?side1 ?side2 A27.1).mono ?_); (case side1 => repeat (first | exact (Kd.V_reads' HO_241001.1).2.2 | (with_reducible refine Kd.C_alloc ?_ _) | (with_reducible refine Kd.C_drewN ?_ _) | (with_reducible refine Kd.C_drew ?_))); (case side2 => exact (Kd.V_reads' HO_241001.1).2.1); rintro e w97 ⟨v244, rfl, ho0, hb⟩; refine ⟨_, rfl, ?_⟩; replace HO_241001 := vE HO_241001 ho0 hb; have HO245 := Aa (Kd.R_lower (Kd.R_newM (M := fun k_ => (w.heap.size ≤ k_)) ho0 (below_size (bS HB.1)) (fun k_ h_ => h_)) (below_size (bS HB.1))); replace BK240 := kB BK240 hb; replace BK241 := kB BK241 hb; replace HB := sB HB hb; (try clear hb); (try clear ho0); have hcz98_0 : w97.cell? ⟨gb240, 0, none⟩ = some (.int .i64 a0_0) := cC BK240 0; have hcz98_1 : w97.cell? ⟨gb240, 1, none⟩ = some (.slice A0_1 l0_1.length c0_1) := cC BK240 1; have hfz98_0 := fC BK240 0; have hfz98_1 := fC BK240 1) | ((with_reducible refine gate_tmp (t := 44) rfl ?_); refine goesT_ (some 48) rfl rfl Try.func29 (by kernel_rfl) rfl #[.agg #[.int .i64 a0_0, .slice A0_1 l0_1.length c0_1], .int .i64 a1, .int .i64 a2] rfl rfl aT ?_; (with_reducible refine (alloc_anywhere.calls a0_0 _ _ l0_1 a1 a2 t253 false _ ?side1 ?side2 A47.1).mono ?_); (case side1 => repeat (first | exact (Kd.V_reads' HO_241001.1).2.2 | (with_reducible refine Kd.C_alloc ?_ _) | (with_reducible refine Kd.C_drewN ?_ _) | (with_reducible refine Kd.C_drew ?_))); (case side2 => exact (Kd.V_reads' HO_241001.1).2.1); rintro e w99 ⟨v254, rfl, ho0, hb⟩; refine ⟨_, rfl, ?_⟩; replace HO_241001 := vE HO_241001 ho0 hb; have HO255 := Aa (Kd.R_lower (Kd.R_new' (Kd.R_newM (M := fun k_ => (w.heap.size ≤ k_)) ho0 (below_size (bS HB.1)) (fun k_ h_ => h_)) (Kd.R_lt (rU HO245.1))) (below_size (bS HB.1))); replace HO245 := rE HO245 ho0 hb; replace BK240 := kB BK240 hb; replace BK241 := kB BK241 hb; replace HB := sB HB hb; (try clear hb); (try clear ho0); have hcz100_0 : w99.cell? ⟨gb240, 0, none⟩ = some (.int .i64 a0_0) := cC BK240 0; have hcz100_1 : w99.cell? ⟨gb240, 1, none⟩ = some (.slice A0_1 l0_1.length c0_1) := cC BK240 1; have hfz100_0 := fC BK240 0; have hfz100_1 := fC BK240 1) | ((with_reducible refine gate_tmp (t := 44) rfl ?_); refine goesT_ (some 48) rfl rfl Try.func30 (by kernel_rfl) rfl #[.agg #[.int .i64 a0_0, .slice A0_1 l0_1.length c0_1], .int .i64 a1, .int .i64 a2] rfl rfl aT ?_; (with_reducible refine (alloc_pieces.calls kj3 a0_0 _ _ l0_1 a1 a2 t263 false _ ?side1 ?side2 A69.1).mono ?_); (case side1 => repeat (first | exact (Kd.V_reads' HO_241001.1).2.2 | (with_reducible refine Kd.C_alloc ?_ _) | (with_reducible refine Kd.C_drewN ?_ _) | (with_reducible refine Kd.C_drew ?_))); (case side2 => exact (Kd.V_reads' HO_241001.1).2.1); rintro e w101 ⟨v264, rfl, ho0, hb⟩; refine ⟨_, rfl, ?_⟩; replace HO_241001 := vE HO_241001 ho0 hb; have HO265 := Aa (Kd.R_lower (Kd.R_new' (Kd.R_new' (Kd.R_newM (M := fun k_ => (w.heap.size ≤ k_)) ho0 (below_size (bS HB.1)) (fun k_ h_ => h_)) (Kd.R_lt (rU HO245.1))) (Kd.R_lt (rU HO255.1))) (below_size (bS HB.1))); replace HO245 := rE HO245 ho0 hb; replace HO255 := rE HO255 ho0 hb; replace BK240 := kB BK240 hb; replace BK241 := kB BK241 hb; replace HB := sB HB hb; (try clear hb); (try clear ho0); have hcz102_0 : w101.cell? ⟨gb241, 0, none⟩ = some (.int .i64 0) := cC BK241 0; have hcz102_1 : w101.cell? ⟨gb241, 1, none⟩ = some (.slice none 0 0) := cC BK241 1; have hfz102_0 := fC BK241 0; have hfz102_1 := fC BK241 1) | (refine wp_loop_rounds 4 ?_; rw [rounds_succ]) | (rw [rounds_succ]))
         refine bodyPost_ret (results_list (rs := [.tmp 6, .cell 7 26, .tmp 8]) rfl (by simp) (.tmp (.cell gb241 26 #[.int .i64 0, .slice none 0 0] (0, 0) _ rfl (by refine kP ?_; refine blk_put (cs := #[.int .i64 0, .slice none 0 0]) ?_ 1 _ rfl; refine kP ?_; refine blk_put (cs := #[.int .i64 0, .slice none 0 0]) ?_ 0 _ rfl; refine kP ?_; exact BK241.1) Try.underlying26 rfl (by kernel_rfl) (.tmp .nil)))) rfl ?_
         exact ⟨_, _, fT, by first | exact Kd.R_nil _ _ _ _ _ | exact Kd.N_nil _ _ _ _ _ | exact Kd.V_nil _ _ _ _ _ | exact Kd.Q_nil _ _ _ _ _ | exact Kd.S_nil _ _ _ _ _, Kd.V_nil _ _ _ _ _, bS HB.1⟩

/-! ### tegularef32_Same: function 13 -/
def tegularef32_Same.l0 : Nat → List (S53) → List (S53) → Int → Option (Bool)
 | 0, _, _, _ => none
 | k + 1, x0, x1, x5 => if x5 < (x0.length : Int) then (if 0 ≤ x5 then (if x5 < (x1.length : Int) then (if (!(((rd_T53 x0 x5).f0) == ((rd_T53 x1 x5).f0)) || (!(((rd_T53 x0 x5).f1) == ((rd_T53 x1 x5).f1)) || (!(((rd_T53 x0 x5).f2) == ((rd_T53 x1 x5).f2))))) = true then (some false) else (tegularef32_Same.l0 k x0 x1 (wrap64 (x5 + 1)))) else (none)) else (none)) else (some true)
def tegularef32_Same.f (k : Nat) (l0 : List (S53)) (l1 : List (S53)) : Option (Bool) := if (l0.length : Int) = (l1.length : Int) then (tegularef32_Same.l0 k l0 l1 0) else (some false)
theorem tegularef32_Same.mono_l : ∀ k, (∀ y0 y1 y2, LeO (tegularef32_Same.l0 k y0 y1 y2) (tegularef32_Same.l0 (k + 1) y0 y1 y2))
 | 0 => fun _ _ _ r h => by simp [tegularef32_Same.l0] at h
 | k + 1 => by
  have ih0 := tegularef32_Same.mono_l k
  ·
   intro y0 y1 y2
   unfold tegularef32_Same.l0
   repeat' first
   | (with_reducible exact ih0 _ _ _)
   | (with_reducible exact LeO.refl _)
   | (with_reducible exact LeO.none _)
   | (with_reducible refine LeO.ite ?_ ?_)
   | (with_reducible refine LeO.bind ?_ (fun _ => ?_))
   | exact ih0 _ _ _
   | exact LeO.none _
   | refine LeO.ite ?_ ?_
   | refine LeO.bind ?_ (fun _ => ?_)
theorem tegularef32_Same.mono : ∀ a0 a1 k, LeO (tegularef32_Same.f k a0 a1) (tegularef32_Same.f (k + 1) a0 a1) := by
 intro a0 a1 k
 have ih0 := tegularef32_Same.mono_l k
 unfold tegularef32_Same.f
 repeat' first
   | (with_reducible exact ih0 _ _ _)
   | (with_reducible exact LeO.refl _)
   | (with_reducible exact LeO.none _)
   | (with_reducible refine LeO.ite ?_ ?_)
   | (with_reducible refine LeO.bind ?_ (fun _ => ?_))
   | exact ih0 _ _ _
   | exact LeO.none _
   | refine LeO.ite ?_ ?_
   | refine LeO.bind ?_ (fun _ => ?_)
set_option maxHeartbeats 8000000 in
set_option maxRecDepth 100000 in
theorem tegularef32_Same.calls (k : Nat) (A0 : Option Addr) (c0 : Nat) (l0 : List (S53)) (A1 : Option Addr) (c1 : Nat) (l1 : List (S53)) (r : Bool) (w : World) (hr0 : Kd.C k53 w A0 l0.length l0) (hc0 : l0.length ≤ c0) (hr1 : Kd.C k53 w A1 l1.length l1) (hc1 : l1.length ≤ c1) (h : tegularef32_Same.f k l0 l1 = some r) :
  Calls Try.prog 13 #[.slice A0 l0.length c0, .slice A1 l1.length c1] w fun e w' => e = .returned (.bool r) ∧ Drawn0 w w' := by
 have hu53 := Try.underlying53
 have HR0 := Aside0.mk hr0
 have HC0 := Aside0.mk hc0
 clear hr0 hc0
 have HR1 := Aside0.mk hr1
 have HC1 := Aside0.mk hc1
 clear hr1 hc1
 have H : (if (l0.length : Int) = (l1.length : Int) then (tegularef32_Same.l0 k l0 l1 0) else (some false)) = some r := h
 clear h
 by_cases c3 : (l0.length : Int) = (l1.length : Int)
 ·
  rw [if_pos c3] at H
  have c3b0 : ((l0.length : Int) == (l1.length : Int)) = true := beq_iff_eq.mpr c3
  have c3b1 : ((l0.length : Int) != (l1.length : Int)) = false := bne_eq_false_iff_eq.mpr c3
  have c3b2 : (l0.length == l1.length) = true := by first | simpa using c3 | (simp at c3 ⊢; omega)
  clear c3
  have H' := Aside0.mk H
  clear H
  go_enter Try.func13, Try.ntmps13
  go_wp2
  repeat (go_quiet (fail); try go_wp2)
  go_loopg [5] k (fun kq v5 w' => ∃ (x5_1 : Int), v5 = .int .i64 x5_1 ∧ Aside0 (tegularef32_Same.l0 kq l0 l1 x5_1 = some r) ∧ Aside0 (kq ≤ k) ∧ Drawn0 w w')
  case atStart => exact ⟨(0), (by first | rfl | (simp; done) | (simp [*]; done)), H', ⟨Nat.le_refl _⟩, by repeat (first | exact Drawn0.refl _ | apply Drawn0.step)⟩
  case round =>
   clear H'
   try clear c1
   try clear p2
   try clear c3
   try clear c3b0
   try clear c3b1
   try clear c3b2
   obtain ⟨x5_1, rfl, HA, HK1, ⟨m1, rfl⟩⟩ := hrel
   cases gk with
   | zero => exact absurd HA.1 (by simp [tegularef32_Same.l0])
   | succ k1 =>
    have H := HA.1
    clear HA
    simp only [tegularef32_Same.l0] at H
    by_cases c4 : x5_1 < (l0.length : Int)
    ·
     rw [if_pos c4] at H
     have c4b0 := decide_eq_true c4
     clear c4
     by_cases c5 : 0 ≤ x5_1
     ·
      rw [if_pos c5] at H
      have c5b0 := decide_eq_true c5
      clear c5
      by_cases c6 : x5_1 < (l1.length : Int)
      ·
       rw [if_pos c6] at H
       have c6b0 := decide_eq_true c6
       clear c6
       by_cases c7 : (!(((rd_T53 l0 x5_1).f0) == ((rd_T53 l1 x5_1).f0)) || (!(((rd_T53 l0 x5_1).f1) == ((rd_T53 l1 x5_1).f1)) || (!(((rd_T53 l0 x5_1).f2) == ((rd_T53 l1 x5_1).f2))))) = true
       ·
        rw [if_pos c7] at H
        have c7b0 : (!(((rd_T53 l0 x5_1).f0) == ((rd_T53 l1 x5_1).f0)) || (!(((rd_T53 l0 x5_1).f1) == ((rd_T53 l1 x5_1).f1)) || (!(((rd_T53 l0 x5_1).f2) == ((rd_T53 l1 x5_1).f2))))) = true := c7
        clear c7
        obtain rfl := Option.some.inj H
        have p273 : 0 ≤ (x5_1 : Int) := dT
        have q273 : x5_1 < (l0.length : Int) := dT
        obtain ⟨ad273, e273, hx273_0, hx273_1, hx273_2⟩ := at_T53 HR0.1 x5_1 p273 q273
        cases e273
        replace p273 := eq_true p273
        replace q273 := eq_true q273
        have p274 : 0 ≤ (x5_1 : Int) := dT
        have q274 : x5_1 < (l1.length : Int) := dT
        obtain ⟨ad274, e274, hx274_0, hx274_1, hx274_2⟩ := at_T53 HR1.1 x5_1 p274 q274
        cases e274
        replace p274 := eq_true p274
        replace q274 := eq_true q274
        go_wp2
        repeat (go_quiet (fail); try go_wp2)
        go_ret
        exact ⟨by first | rfl | (simp; done) | (simp [*]; done), by repeat (first | exact Drawn0.refl _ | apply Drawn0.step)⟩
       ·
        rw [if_neg c7] at H
        have c7b0 : (!(((rd_T53 l0 x5_1).f0) == ((rd_T53 l1 x5_1).f0)) || (!(((rd_T53 l0 x5_1).f1) == ((rd_T53 l1 x5_1).f1)) || (!(((rd_T53 l0 x5_1).f2) == ((rd_T53 l1 x5_1).f2))))) = false := by simpa using c7
        clear c7
        have H' := Aside0.mk H
        clear H
        have p273 : 0 ≤ (x5_1 : Int) := dT
        have q273 : x5_1 < (l0.length : Int) := dT
        obtain ⟨ad273, e273, hx273_0, hx273_1, hx273_2⟩ := at_T53 HR0.1 x5_1 p273 q273
        cases e273
        replace p273 := eq_true p273
        replace q273 := eq_true q273
        have p274 : 0 ≤ (x5_1 : Int) := dT
        have q274 : x5_1 < (l1.length : Int) := dT
        obtain ⟨ad274, e274, hx274_0, hx274_1, hx274_2⟩ := at_T53 HR1.1 x5_1 p274 q274
        cases e274
        replace p274 := eq_true p274
        replace q274 := eq_true q274
        go_wp2
        repeat (go_quiet (fail); try go_wp2)
        go_roundg k1
        case measure => have := HK1.1; omega
        case rel => exact ⟨(wrap64 (x5_1 + 1)), (by first | rfl | (simp; done) | (simp [*]; done)), H', ⟨by have := HK1.1; omega⟩, by repeat (first | exact Drawn0.refl _ | apply Drawn0.step)⟩
      ·
       rw [if_neg c6] at H
       exact absurd H (by simp)
     ·
      rw [if_neg c5] at H
      exact absurd H (by simp)
    ·
     rw [if_neg c4] at H
     have c4b0 := decide_eq_false c4
     clear c4
     obtain rfl := Option.some.inj H
     go_wp2
     repeat (go_quiet (fail); try go_wp2)
     go_ret
     exact ⟨by first | rfl | (simp; done) | (simp [*]; done), by repeat (first | exact Drawn0.refl _ | apply Drawn0.step)⟩
 ·
  rw [if_neg c3] at H
  have c3b0 : ((l0.length : Int) == (l1.length : Int)) = false := beq_eq_false_iff_ne.mpr c3
  have c3b1 : ((l0.length : Int) != (l1.length : Int)) = true := bne_iff_ne.mpr c3
  have c3b2 : (l0.length == l1.length) = false := by first | simpa using c3 | (simp at c3 ⊢; omega)
  obtain rfl := Option.some.inj H
  go_enter Try.func13, Try.ntmps13
  go_wp2
  repeat (go_quiet (fail); try go_wp2)
  go_ret
  exact ⟨by first | rfl | (simp; done) | (simp [*]; done), by repeat (first | exact Drawn0.refl _ | apply Drawn0.step)⟩

/-! ### tegulalaw35_run: function 14 -/
def tegulalaw35_run.f (a0 : Int) (a1 : Int) : Option ((List (S53))) := some (([(⟨0, a1, a0⟩ : S53)] : List (S53)))
set_option maxHeartbeats 8000000 in
set_option maxRecDepth 100000 in
theorem tegulalaw35_run.calls (a0 : Int) (a1 : Int) (r : List (S53)) (w : World) (h : tegulalaw35_run.f a0 a1 = some r) :
  Calls Try.prog 14 #[.int .i64 a0, .int .i64 a1] w fun e w' => ∃ v0_ : Value, e = .returned (v0_) ∧ Kd.R k53 53 w' w.heap.size (fun _ => True) v0_ r ∧ Below w.heap.size w w' := by
 have hu53 := Try.underlying53
 have HB := Aa (Below.refl w.heap.size w)
 have H : (some (([(⟨0, a1, a0⟩ : S53)] : List (S53)))) = some r := h
 clear h
 obtain ⟨y275, hy275⟩ : ∃ y_ : List (S53), y_ = (([(⟨0, a1, a0⟩ : S53)] : List (S53))) := ⟨_, rfl⟩
 replace H : (some y275) = some r := by first | (rw [hy275]; exact H) | exact H
 have Ny275 := Aside0.mk hy275
 clear hy275
 obtain rfl := Option.some.inj H
 go_enter Try.func14, Try.ntmps14
 go_wp2_with (first | ((with_reducible refine gD 8 ?_); refine Kd.R_lit k53 _ 53 ?hg (N := 8) ?hd (xs := ([(⟨0, a1, a0⟩ : S53)] : List (S53))) (inner := [.int .i64 0, .int .i64 a1, .int .i64 a0]) (ok := fun _ => True) (okp := fun _ => True) ?hr ?hp (fun _ hk => hk) trivial (Below.refl _ _) (Nat.le_refl _) (by simp) ?_; (case hd => rfl); (case hg => rfl); (case hr => first | (go_simp; done) | (go_simp; rfl)); (case hp => exact (Reps.c3 (show Kd.M k53 _ _ _ (⟨0, a1, a0⟩ : S53) [.int .i64 0, .int .i64 a1, .int .i64 a0] from (k53_mkM _ _ _ (⟨0, a1, a0⟩ : S53) )) (Reps.none _ _))); intro v276 w3 ho4 hb hg_ hnew_; clear hg_ hnew_; (first | rw [← Ny275.1] at ho4 | (simp only [Int.reduceToNat] at ho4; rw [← Ny275.1] at ho4)); have HO277 := Aa (Kd.R_lower ho4 (below_size (bU HB.1))); replace HB := sU HB hb; clear hb ho4))
 go_ret
 exact ⟨_, fT, rU HO277.1, bU HB.1⟩

end Go.Proofs.Ytcjpikjbjehjeaa.PAllocB
