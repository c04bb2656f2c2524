-- Written for this claim by a program of this session (wip/), out of the translation's own print: Lean checks it
import Derived.Test.YtcgihjpnemnkeaaPExtentRunsx0
import Derived.Test.YtcgihjpnemnkeaaPExtentRunsx1
import Derived.Test.YtcgihjpnemnkeaaPExtentRunsx2
import Derived.Test.YtcgihjpnemnkeaaPExtentRunsx3
import Derived.Test.YtcgihjpnemnkeaaPExtentRunsx4
import Derived.Test.YtcgihjpnemnkeaaPExtentRunsx5
namespace Go.Proofs.Ytcgihjpnemnkeaa.PExtentRuns
open Go.RowKit Go.Proofs.YtcgihjpnemnkeaaW.PrintWords Go.Proofs.YtcgihjpnemnkeaaW.PrintLast Go.Proofs.YtcgihjpnemnkeaaW.PrintMore
attribute [local go_sem] max2_int min2_int max_two min_two max_three min_three max_four min_four   -- for this text's walks alone
set_option linter.unusedVariables false
set_option linter.unusedSimpArgs false

attribute [local go_sem high] eqA33
/-! ### extent_Cut: function 13 -/
mutual
def extent_Cut.j0 : Nat → List (S33) → Int → Int → Bool → Option ((List (S33)) × (List (S33)) × Int)
 | 0, _, _, _, _ => none
 | k + 1, x0, x1, x2, x27 => if x27 = true then (some (([] : List (S33)), ([] : List (S33)), 1)) else (extent_Cut.l0 k x1 x2 ([] : List (S33)) ([] : List (S33)) x0 (x0.length : Int) 0)
def extent_Cut.l0 : Nat → Int → Int → List (S33) → List (S33) → List (S33) → Int → Int → Option ((List (S33)) × (List (S33)) × Int)
 | 0, _, _, _, _, _, _, _ => none
 | k + 1, x1, x2, x9, x10, x28, x29, x30 => if x30 < x29 then (if 0 ≤ x30 then (if x30 < (x28.length : Int) then ((extent_part.f ((rd_T33 x28 x30).f0) ((rd_T33 x28 x30).f1) ((rd_T33 x28 x30).f2) 0 x1).bind fun bt133 => (if bt133.2.2.2 = true then ((extent_push.f x9 bt133.1 bt133.2.1 bt133.2.2.1).bind fun t138 => (extent_Cut.j2 k x1 x2 t138 x10 x28 x29 x30 ((rd_T33 x28 x30).f0) ((rd_T33 x28 x30).f1) ((rd_T33 x28 x30).f2))) else (extent_Cut.j2 k x1 x2 x9 x10 x28 x29 x30 ((rd_T33 x28 x30).f0) ((rd_T33 x28 x30).f1) ((rd_T33 x28 x30).f2)))) else (none)) else (none)) else (some (x9, x10, 0))
def extent_Cut.j2 : Nat → Int → Int → List (S33) → List (S33) → List (S33) → Int → Int → Int → Int → Int → Option ((List (S33)) × (List (S33)) × Int)
 | 0, _, _, _, _, _, _, _, _, _, _ => none
 | k + 1, x1, x2, x9, x10, x28, x29, x30, x133000, x133001, x133002 => (extent_part.f x133000 x133001 x133002 x1 (wrap64 (x1 + x2))).bind fun bt141 => (if bt141.2.2.2 = true then ((extent_push.f x10 bt141.1 bt141.2.1 bt141.2.2.1).bind fun t146 => (extent_Cut.j3 k x1 x2 x9 t146 x28 x29 x30 x133000 x133001 x133002)) else (extent_Cut.j3 k x1 x2 x9 x10 x28 x29 x30 x133000 x133001 x133002))
def extent_Cut.j3 : Nat → Int → Int → List (S33) → List (S33) → List (S33) → Int → Int → Int → Int → Int → Option ((List (S33)) × (List (S33)) × Int)
 | 0, _, _, _, _, _, _, _, _, _, _ => none
 | k + 1, x1, x2, x9, x10, x28, x29, x30, x133000, x133001, x133002 => (extent_part.f x133000 x133001 x133002 (wrap64 (x1 + x2)) 65536).bind fun bt149 => (if bt149.2.2.2 = true then ((extent_push.f x9 bt149.1 bt149.2.1 bt149.2.2.1).bind fun t154 => (extent_Cut.l0 k x1 x2 t154 x10 x28 x29 (wrap64 (x30 + 1)))) else (extent_Cut.l0 k x1 x2 x9 x10 x28 x29 (wrap64 (x30 + 1))))
end
def extent_Cut.f (k : Nat) (l0 : List (S33)) (a1 : Int) (a2 : Int) : Option ((List (S33)) × (List (S33)) × Int) := (extent_Valid.f k l0).bind fun t129 => (if t129 = true then ((extent_within.f a1 a2 65536).bind fun t130 => (extent_Cut.j0 k l0 a1 a2 (!t130))) else (extent_Cut.j0 k l0 a1 a2 true))
theorem extent_Cut.mono_l : ∀ k, (∀ y0 y1 y2 y3, LeO (extent_Cut.j0 k y0 y1 y2 y3) (extent_Cut.j0 (k + 1) y0 y1 y2 y3)) ∧ (∀ y0 y1 y2 y3 y4 y5 y6, LeO (extent_Cut.l0 k y0 y1 y2 y3 y4 y5 y6) (extent_Cut.l0 (k + 1) y0 y1 y2 y3 y4 y5 y6)) ∧ (∀ y0 y1 y2 y3 y4 y5 y6 y7 y8 y9, LeO (extent_Cut.j2 k y0 y1 y2 y3 y4 y5 y6 y7 y8 y9) (extent_Cut.j2 (k + 1) y0 y1 y2 y3 y4 y5 y6 y7 y8 y9)) ∧ (∀ y0 y1 y2 y3 y4 y5 y6 y7 y8 y9, LeO (extent_Cut.j3 k y0 y1 y2 y3 y4 y5 y6 y7 y8 y9) (extent_Cut.j3 (k + 1) y0 y1 y2 y3 y4 y5 y6 y7 y8 y9))
 | 0 => ⟨fun _ _ _ _ r h => by simp [extent_Cut.j0] at h, fun _ _ _ _ _ _ _ r h => by simp [extent_Cut.l0] at h, fun _ _ _ _ _ _ _ _ _ _ r h => by simp [extent_Cut.j2] at h, fun _ _ _ _ _ _ _ _ _ _ r h => by simp [extent_Cut.j3] at h⟩
 | k + 1 => by
  obtain ⟨ih0, ih1, ih2, ih3⟩ := extent_Cut.mono_l k
  refine ⟨?_, ?_, ?_, ?_⟩
  ·
   intro y0 y1 y2 y3
   unfold extent_Cut.j0
   repeat' first
   | (with_reducible exact ih0 _ _ _ _)
   | (with_reducible exact ih1 _ _ _ _ _ _ _)
   | (with_reducible exact ih2 _ _ _ _ _ _ _ _ _ _)
   | (with_reducible exact ih3 _ _ _ _ _ _ _ _ _ _)
   | (with_reducible exact extent_Valid.mono _ _)
   | (with_reducible exact LeO.refl _)
   | (with_reducible exact LeO.none _)
   | (with_reducible refine LeO.ite ?_ ?_)
   | (with_reducible refine LeO.bind ?_ (fun _ => ?_))
   | exact ih0 _ _ _ _
   | exact ih1 _ _ _ _ _ _ _
   | exact ih2 _ _ _ _ _ _ _ _ _ _
   | exact ih3 _ _ _ _ _ _ _ _ _ _
   | exact extent_Valid.mono _ _
   | exact LeO.none _
   | refine LeO.ite ?_ ?_
   | refine LeO.bind ?_ (fun _ => ?_)
  ·
   intro y0 y1 y2 y3 y4 y5 y6
   unfold extent_Cut.l0
   repeat' first
   | (with_reducible exact ih0 _ _ _ _)
   | (with_reducible exact ih1 _ _ _ _ _ _ _)
   | (with_reducible exact ih2 _ _ _ _ _ _ _ _ _ _)
   | (with_reducible exact ih3 _ _ _ _ _ _ _ _ _ _)
   | (with_reducible exact extent_Valid.mono _ _)
   | (with_reducible exact LeO.refl _)
   | (with_reducible exact LeO.none _)
   | (with_reducible refine LeO.ite ?_ ?_)
   | (with_reducible refine LeO.bind ?_ (fun _ => ?_))
   | exact ih0 _ _ _ _
   | exact ih1 _ _ _ _ _ _ _
   | exact ih2 _ _ _ _ _ _ _ _ _ _
   | exact ih3 _ _ _ _ _ _ _ _ _ _
   | exact extent_Valid.mono _ _
   | exact LeO.none _
   | refine LeO.ite ?_ ?_
   | refine LeO.bind ?_ (fun _ => ?_)
  ·
   intro y0 y1 y2 y3 y4 y5 y6 y7 y8 y9
   unfold extent_Cut.j2
   repeat' first
   | (with_reducible exact ih0 _ _ _ _)
   | (with_reducible exact ih1 _ _ _ _ _ _ _)
   | (with_reducible exact ih2 _ _ _ _ _ _ _ _ _ _)
   | (with_reducible exact ih3 _ _ _ _ _ _ _ _ _ _)
   | (with_reducible exact extent_Valid.mono _ _)
   | (with_reducible exact LeO.refl _)
   | (with_reducible exact LeO.none _)
   | (with_reducible refine LeO.ite ?_ ?_)
   | (with_reducible refine LeO.bind ?_ (fun _ => ?_))
   | exact ih0 _ _ _ _
   | exact ih1 _ _ _ _ _ _ _
   | exact ih2 _ _ _ _ _ _ _ _ _ _
   | exact ih3 _ _ _ _ _ _ _ _ _ _
   | exact extent_Valid.mono _ _
   | exact LeO.none _
   | refine LeO.ite ?_ ?_
   | refine LeO.bind ?_ (fun _ => ?_)
  ·
   intro y0 y1 y2 y3 y4 y5 y6 y7 y8 y9
   unfold extent_Cut.j3
   repeat' first
   | (with_reducible exact ih0 _ _ _ _)
   | (with_reducible exact ih1 _ _ _ _ _ _ _)
   | (with_reducible exact ih2 _ _ _ _ _ _ _ _ _ _)
   | (with_reducible exact ih3 _ _ _ _ _ _ _ _ _ _)
   | (with_reducible exact extent_Valid.mono _ _)
   | (with_reducible exact LeO.refl _)
   | (with_reducible exact LeO.none _)
   | (with_reducible refine LeO.ite ?_ ?_)
   | (with_reducible refine LeO.bind ?_ (fun _ => ?_))
   | exact ih0 _ _ _ _
   | exact ih1 _ _ _ _ _ _ _
   | exact ih2 _ _ _ _ _ _ _ _ _ _
   | exact ih3 _ _ _ _ _ _ _ _ _ _
   | exact extent_Valid.mono _ _
   | exact LeO.none _
   | refine LeO.ite ?_ ?_
   | refine LeO.bind ?_ (fun _ => ?_)
theorem extent_Cut.mono : ∀ a0 a1 a2 k, LeO (extent_Cut.f k a0 a1 a2) (extent_Cut.f (k + 1) a0 a1 a2) := by
 intro a0 a1 a2 k
 obtain ⟨ih0, ih1, ih2, ih3⟩ := extent_Cut.mono_l k
 unfold extent_Cut.f
 repeat' first
   | (with_reducible exact ih0 _ _ _ _)
   | (with_reducible exact ih1 _ _ _ _ _ _ _)
   | (with_reducible exact ih2 _ _ _ _ _ _ _ _ _ _)
   | (with_reducible exact ih3 _ _ _ _ _ _ _ _ _ _)
   | (with_reducible exact extent_Valid.mono _ _)
   | (with_reducible exact LeO.refl _)
   | (with_reducible exact LeO.none _)
   | (with_reducible refine LeO.ite ?_ ?_)
   | (with_reducible refine LeO.bind ?_ (fun _ => ?_))
   | exact ih0 _ _ _ _
   | exact ih1 _ _ _ _ _ _ _
   | exact ih2 _ _ _ _ _ _ _ _ _ _
   | exact ih3 _ _ _ _ _ _ _ _ _ _
   | exact extent_Valid.mono _ _
   | exact LeO.none _
   | refine LeO.ite ?_ ?_
   | refine LeO.bind ?_ (fun _ => ?_)
set_option maxHeartbeats 8000000 in
set_option maxRecDepth 100000 in
theorem extent_Cut.calls (k : Nat) (A0 : Option Addr) (c0 : Nat) (l0 : List (S33)) (a1 : Int) (a2 : Int) (r1 : List (S33)) (r2 : List (S33)) (r3 : Int) (w : World) (hr0 : Kd.C k33 w A0 l0.length l0) (hc0 : l0.length ≤ c0) (h : extent_Cut.f k l0 a1 a2 = some (r1, r2, r3)) :
  Calls Try.prog 13 #[.slice A0 l0.length c0, .int .i64 a1, .int .i64 a2] w fun e w' => ∃ v0_ v1_ : Value, e = .returned (.tuple #[v0_, v1_, .int .i64 r3]) ∧ Kd.R k33 33 w' w.heap.size (fun k_ => some k_ ≠ (v1_ : Value).ownBlock) v0_ r1 ∧ Kd.R k33 33 w' w.heap.size (fun k_ => some k_ ≠ (v0_ : Value).ownBlock) v1_ r2 ∧ Below w.heap.size w w' := by
 have hu33 := Try.underlying33
 have HR0 := Aside0.mk hr0
 have HC0 := Aside0.mk hc0
 clear hr0 hc0
 have HB := Aside0.mk (Below.refl w.heap.size w)
 have H : ((extent_Valid.f k l0).bind fun t129 => (if t129 = true then ((extent_within.f a1 a2 65536).bind fun t130 => (extent_Cut.j0 k l0 a1 a2 (!t130))) else (extent_Cut.j0 k l0 a1 a2 true))) = some (r1, r2, r3) := h
 clear h
 have HC4 := Aside0.mk H
 clear H
 go_enter Try.func13, Try.ntmps13
 go_upto_region 1 with (fail)
 go_cut [27] (fun v27 wc => ∃ (kq : Nat) (x27_3 : Bool), v27 = .bool x27_3 ∧ Aside0 (extent_Cut.j0 kq l0 a1 a2 x27_3 = some (r1, r2, r3)) ∧ Aside0 (kq ≤ k) ∧ Aside0 (Below w.heap.size w wc))
 case first =>
  have H := HC4.out
  clear HC4
  replace H := Option.bind_eq_some_iff.mp H
  obtain ⟨t129, A50, H⟩ := H
  replace H : (if t129 = true then ((extent_within.f a1 a2 65536).bind fun t130 => (extent_Cut.j0 k l0 a1 a2 (!t130))) else (extent_Cut.j0 k l0 a1 a2 true)) = some (r1, r2, r3) := H
  have A5 := Aside0.mk A50
  clear A50
  by_cases c6 : t129 = true
  ·
   subst c6
   have H1 : ((extent_within.f a1 a2 65536).bind fun t130 => (extent_Cut.j0 k l0 a1 a2 (!t130))) = some (r1, r2, r3) := by rw [if_pos rfl] at H; exact H
   clear H
   have H := H1
   clear H1
   replace H := Option.bind_eq_some_iff.mp H
   obtain ⟨t130, A70, H⟩ := H
   replace H : (extent_Cut.j0 k l0 a1 a2 (!t130)) = some (r1, r2, r3) := H
   have A7 := Aside0.mk A70
   clear A70
   have H' := Aside0.mk H
   clear H
   go_wp2_with (first | ((with_reducible refine gate_callee (f := 19) rfl ?_); refine goesL_ (some 20) rfl rfl Try.func19 (by kernel_rfl) rfl #[.slice A0 l0.length c0] rfl (by (try simp only [List.map_toArray, List.map_cons, List.map_nil]); first | done | rfl | (simp only [List.length_drop, List.length_take]; rfl)) ?_; (with_reducible refine (extent_Valid.calls k _ _ l0 true _ ?side1 ?side2 A5.out).mono ?_); (case side1 => exact cU (Kd.C_below HR0.out HB.out)); (case side2 => exact HC0.out); rintro e w8 ⟨rfl, hb⟩; refine ⟨_, rfl, ?_⟩; replace HB := Aside0.mk (below_step (bU HB.out) hb); (try clear hb)) | (go_at_call 29; (with_reducible refine (extent_within.calls a1 a2 65536 t130 _ A7.out).mono ?_); rintro e w' ⟨rfl, ⟨nd, rfl⟩⟩))
   go_meet
   case rel => exact ⟨_, (!t130), (by first | rfl | (simp; done) | (simp [*]; done)), H', ⟨by first | omega | exact Nat.le_refl _⟩, ⟨bU HB.out⟩⟩
  ·
   replace c6 := Bool.eq_false_iff.mpr c6
   subst c6
   have H1 : (extent_Cut.j0 k l0 a1 a2 true) = some (r1, r2, r3) := by rw [if_neg (show ¬ (false = true) by decide)] at H; exact H
   clear H
   have H := H1
   clear H1
   have H' := Aside0.mk H
   clear H
   go_wp2_with (first | ((with_reducible refine gate_callee (f := 19) rfl ?_); refine goesL_ (some 20) rfl rfl Try.func19 (by kernel_rfl) rfl #[.slice A0 l0.length c0] rfl (by (try simp only [List.map_toArray, List.map_cons, List.map_nil]); first | done | rfl | (simp only [List.length_drop, List.length_take]; rfl)) ?_; (with_reducible refine (extent_Valid.calls k _ _ l0 false _ ?side1 ?side2 A5.out).mono ?_); (case side1 => exact cU (Kd.C_below HR0.out HB.out)); (case side2 => exact HC0.out); rintro e w9 ⟨rfl, hb⟩; refine ⟨_, rfl, ?_⟩; replace HB := Aside0.mk (below_step (bU HB.out) hb); (try clear hb)))
   go_meet
   case rel => exact ⟨_, (true), (by first | rfl | (simp; done) | (simp [*]; done)), H', ⟨by first | omega | exact Nat.le_refl _⟩, ⟨bU HB.out⟩⟩
 case rest =>
  clear HC4
  try clear c1
  try clear p2
  try clear c6
  obtain ⟨kq, x27_3, rfl, HA, HJ3, HB⟩ := hcut
  cases kq with
  | zero => exact absurd HA.out (by simp [extent_Cut.j0])
  | succ kj3 =>
   have H := HA.out
   clear HA
   simp only [extent_Cut.j0] at H
   by_cases c10 : x27_3 = true
   ·
    subst c10
    have H1 : (some (([] : List (S33)), ([] : List (S33)), 1)) = some (r1, r2, r3) := by rw [if_pos rfl] at H; exact H
    clear H
    have H := H1
    clear H1
    simp only [Option.some.injEq, Prod.mk.injEq] at H
    obtain ⟨rfl, rfl, rfl⟩ := H
    go_wp2
    go_ret3
    exact ⟨_, _, by first | rfl | (simp [errW_none, errW_some] <;> rfl) | (simp [*, errW_none, errW_some] <;> rfl), by first | exact Kd.R_nil _ _ _ _ _ | exact Kd.N_nil _ _ _ _ _ | exact Kd.V_nil _ _ _ _ _ | exact Kd.Q_nil _ _ _ _ _ | exact Kd.S_nil _ _ _ _ _, by first | exact Kd.R_nil _ _ _ _ _ | exact Kd.N_nil _ _ _ _ _ | exact Kd.V_nil _ _ _ _ _ | exact Kd.Q_nil _ _ _ _ _ | exact Kd.S_nil _ _ _ _ _, bU HB.out⟩
   ·
    replace c10 := Bool.eq_false_iff.mpr c10
    subst c10
    have H1 : (extent_Cut.l0 kj3 a1 a2 ([] : List (S33)) ([] : List (S33)) l0 (l0.length : Int) 0) = some (r1, r2, r3) := by rw [if_neg (show ¬ (false = true) by decide)] at H; exact H
    clear H
    have H := H1
    clear H1
    have H' := Aside0.mk H
    clear H
    go_wp2
    go_loopg [9, 10, 30] kj3 (fun kq v9 v10 v30 w' => ∃ (x9_2 : List (S33)) (x10_2 : List (S33)) (x30_2 : Int), v30 = .int .i64 x30_2 ∧ Aside0 (extent_Cut.l0 kq a1 a2 x9_2 x10_2 l0 (l0.length : Int) x30_2 = some (r1, r2, r3)) ∧ Aside0 (kq ≤ kj3) ∧ Aside0 (Kd.R k33 33 w' w.heap.size (fun k_ => some k_ ≠ (v10 : Value).ownBlock) v9 x9_2) ∧ Aside0 (Kd.R k33 33 w' w.heap.size (fun k_ => some k_ ≠ (v9 : Value).ownBlock) v10 x10_2) ∧ Aside0 (Below w.heap.size w w'))
    case atStart => exact ⟨(([] : List (S33))), (([] : List (S33))), (0), (by first | rfl | (simp; done) | (simp [*]; done)), H', ⟨Nat.le_refl _⟩, ⟨by first | exact Kd.R_nil _ _ _ _ _ | exact Kd.N_nil _ _ _ _ _ | exact Kd.V_nil _ _ _ _ _ | exact Kd.Q_nil _ _ _ _ _ | exact Kd.S_nil _ _ _ _ _⟩, ⟨by first | exact Kd.R_nil _ _ _ _ _ | exact Kd.N_nil _ _ _ _ _ | exact Kd.V_nil _ _ _ _ _ | exact Kd.Q_nil _ _ _ _ _ | exact Kd.S_nil _ _ _ _ _⟩, ⟨bU HB.out⟩⟩
    case round =>
     clear H'
     try clear c1
     try clear p2
     try clear c6
     try clear c10
     try clear p2
     obtain ⟨x9_2, x10_2, x30_2, rfl, HA, HK2, HO_9, HO_10, HB⟩ := hrel
     cases gk with
     | zero => exact absurd HA.out (by simp [extent_Cut.l0])
     | succ k2 =>
      have H := HA.out
      clear HA
      simp only [extent_Cut.l0] at H
      by_cases c11 : x30_2 < (l0.length : Int)
      ·
       rw [if_pos c11] at H
       have c11b0 := decide_eq_true c11
       clear c11
       by_cases c12 : 0 ≤ x30_2
       ·
        rw [if_pos c12] at H
        have c12b0 := decide_eq_true c12
        clear c12
        by_cases c13 : x30_2 < (l0.length : Int)
        ·
         rw [if_pos c13] at H
         have c13b0 := decide_eq_true c13
         clear c13
         replace H := Option.bind_eq_some_iff.mp H
         obtain ⟨⟨t133, t134, t135, t136⟩, A140, H⟩ := H
         replace H : (if t136 = true then ((extent_push.f x9_2 t133 t134 t135).bind fun t138 => (extent_Cut.j2 k2 a1 a2 t138 x10_2 l0 (l0.length : Int) x30_2 ((rd_T33 l0 x30_2).f0) ((rd_T33 l0 x30_2).f1) ((rd_T33 l0 x30_2).f2))) else (extent_Cut.j2 k2 a1 a2 x9_2 x10_2 l0 (l0.length : Int) x30_2 ((rd_T33 l0 x30_2).f0) ((rd_T33 l0 x30_2).f1) ((rd_T33 l0 x30_2).f2))) = some (r1, r2, r3) := H
         have A14 := Aside0.mk A140
         clear A140
         have HC15 := Aside0.mk H
         clear H
         have p131 : 0 ≤ (x30_2 : Int) := of_decide_eq_true (by first | (with_reducible assumption) | assumption)
         have q131 : x30_2 < (l0.length : Int) := of_decide_eq_true (by first | (with_reducible assumption) | assumption)
         obtain ⟨ad131, e131, hx131_0, hx131_1, hx131_2⟩ := at_T33 HR0.out x30_2 p131 q131
         cases e131
         replace hx131_0 := (HB.out.cell (World.block_lt_of_cell? w _ hx131_0)).trans hx131_0
         replace hx131_1 := (HB.out.cell (World.block_lt_of_cell? w _ hx131_1)).trans hx131_1
         replace hx131_2 := (HB.out.cell (World.block_lt_of_cell? w _ hx131_2)).trans hx131_2
         replace p131 := eq_true p131
         replace q131 := eq_true q131
         go_upto_if 40 with (first | ((with_reducible refine gate_dst (N := 12) rfl ?_); refine box_event ?hg (N := 12) ?hd (cs := #[.int .i64 0, .int .i64 0, .int .i64 0]) (t := 33) ?hr ?_; (case hd => rfl); (case hg => rfl); (case hr => first | (go_simp; done) | (go_simp; rfl)); intro gb132 hg w16 hbox hb; replace HO_9 := Aside0.mk (Kd.R_below (Kd.R_elderB (rU HO_9.out) gb132 (Nat.le_of_eq hg.symm)) hb); replace HO_10 := Aside0.mk (Kd.R_below (Kd.R_elderB (rU HO_10.out) gb132 (Nat.le_of_eq hg.symm)) hb); have BK132 := Aside0.mk (hbox); have GW132 := Aside0.mk ((by rw [hg]; exact (below_size (bU HB.out)) : w.heap.size ≤ gb132)); have GE132 := Aside0.mk ((by rw [hg]; exact (below_size (bU HB.out)) : w.heap.size ≤ gb132)); replace HB := Aside0.mk (below_step (bU HB.out) hb); clear hb hbox hg; have hcz17_0 : w16.cell? ⟨gb132, 0, none⟩ = some (.int .i64 0) := (blk_cell BK132.out 0).trans rfl; have hcz17_1 : w16.cell? ⟨gb132, 1, none⟩ = some (.int .i64 0) := (blk_cell BK132.out 1).trans rfl; have hcz17_2 : w16.cell? ⟨gb132, 2, none⟩ = some (.int .i64 0) := (blk_cell BK132.out 2).trans rfl; have hfz17_0 := blk_frozen BK132.out 0; have hfz17_1 := blk_frozen BK132.out 1; have hfz17_2 := blk_frozen BK132.out 2) | ((with_reducible refine gate_callee (f := 30) rfl ?_); refine goesL_ (some 37) rfl rfl Try.func30 (by kernel_rfl) rfl #[.agg #[.int .i64 ((rd_T33 l0 x30_2).f0), .int .i64 ((rd_T33 l0 x30_2).f1), .int .i64 ((rd_T33 l0 x30_2).f2)], .int .i64 0, .int .i64 a1] rfl (by (try simp only [List.map_toArray, List.map_cons, List.map_nil]); first | done | rfl | (simp only [List.length_drop, List.length_take]; rfl)) ?_; (with_reducible refine (extent_part.calls ((rd_T33 l0 x30_2).f0) ((rd_T33 l0 x30_2).f1) ((rd_T33 l0 x30_2).f2) 0 a1 t133 t134 t135 t136 _ A14.out).mono ?_); rintro e w18 ⟨rfl, hb⟩; refine ⟨_, rfl, ?_⟩; replace HO_9 := Aside0.mk (Kd.R_below (rU (Kd.R_mono (Kd.R_far (p := ⟨gb132, 2, none⟩) (Kd.R_far (p := ⟨gb132, 1, none⟩) (Kd.R_far (p := ⟨gb132, 0, none⟩) (Kd.R_mono HO_9.out (fun k_ hk => (⟨hk, hk.2⟩ : _ ∧ k_ ≠ gb132))) (fun _ hk => hk.2) (.int .i64 ((rd_T33 l0 x30_2).f0))) (fun _ hk => hk.2) (.int .i64 ((rd_T33 l0 x30_2).f1))) (fun _ hk => hk.2) (.int .i64 ((rd_T33 l0 x30_2).f2))) (fun _ h_ => h_.1))) hb); replace HO_10 := Aside0.mk (Kd.R_below (rU (Kd.R_mono (Kd.R_far (p := ⟨gb132, 2, none⟩) (Kd.R_far (p := ⟨gb132, 1, none⟩) (Kd.R_far (p := ⟨gb132, 0, none⟩) (Kd.R_mono HO_10.out (fun k_ hk => (⟨hk, hk.2⟩ : _ ∧ k_ ≠ gb132))) (fun _ hk => hk.2) (.int .i64 ((rd_T33 l0 x30_2).f0))) (fun _ hk => hk.2) (.int .i64 ((rd_T33 l0 x30_2).f1))) (fun _ hk => hk.2) (.int .i64 ((rd_T33 l0 x30_2).f2))) (fun _ h_ => h_.1))) hb); replace BK132 := Aside0.mk (blk_below (g := gb132) (o := .cells #[.int .i64 ((rd_T33 l0 x30_2).f0), .int .i64 ((rd_T33 l0 x30_2).f1), .int .i64 ((rd_T33 l0 x30_2).f2)] 33 (0, 0)) (by (with_reducible repeat (first | refine blk_drewN ?_ _ | refine blk_drew ?_ | refine blk_alloc ?_ _)); refine blk_put (cs := #[.int .i64 ((rd_T33 l0 x30_2).f0), .int .i64 ((rd_T33 l0 x30_2).f1), .int .i64 0]) ?_ 2 _ rfl; (with_reducible repeat (first | refine blk_drewN ?_ _ | refine blk_drew ?_ | refine blk_alloc ?_ _)); refine blk_put (cs := #[.int .i64 ((rd_T33 l0 x30_2).f0), .int .i64 0, .int .i64 0]) ?_ 1 _ rfl; (with_reducible repeat (first | refine blk_drewN ?_ _ | refine blk_drew ?_ | refine blk_alloc ?_ _)); refine blk_put (cs := #[.int .i64 0, .int .i64 0, .int .i64 0]) ?_ 0 _ rfl; (with_reducible repeat (first | refine blk_drewN ?_ _ | refine blk_drew ?_ | refine blk_alloc ?_ _)); exact BK132.out) hb); replace HB := Aside0.mk (below_step (by repeat (first | (with_reducible first | exact HB.out | apply below_alloc | apply pw_below_drewN | apply below_drew1 | refine below_set ?_ GE132.out) | exact HB.out)) hb); (try clear hb); (try clear hk)) | ((with_reducible refine gate_dst (N := 13) rfl ?_); refine box_event ?hg (N := 13) ?hd (cs := #[.int .i64 0, .int .i64 0, .int .i64 0]) (t := 33) ?hr ?_; (case hd => rfl); (case hg => rfl); (case hr => first | (go_simp; done) | (go_simp; rfl)); intro gb137 hg w19 hbox hb; replace HO_9 := Aside0.mk (Kd.R_below (Kd.R_elderB (rU HO_9.out) gb137 (Nat.le_of_eq hg.symm)) hb); replace HO_10 := Aside0.mk (Kd.R_below (Kd.R_elderB (rU HO_10.out) gb137 (Nat.le_of_eq hg.symm)) hb); have BK137 := Aside0.mk (hbox); have GW137 := Aside0.mk ((by rw [hg]; exact (below_size (by repeat (first | (with_reducible first | exact HB.out | apply below_alloc | apply pw_below_drewN | apply below_drew1 | refine below_set ?_ GE132.out) | exact HB.out))) : w.heap.size ≤ gb137)); have GE137 := Aside0.mk ((by rw [hg]; exact (below_size (by repeat (first | (with_reducible first | exact HB.out | apply below_alloc | apply pw_below_drewN | apply below_drew1 | refine below_set ?_ GE132.out) | exact HB.out))) : w.heap.size ≤ gb137)); replace HB := Aside0.mk (below_step (by repeat (first | (with_reducible first | exact HB.out | apply below_alloc | apply pw_below_drewN | apply below_drew1 | refine below_set ?_ GE132.out) | exact HB.out)) hb); have NB132_137 := Aside0.mk ((by rw [hg]; exact Nat.ne_of_lt (blk_lt (g := gb132) (o := .cells #[.int .i64 ((rd_T33 l0 x30_2).f0), .int .i64 ((rd_T33 l0 x30_2).f1), .int .i64 ((rd_T33 l0 x30_2).f2)] 33 (0, 0)) (kU BK132.out)) : gb132 ≠ gb137)); have NB137_132 := Aside0.mk ((by rw [hg]; exact Nat.ne_of_gt (blk_lt (g := gb132) (o := .cells #[.int .i64 ((rd_T33 l0 x30_2).f0), .int .i64 ((rd_T33 l0 x30_2).f1), .int .i64 ((rd_T33 l0 x30_2).f2)] 33 (0, 0)) (kU BK132.out)) : gb137 ≠ gb132)); replace BK132 := Aside0.mk (blk_below (g := gb132) (o := .cells #[.int .i64 ((rd_T33 l0 x30_2).f0), .int .i64 ((rd_T33 l0 x30_2).f1), .int .i64 ((rd_T33 l0 x30_2).f2)] 33 (0, 0)) (kU BK132.out) hb); clear hb hbox hg; have hnb20 := NB137_132.out; have hnc20 := NB132_137.out; have hcz21_0 : w19.cell? ⟨gb137, 0, none⟩ = some (.int .i64 0) := (blk_cell BK137.out 0).trans rfl; have hcz21_1 : w19.cell? ⟨gb137, 1, none⟩ = some (.int .i64 0) := (blk_cell BK137.out 1).trans rfl; have hcz21_2 : w19.cell? ⟨gb137, 2, none⟩ = some (.int .i64 0) := (blk_cell BK137.out 2).trans rfl; have hfz21_0 := blk_frozen BK137.out 0; have hfz21_1 := blk_frozen BK137.out 1; have hfz21_2 := blk_frozen BK137.out 2) | ((with_reducible refine gate_store (t := 33) (p := 13) rfl ?_); refine store_event (t := 33) (p := 13) (v := ?vo_w22) (w1 := (((w19.setCell ⟨gb137, 0, none⟩ (.int .i64 t133)).setCell ⟨gb137, 1, none⟩ (.int .i64 t134)).setCell ⟨gb137, 2, none⟩ (.int .i64 t135))) ?hg ?ho ?hn ?hr ?_; (case ho => rfl); (case hg => rfl); (case hn => rfl); (case hr => first | (go_simp; done) | (go_simp; rfl)); intro w22 hw; have n0_ : Aside0 (Kd.R k33 33 w22 w.heap.size (fun k_ => some k_ ≠ (u10 : Value).ownBlock ∧ k_ ≠ gb132 ∧ k_ ≠ gb137) u9 x9_2) := ⟨(by rw [hw]; exact (rU (Kd.R_mono (Kd.R_far (p := ⟨gb137, 2, none⟩) (Kd.R_far (p := ⟨gb137, 1, none⟩) (Kd.R_far (p := ⟨gb137, 0, none⟩) (Kd.R_mono HO_9.out (fun k_ hk => (⟨hk, hk.2⟩ : _ ∧ k_ ≠ gb137))) (fun _ hk => hk.2) (.int .i64 t133)) (fun _ hk => hk.2) (.int .i64 t134)) (fun _ hk => hk.2) (.int .i64 t135)) (fun _ hk => ⟨hk.1.1.1, ⟨hk.1.1.2, hk.1.2⟩⟩))))⟩; have n1_ : Aside0 (Kd.R k33 33 w22 w.heap.size (fun k_ => some k_ ≠ (u9 : Value).ownBlock ∧ k_ ≠ gb132 ∧ k_ ≠ gb137) u10 x10_2) := ⟨(by rw [hw]; exact (rU (Kd.R_mono (Kd.R_far (p := ⟨gb137, 2, none⟩) (Kd.R_far (p := ⟨gb137, 1, none⟩) (Kd.R_far (p := ⟨gb137, 0, none⟩) (Kd.R_mono HO_10.out (fun k_ hk => (⟨hk, hk.2⟩ : _ ∧ k_ ≠ gb137))) (fun _ hk => hk.2) (.int .i64 t133)) (fun _ hk => hk.2) (.int .i64 t134)) (fun _ hk => hk.2) (.int .i64 t135)) (fun _ hk => ⟨hk.1.1.1, ⟨hk.1.1.2, hk.1.2⟩⟩))))⟩; have n2_ : Aside0 (w22.heap[gb132]? = some (.cells #[.int .i64 ((rd_T33 l0 x30_2).f0), .int .i64 ((rd_T33 l0 x30_2).f1), .int .i64 ((rd_T33 l0 x30_2).f2)] 33 (0, 0))) := ⟨(by rw [hw]; exact (by (with_reducible repeat (first | refine blk_drewN ?_ _ | refine blk_drew ?_ | refine blk_alloc ?_ _)); refine blk_far ?_ NB132_137.out _; (with_reducible repeat (first | refine blk_drewN ?_ _ | refine blk_drew ?_ | refine blk_alloc ?_ _)); refine blk_far ?_ NB132_137.out _; (with_reducible repeat (first | refine blk_drewN ?_ _ | refine blk_drew ?_ | refine blk_alloc ?_ _)); refine blk_far ?_ NB132_137.out _; (with_reducible repeat (first | refine blk_drewN ?_ _ | refine blk_drew ?_ | refine blk_alloc ?_ _)); exact BK132.out))⟩; have n3_ : Aside0 (w22.heap[gb137]? = some (.cells #[.int .i64 t133, .int .i64 t134, .int .i64 t135] 33 (0, 0))) := ⟨(by rw [hw]; exact (by (with_reducible repeat (first | refine blk_drewN ?_ _ | refine blk_drew ?_ | refine blk_alloc ?_ _)); refine blk_put (cs := #[.int .i64 t133, .int .i64 t134, .int .i64 0]) ?_ 2 _ rfl; (with_reducible repeat (first | refine blk_drewN ?_ _ | refine blk_drew ?_ | refine blk_alloc ?_ _)); refine blk_put (cs := #[.int .i64 t133, .int .i64 0, .int .i64 0]) ?_ 1 _ rfl; (with_reducible repeat (first | refine blk_drewN ?_ _ | refine blk_drew ?_ | refine blk_alloc ?_ _)); refine blk_put (cs := #[.int .i64 0, .int .i64 0, .int .i64 0]) ?_ 0 _ rfl; (with_reducible repeat (first | refine blk_drewN ?_ _ | refine blk_drew ?_ | refine blk_alloc ?_ _)); exact BK137.out))⟩; have n4_ : Aside0 (Below w.heap.size w w22) := ⟨(by rw [hw]; exact (by repeat (first | (with_reducible first | exact HB.out | apply below_alloc | apply pw_below_drewN | apply below_drew1 | refine below_set ?_ GE132.out | refine below_set ?_ GE137.out) | exact HB.out)))⟩; clear hw; clear HO_9; clear HO_10; clear BK132; clear BK137; clear HB; have HO_9 := n0_; have HO_10 := n1_; have BK132 := n2_; have BK137 := n3_; have HB := n4_; clear n0_ n1_ n2_ n3_ n4_))
         (try simp only [Act.put, List.setIfInBounds_toArray, List.set_cons_zero, List.set_cons_succ])
         go_cut [9] (fun v9 wc => ∃ (kq : Nat) (x9_14 : List (S33)), Aside0 (extent_Cut.j2 kq a1 a2 x9_14 x10_2 l0 (l0.length : Int) x30_2 ((rd_T33 l0 x30_2).f0) ((rd_T33 l0 x30_2).f1) ((rd_T33 l0 x30_2).f2) = some (r1, r2, r3)) ∧ Aside0 (kq ≤ k2) ∧ Aside0 (Kd.R k33 33 wc w.heap.size (fun k_ => some k_ ≠ (u10 : Value).ownBlock ∧ k_ ≠ gb132 ∧ k_ ≠ gb137) v9 x9_14) ∧ Aside0 (Kd.R k33 33 wc w.heap.size (fun k_ => some k_ ≠ (v9 : Value).ownBlock ∧ k_ ≠ gb132 ∧ k_ ≠ gb137) u10 x10_2) ∧ Aside0 (wc.heap[gb132]? = some (.cells #[.int .i64 ((rd_T33 l0 x30_2).f0), .int .i64 ((rd_T33 l0 x30_2).f1), .int .i64 ((rd_T33 l0 x30_2).f2)] 33 (0, 0))) ∧ Aside0 (wc.heap[gb137]? = some (.cells #[.int .i64 t133, .int .i64 t134, .int .i64 t135] 33 (0, 0))) ∧ Aside0 (Below w.heap.size w wc))
         case first =>
          have H := HC15.out
          clear HC15
          by_cases c23 : t136 = true
          ·
           subst c23
           have H1 : ((extent_push.f x9_2 t133 t134 t135).bind fun t138 => (extent_Cut.j2 k2 a1 a2 t138 x10_2 l0 (l0.length : Int) x30_2 ((rd_T33 l0 x30_2).f0) ((rd_T33 l0 x30_2).f1) ((rd_T33 l0 x30_2).f2))) = some (r1, r2, r3) := by rw [if_pos rfl] at H; exact H
           clear H
           have H := H1
           clear H1
           replace H := Option.bind_eq_some_iff.mp H
           obtain ⟨t138, A240, H⟩ := H
           replace H : (extent_Cut.j2 k2 a1 a2 t138 x10_2 l0 (l0.length : Int) x30_2 ((rd_T33 l0 x30_2).f0) ((rd_T33 l0 x30_2).f1) ((rd_T33 l0 x30_2).f2)) = some (r1, r2, r3) := H
           have A24 := Aside0.mk A240
           clear A240
           have H' := Aside0.mk H
           clear H
           have hnb25 := NB137_132.out
           have hnc25 := NB132_137.out
           have hcz26_0 : w22.cell? ⟨gb137, 0, none⟩ = some (.int .i64 t133) := (blk_cell BK137.out 0).trans rfl
           have hcz26_1 : w22.cell? ⟨gb137, 1, none⟩ = some (.int .i64 t134) := (blk_cell BK137.out 1).trans rfl
           have hcz26_2 : w22.cell? ⟨gb137, 2, none⟩ = some (.int .i64 t135) := (blk_cell BK137.out 2).trans rfl
           have hfz26_0 := blk_frozen BK137.out 0
           have hfz26_1 := blk_frozen BK137.out 1
           have hfz26_2 := blk_frozen BK137.out 2
           obtain ⟨Ao27, co27, eo27⟩ := Kd.R_slice HO_9.out
           subst eo27
           go_wp2_with (first | ((with_reducible refine gate_callee (f := 31) rfl ?_); refine goesL_ (some 43) rfl rfl Try.func31 (by kernel_rfl) rfl #[.slice Ao27 x9_2.length co27, .agg #[.int .i64 t133, .int .i64 t134, .int .i64 t135]] rfl (by (try simp only [List.map_toArray, List.map_cons, List.map_nil]); first | done | rfl | (simp only [List.length_drop, List.length_take]; rfl)) ?_; (with_reducible refine (extent_push.calls (fun k_ => some k_ = (.slice Ao27 x9_2.length co27 : Value).ownBlock) (.slice Ao27 x9_2.length co27) x9_2 t133 t134 t135 t138 w _ ?side1 ?side2 A24.out).mono ?_); (case side1 => repeat (first | (with_reducible first | exact HB.out | apply below_alloc | apply pw_below_drewN | apply below_drew1 | refine below_set ?_ GE132.out | refine below_set ?_ GE137.out) | exact HB.out)); (case side2 => exact Kd.R_tight rfl HO_9.out); rintro e w28 ⟨v139, rfl, ho0, hb, hkp⟩; refine ⟨_, rfl, ?_⟩; have n0_ := Aside0.mk (Kd.R_mono (ok' := fun k_ => k_ ≠ gb132 ∧ k_ ≠ gb137 ∧ some k_ ≠ (v139 : Value).ownBlock) (Kd.R_keptB (HO_10.out) hkp (fun k_ hk_ hs_ => (hk_.1) hs_)) (fun k_ hk_ => ⟨hk_.1.2.1, hk_.1.2.2, fun e_ => Or.elim (ho0.1 k_ e_.symm) (fun hs_ => hk_.2.1 hs_) (fun hn_ => Nat.not_le.2 hk_.2.2 hn_)⟩)); have n1_ := Aside0.mk (blk_kept (kU BK132.out) hkp (fun hs_ => (fun e_ => (Kd.R_away HO_9.out (fun _ hk => hk.2.1)) e_) hs_)); have n2_ := Aside0.mk (blk_kept (kU BK137.out) hkp (fun hs_ => (fun e_ => (Kd.R_away HO_9.out (fun _ hk => hk.2.2)) e_) hs_)); have n3_ := Aside0.mk (Kd.R_mono (ok' := fun k_ => some k_ ≠ (u10 : Value).ownBlock ∧ k_ ≠ gb132 ∧ k_ ≠ gb137) ho0 (fun k_ hk_ => ⟨Or.elim hk_ (fun hs_ => fun e_ => (((HO_10.out).1 k_ e_.symm).1) hs_) (fun hn_ => (Kd.fresh' (Kd.R_lt (rU HO_10.out)) k_ hn_)), Or.elim hk_ (fun hs_ => fun e_ => (Kd.R_away HO_9.out (fun _ hk => hk.2.1)) (by rw [← e_]; exact hs_)) (fun hn_ => (Kd.freshB (g := gb132) (o := .cells #[.int .i64 ((rd_T33 l0 x30_2).f0), .int .i64 ((rd_T33 l0 x30_2).f1), .int .i64 ((rd_T33 l0 x30_2).f2)] 33 (0, 0)) (kU BK132.out) k_ hn_)), Or.elim hk_ (fun hs_ => fun e_ => (Kd.R_away HO_9.out (fun _ hk => hk.2.2)) (by rw [← e_]; exact hs_)) (fun hn_ => (Kd.freshB (g := gb137) (o := .cells #[.int .i64 t133, .int .i64 t134, .int .i64 t135] 33 (0, 0)) (kU BK137.out) k_ hn_))⟩)); have n4_ := Aside0.mk (hb); clear HO_10; clear BK132; clear BK137; clear HB; clear HO_9; have HO_10 := n0_; have BK132 := n1_; have BK137 := n2_; have HO140 := n3_; have HB := n4_; clear n0_ n1_ n2_ n3_ n4_; (try clear hb); (try clear hkp); (try clear ho0)))
           go_meet
           case rel => exact ⟨_, (t138), H', ⟨by have := HJ3.out; have := HK2.out; first | omega | exact Nat.le_refl _⟩, ⟨rU HO140.out⟩, ⟨by (with_reducible repeat (first | apply Kd.R_alloc | apply Kd.R_drewN | apply Kd.R_drew)); exact Kd.R_mono HO_10.out (fun _ hk => ⟨hk.2.2, ⟨hk.1, hk.2.1⟩⟩)⟩, ⟨by (with_reducible repeat (first | refine blk_drewN ?_ _ | refine blk_drew ?_ | refine blk_alloc ?_ _)); exact BK132.out⟩, ⟨by (with_reducible repeat (first | refine blk_drewN ?_ _ | refine blk_drew ?_ | refine blk_alloc ?_ _)); exact BK137.out⟩, ⟨by repeat (first | (with_reducible first | exact HB.out | apply below_alloc | apply pw_below_drewN | apply below_drew1 | refine below_set ?_ GE132.out | refine below_set ?_ GE137.out) | exact HB.out)⟩⟩
          ·
           replace c23 := Bool.eq_false_iff.mpr c23
           subst c23
           have H1 : (extent_Cut.j2 k2 a1 a2 x9_2 x10_2 l0 (l0.length : Int) x30_2 ((rd_T33 l0 x30_2).f0) ((rd_T33 l0 x30_2).f1) ((rd_T33 l0 x30_2).f2)) = some (r1, r2, r3) := by rw [if_neg (show ¬ (false = true) by decide)] at H; exact H
           clear H
           have H := H1
           clear H1
           have H' := Aside0.mk H
           clear H
           go_wp2
           go_meet
           case rel => exact ⟨_, (x9_2), H', ⟨by have := HJ3.out; have := HK2.out; first | omega | exact Nat.le_refl _⟩, ⟨rU HO_9.out⟩, ⟨rU HO_10.out⟩, ⟨by (with_reducible repeat (first | refine blk_drewN ?_ _ | refine blk_drew ?_ | refine blk_alloc ?_ _)); exact BK132.out⟩, ⟨by (with_reducible repeat (first | refine blk_drewN ?_ _ | refine blk_drew ?_ | refine blk_alloc ?_ _)); exact BK137.out⟩, ⟨by repeat (first | (with_reducible first | exact HB.out | apply below_alloc | apply pw_below_drewN | apply below_drew1 | refine below_set ?_ GE132.out | refine below_set ?_ GE137.out) | exact HB.out)⟩⟩
         case rest =>
          clear HC15
          try clear c1
          try clear p1
          try clear q1
          try clear hx1
          try clear c2
          try clear p2
          try clear c3
          try clear c6
          try clear c10
          try clear c11
          try clear c11b0
          try clear c12
          try clear c12b0
          try clear c13
          try clear c13b0
          try clear p13
          try clear q13
          try clear hx13
          try clear c19
          try clear c20
          try clear c23
          try clear c25
          try clear hcz17_0
          try clear hcz17_1
          try clear hcz17_2
          try clear hcz21_0
          try clear hcz21_1
          try clear hcz21_2
          try clear hcz26_0
          try clear hcz26_1
          try clear hcz26_2
          try clear hfz17_0
          try clear hfz17_1
          try clear hfz17_2
          try clear hfz21_0
          try clear hfz21_1
          try clear hfz21_2
          try clear hfz26_0
          try clear hfz26_1
          try clear hfz26_2
          try clear hx131_0
          try clear hx131_1
          try clear hx131_2
          try clear p131
          try clear p2
          try clear q131
          obtain ⟨kq, x9_14, HA, HJ14, HO_9, HO_10, BK132, BK137, HB⟩ := hcut
          cases kq with
          | zero => exact absurd HA.out (by simp [extent_Cut.j2])
          | succ kj14 =>
           have H := HA.out
           clear HA
           simp only [extent_Cut.j2] at H
           replace H := Option.bind_eq_some_iff.mp H
           obtain ⟨⟨t141, t142, t143, t144⟩, A290, H⟩ := H
           replace H : (if t144 = true then ((extent_push.f x10_2 t141 t142 t143).bind fun t146 => (extent_Cut.j3 kj14 a1 a2 x9_14 t146 l0 (l0.length : Int) x30_2 ((rd_T33 l0 x30_2).f0) ((rd_T33 l0 x30_2).f1) ((rd_T33 l0 x30_2).f2))) else (extent_Cut.j3 kj14 a1 a2 x9_14 x10_2 l0 (l0.length : Int) x30_2 ((rd_T33 l0 x30_2).f0) ((rd_T33 l0 x30_2).f1) ((rd_T33 l0 x30_2).f2))) = some (r1, r2, r3) := H
           have A29 := Aside0.mk A290
           clear A290
           have HC30 := Aside0.mk H
           clear H
           have hnb31 := NB132_137.out
           have hnc31 := NB137_132.out
           have hcz32_0 : wc.cell? ⟨gb132, 0, none⟩ = some (.int .i64 ((rd_T33 l0 x30_2).f0)) := (blk_cell BK132.out 0).trans rfl
           have hcz32_1 : wc.cell? ⟨gb132, 1, none⟩ = some (.int .i64 ((rd_T33 l0 x30_2).f1)) := (blk_cell BK132.out 1).trans rfl
           have hcz32_2 : wc.cell? ⟨gb132, 2, none⟩ = some (.int .i64 ((rd_T33 l0 x30_2).f2)) := (blk_cell BK132.out 2).trans rfl
           have hfz32_0 := blk_frozen BK132.out 0
           have hfz32_1 := blk_frozen BK132.out 1
           have hfz32_2 := blk_frozen BK132.out 2
           go_upto_if 53 with (first | ((with_reducible refine gate_callee (f := 30) rfl ?_); refine goesL_ (some 50) rfl rfl Try.func30 (by kernel_rfl) rfl #[.agg #[.int .i64 ((rd_T33 l0 x30_2).f0), .int .i64 ((rd_T33 l0 x30_2).f1), .int .i64 ((rd_T33 l0 x30_2).f2)], .int .i64 a1, .int .i64 (wrap64 (a1 + a2))] rfl (by (try simp only [List.map_toArray, List.map_cons, List.map_nil]); first | done | rfl | (simp only [List.length_drop, List.length_take]; rfl)) ?_; (with_reducible refine (extent_part.calls ((rd_T33 l0 x30_2).f0) ((rd_T33 l0 x30_2).f1) ((rd_T33 l0 x30_2).f2) a1 (wrap64 (a1 + a2)) t141 t142 t143 t144 _ A29.out).mono ?_); rintro e w33 ⟨rfl, hb⟩; refine ⟨_, rfl, ?_⟩; replace HO_9 := Aside0.mk (Kd.R_below (rU HO_9.out) hb); replace HO_10 := Aside0.mk (Kd.R_below (rU HO_10.out) hb); replace BK132 := Aside0.mk (blk_below (g := gb132) (o := .cells #[.int .i64 ((rd_T33 l0 x30_2).f0), .int .i64 ((rd_T33 l0 x30_2).f1), .int .i64 ((rd_T33 l0 x30_2).f2)] 33 (0, 0)) (kU BK132.out) hb); replace BK137 := Aside0.mk (blk_below (g := gb137) (o := .cells #[.int .i64 t133, .int .i64 t134, .int .i64 t135] 33 (0, 0)) (kU BK137.out) hb); replace HB := Aside0.mk (below_step (by repeat (first | (with_reducible first | exact HB.out | apply below_alloc | apply pw_below_drewN | apply below_drew1 | refine below_set ?_ GE132.out | refine below_set ?_ GE137.out) | exact HB.out)) hb); (try clear hb); (try clear hk)) | ((with_reducible refine gate_dst (N := 15) rfl ?_); refine box_event ?hg (N := 15) ?hd (cs := #[.int .i64 0, .int .i64 0, .int .i64 0]) (t := 33) ?hr ?_; (case hd => rfl); (case hg => rfl); (case hr => first | (go_simp; done) | (go_simp; rfl)); intro gb145 hg w34 hbox hb; replace HO_9 := Aside0.mk (Kd.R_below (Kd.R_elderB (rU HO_9.out) gb145 (Nat.le_of_eq hg.symm)) hb); replace HO_10 := Aside0.mk (Kd.R_below (Kd.R_elderB (rU HO_10.out) gb145 (Nat.le_of_eq hg.symm)) hb); have BK145 := Aside0.mk (hbox); have GW145 := Aside0.mk ((by rw [hg]; exact (below_size (by repeat (first | (with_reducible first | exact HB.out | apply below_alloc | apply pw_below_drewN | apply below_drew1 | refine below_set ?_ GE132.out | refine below_set ?_ GE137.out) | exact HB.out))) : w.heap.size ≤ gb145)); have GE145 := Aside0.mk ((by rw [hg]; exact (below_size (by repeat (first | (with_reducible first | exact HB.out | apply below_alloc | apply pw_below_drewN | apply below_drew1 | refine below_set ?_ GE132.out | refine below_set ?_ GE137.out) | exact HB.out))) : w.heap.size ≤ gb145)); replace HB := Aside0.mk (below_step (by repeat (first | (with_reducible first | exact HB.out | apply below_alloc | apply pw_below_drewN | apply below_drew1 | refine below_set ?_ GE132.out | refine below_set ?_ GE137.out) | exact HB.out)) hb); have NB132_145 := Aside0.mk ((by rw [hg]; exact Nat.ne_of_lt (blk_lt (g := gb132) (o := .cells #[.int .i64 ((rd_T33 l0 x30_2).f0), .int .i64 ((rd_T33 l0 x30_2).f1), .int .i64 ((rd_T33 l0 x30_2).f2)] 33 (0, 0)) (kU BK132.out)) : gb132 ≠ gb145)); have NB145_132 := Aside0.mk ((by rw [hg]; exact Nat.ne_of_gt (blk_lt (g := gb132) (o := .cells #[.int .i64 ((rd_T33 l0 x30_2).f0), .int .i64 ((rd_T33 l0 x30_2).f1), .int .i64 ((rd_T33 l0 x30_2).f2)] 33 (0, 0)) (kU BK132.out)) : gb145 ≠ gb132)); replace BK132 := Aside0.mk (blk_below (g := gb132) (o := .cells #[.int .i64 ((rd_T33 l0 x30_2).f0), .int .i64 ((rd_T33 l0 x30_2).f1), .int .i64 ((rd_T33 l0 x30_2).f2)] 33 (0, 0)) (kU BK132.out) hb); have NB137_145 := Aside0.mk ((by rw [hg]; exact Nat.ne_of_lt (blk_lt (g := gb137) (o := .cells #[.int .i64 t133, .int .i64 t134, .int .i64 t135] 33 (0, 0)) (kU BK137.out)) : gb137 ≠ gb145)); have NB145_137 := Aside0.mk ((by rw [hg]; exact Nat.ne_of_gt (blk_lt (g := gb137) (o := .cells #[.int .i64 t133, .int .i64 t134, .int .i64 t135] 33 (0, 0)) (kU BK137.out)) : gb145 ≠ gb137)); replace BK137 := Aside0.mk (blk_below (g := gb137) (o := .cells #[.int .i64 t133, .int .i64 t134, .int .i64 t135] 33 (0, 0)) (kU BK137.out) hb); clear hb hbox hg; have hnb35 := NB145_132.out; have hnc35 := NB132_145.out; have hnb36 := NB145_137.out; have hnc36 := NB137_145.out; have hcz37_0 : w34.cell? ⟨gb145, 0, none⟩ = some (.int .i64 0) := (blk_cell BK145.out 0).trans rfl; have hcz37_1 : w34.cell? ⟨gb145, 1, none⟩ = some (.int .i64 0) := (blk_cell BK145.out 1).trans rfl; have hcz37_2 : w34.cell? ⟨gb145, 2, none⟩ = some (.int .i64 0) := (blk_cell BK145.out 2).trans rfl; have hfz37_0 := blk_frozen BK145.out 0; have hfz37_1 := blk_frozen BK145.out 1; have hfz37_2 := blk_frozen BK145.out 2) | ((with_reducible refine gate_store (t := 33) (p := 15) rfl ?_); refine store_event (t := 33) (p := 15) (v := ?vo_w38) (w1 := (((w34.setCell ⟨gb145, 0, none⟩ (.int .i64 t141)).setCell ⟨gb145, 1, none⟩ (.int .i64 t142)).setCell ⟨gb145, 2, none⟩ (.int .i64 t143))) ?hg ?ho ?hn ?hr ?_; (case ho => rfl); (case hg => rfl); (case hn => rfl); (case hr => first | (go_simp; done) | (go_simp; rfl)); intro w38 hw; have n0_ : Aside0 (Kd.R k33 33 w38 w.heap.size (fun k_ => some k_ ≠ (u10 : Value).ownBlock ∧ k_ ≠ gb132 ∧ k_ ≠ gb137 ∧ k_ ≠ gb145) u9 x9_14) := ⟨(by rw [hw]; exact (rU (Kd.R_mono (Kd.R_far (p := ⟨gb145, 2, none⟩) (Kd.R_far (p := ⟨gb145, 1, none⟩) (Kd.R_far (p := ⟨gb145, 0, none⟩) (Kd.R_mono HO_9.out (fun k_ hk => (⟨hk, hk.2⟩ : _ ∧ k_ ≠ gb145))) (fun _ hk => hk.2) (.int .i64 t141)) (fun _ hk => hk.2) (.int .i64 t142)) (fun _ hk => hk.2) (.int .i64 t143)) (fun _ hk => ⟨hk.1.1.1, ⟨hk.1.1.2.1, ⟨hk.1.1.2.2, hk.1.2⟩⟩⟩))))⟩; have n1_ : Aside0 (Kd.R k33 33 w38 w.heap.size (fun k_ => some k_ ≠ (u9 : Value).ownBlock ∧ k_ ≠ gb132 ∧ k_ ≠ gb137 ∧ k_ ≠ gb145) u10 x10_2) := ⟨(by rw [hw]; exact (rU (Kd.R_mono (Kd.R_far (p := ⟨gb145, 2, none⟩) (Kd.R_far (p := ⟨gb145, 1, none⟩) (Kd.R_far (p := ⟨gb145, 0, none⟩) (Kd.R_mono HO_10.out (fun k_ hk => (⟨hk, hk.2⟩ : _ ∧ k_ ≠ gb145))) (fun _ hk => hk.2) (.int .i64 t141)) (fun _ hk => hk.2) (.int .i64 t142)) (fun _ hk => hk.2) (.int .i64 t143)) (fun _ hk => ⟨hk.1.1.1, ⟨hk.1.1.2.1, ⟨hk.1.1.2.2, hk.1.2⟩⟩⟩))))⟩; have n2_ : Aside0 (w38.heap[gb132]? = some (.cells #[.int .i64 ((rd_T33 l0 x30_2).f0), .int .i64 ((rd_T33 l0 x30_2).f1), .int .i64 ((rd_T33 l0 x30_2).f2)] 33 (0, 0))) := ⟨(by rw [hw]; exact (by (with_reducible repeat (first | refine blk_drewN ?_ _ | refine blk_drew ?_ | refine blk_alloc ?_ _)); refine blk_far ?_ NB132_145.out _; (with_reducible repeat (first | refine blk_drewN ?_ _ | refine blk_drew ?_ | refine blk_alloc ?_ _)); refine blk_far ?_ NB132_145.out _; (with_reducible repeat (first | refine blk_drewN ?_ _ | refine blk_drew ?_ | refine blk_alloc ?_ _)); refine blk_far ?_ NB132_145.out _; (with_reducible repeat (first | refine blk_drewN ?_ _ | refine blk_drew ?_ | refine blk_alloc ?_ _)); exact BK132.out))⟩; have n3_ : Aside0 (w38.heap[gb137]? = some (.cells #[.int .i64 t133, .int .i64 t134, .int .i64 t135] 33 (0, 0))) := ⟨(by rw [hw]; exact (by (with_reducible repeat (first | refine blk_drewN ?_ _ | refine blk_drew ?_ | refine blk_alloc ?_ _)); refine blk_far ?_ NB137_145.out _; (with_reducible repeat (first | refine blk_drewN ?_ _ | refine blk_drew ?_ | refine blk_alloc ?_ _)); refine blk_far ?_ NB137_145.out _; (with_reducible repeat (first | refine blk_drewN ?_ _ | refine blk_drew ?_ | refine blk_alloc ?_ _)); refine blk_far ?_ NB137_145.out _; (with_reducible repeat (first | refine blk_drewN ?_ _ | refine blk_drew ?_ | refine blk_alloc ?_ _)); exact BK137.out))⟩; have n4_ : Aside0 (w38.heap[gb145]? = some (.cells #[.int .i64 t141, .int .i64 t142, .int .i64 t143] 33 (0, 0))) := ⟨(by rw [hw]; exact (by (with_reducible repeat (first | refine blk_drewN ?_ _ | refine blk_drew ?_ | refine blk_alloc ?_ _)); refine blk_put (cs := #[.int .i64 t141, .int .i64 t142, .int .i64 0]) ?_ 2 _ rfl; (with_reducible repeat (first | refine blk_drewN ?_ _ | refine blk_drew ?_ | refine blk_alloc ?_ _)); refine blk_put (cs := #[.int .i64 t141, .int .i64 0, .int .i64 0]) ?_ 1 _ rfl; (with_reducible repeat (first | refine blk_drewN ?_ _ | refine blk_drew ?_ | refine blk_alloc ?_ _)); refine blk_put (cs := #[.int .i64 0, .int .i64 0, .int .i64 0]) ?_ 0 _ rfl; (with_reducible repeat (first | refine blk_drewN ?_ _ | refine blk_drew ?_ | refine blk_alloc ?_ _)); exact BK145.out))⟩; have n5_ : Aside0 (Below w.heap.size w w38) := ⟨(by rw [hw]; exact (by repeat (first | (with_reducible first | exact HB.out | apply below_alloc | apply pw_below_drewN | apply below_drew1 | refine below_set ?_ GE132.out | refine below_set ?_ GE137.out | refine below_set ?_ GE145.out) | exact HB.out)))⟩; clear hw; clear HO_9; clear HO_10; clear BK132; clear BK137; clear BK145; clear HB; have HO_9 := n0_; have HO_10 := n1_; have BK132 := n2_; have BK137 := n3_; have BK145 := n4_; have HB := n5_; clear n0_ n1_ n2_ n3_ n4_ n5_))
           (try simp only [Act.put, List.setIfInBounds_toArray, List.set_cons_zero, List.set_cons_succ])
           go_cut [10] (fun v10 wc => ∃ (kq : Nat) (x10_29 : List (S33)), Aside0 (extent_Cut.j3 kq a1 a2 x9_14 x10_29 l0 (l0.length : Int) x30_2 ((rd_T33 l0 x30_2).f0) ((rd_T33 l0 x30_2).f1) ((rd_T33 l0 x30_2).f2) = some (r1, r2, r3)) ∧ Aside0 (kq ≤ kj14) ∧ Aside0 (Kd.R k33 33 wc w.heap.size (fun k_ => some k_ ≠ (v10 : Value).ownBlock ∧ k_ ≠ gb132 ∧ k_ ≠ gb137 ∧ k_ ≠ gb145) u9 x9_14) ∧ Aside0 (Kd.R k33 33 wc w.heap.size (fun k_ => some k_ ≠ (u9 : Value).ownBlock ∧ k_ ≠ gb132 ∧ k_ ≠ gb137 ∧ k_ ≠ gb145) v10 x10_29) ∧ Aside0 (wc.heap[gb132]? = some (.cells #[.int .i64 ((rd_T33 l0 x30_2).f0), .int .i64 ((rd_T33 l0 x30_2).f1), .int .i64 ((rd_T33 l0 x30_2).f2)] 33 (0, 0))) ∧ Aside0 (wc.heap[gb137]? = some (.cells #[.int .i64 t133, .int .i64 t134, .int .i64 t135] 33 (0, 0))) ∧ Aside0 (wc.heap[gb145]? = some (.cells #[.int .i64 t141, .int .i64 t142, .int .i64 t143] 33 (0, 0))) ∧ Aside0 (Below w.heap.size w wc))
           case first =>
            have H := HC30.out
            clear HC30
            by_cases c39 : t144 = true
            ·
             subst c39
             have H1 : ((extent_push.f x10_2 t141 t142 t143).bind fun t146 => (extent_Cut.j3 kj14 a1 a2 x9_14 t146 l0 (l0.length : Int) x30_2 ((rd_T33 l0 x30_2).f0) ((rd_T33 l0 x30_2).f1) ((rd_T33 l0 x30_2).f2))) = some (r1, r2, r3) := by rw [if_pos rfl] at H; exact H
             clear H
             have H := H1
             clear H1
             replace H := Option.bind_eq_some_iff.mp H
             obtain ⟨t146, A400, H⟩ := H
             replace H : (extent_Cut.j3 kj14 a1 a2 x9_14 t146 l0 (l0.length : Int) x30_2 ((rd_T33 l0 x30_2).f0) ((rd_T33 l0 x30_2).f1) ((rd_T33 l0 x30_2).f2)) = some (r1, r2, r3) := H
             have A40 := Aside0.mk A400
             clear A400
             have H' := Aside0.mk H
             clear H
             have hnb41 := NB145_132.out
             have hnc41 := NB132_145.out
             have hnb42 := NB145_137.out
             have hnc42 := NB137_145.out
             have hcz43_0 : w38.cell? ⟨gb145, 0, none⟩ = some (.int .i64 t141) := (blk_cell BK145.out 0).trans rfl
             have hcz43_1 : w38.cell? ⟨gb145, 1, none⟩ = some (.int .i64 t142) := (blk_cell BK145.out 1).trans rfl
             have hcz43_2 : w38.cell? ⟨gb145, 2, none⟩ = some (.int .i64 t143) := (blk_cell BK145.out 2).trans rfl
             have hfz43_0 := blk_frozen BK145.out 0
             have hfz43_1 := blk_frozen BK145.out 1
             have hfz43_2 := blk_frozen BK145.out 2
             obtain ⟨Ao44, co44, eo44⟩ := Kd.R_slice HO_10.out
             subst eo44
             go_wp2_with (first | ((with_reducible refine gate_callee (f := 31) rfl ?_); refine goesL_ (some 56) rfl rfl Try.func31 (by kernel_rfl) rfl #[.slice Ao44 x10_2.length co44, .agg #[.int .i64 t141, .int .i64 t142, .int .i64 t143]] rfl (by (try simp only [List.map_toArray, List.map_cons, List.map_nil]); first | done | rfl | (simp only [List.length_drop, List.length_take]; rfl)) ?_; (with_reducible refine (extent_push.calls (fun k_ => some k_ = (.slice Ao44 x10_2.length co44 : Value).ownBlock) (.slice Ao44 x10_2.length co44) x10_2 t141 t142 t143 t146 w _ ?side1 ?side2 A40.out).mono ?_); (case side1 => repeat (first | (with_reducible first | exact HB.out | apply below_alloc | apply pw_below_drewN | apply below_drew1 | refine below_set ?_ GE132.out | refine below_set ?_ GE137.out | refine below_set ?_ GE145.out) | exact HB.out)); (case side2 => exact Kd.R_tight rfl HO_10.out); rintro e w45 ⟨v147, rfl, ho0, hb, hkp⟩; refine ⟨_, rfl, ?_⟩; have n0_ := Aside0.mk (Kd.R_mono (ok' := fun k_ => k_ ≠ gb132 ∧ k_ ≠ gb137 ∧ k_ ≠ gb145 ∧ some k_ ≠ (v147 : Value).ownBlock) (Kd.R_keptB (HO_9.out) hkp (fun k_ hk_ hs_ => (hk_.1) hs_)) (fun k_ hk_ => ⟨hk_.1.2.1, hk_.1.2.2.1, hk_.1.2.2.2, fun e_ => Or.elim (ho0.1 k_ e_.symm) (fun hs_ => hk_.2.1 hs_) (fun hn_ => Nat.not_le.2 hk_.2.2 hn_)⟩)); have n1_ := Aside0.mk (blk_kept (kU BK132.out) hkp (fun hs_ => (fun e_ => (Kd.R_away HO_10.out (fun _ hk => hk.2.1)) e_) hs_)); have n2_ := Aside0.mk (blk_kept (kU BK137.out) hkp (fun hs_ => (fun e_ => (Kd.R_away HO_10.out (fun _ hk => hk.2.2.1)) e_) hs_)); have n3_ := Aside0.mk (blk_kept (kU BK145.out) hkp (fun hs_ => (fun e_ => (Kd.R_away HO_10.out (fun _ hk => hk.2.2.2)) e_) hs_)); have n4_ := Aside0.mk (Kd.R_mono (ok' := fun k_ => some k_ ≠ (u9 : Value).ownBlock ∧ k_ ≠ gb132 ∧ k_ ≠ gb137 ∧ k_ ≠ gb145) ho0 (fun k_ hk_ => ⟨Or.elim hk_ (fun hs_ => fun e_ => (((HO_9.out).1 k_ e_.symm).1) hs_) (fun hn_ => (Kd.fresh' (Kd.R_lt (rU HO_9.out)) k_ hn_)), Or.elim hk_ (fun hs_ => fun e_ => (Kd.R_away HO_10.out (fun _ hk => hk.2.1)) (by rw [← e_]; exact hs_)) (fun hn_ => (Kd.freshB (g := gb132) (o := .cells #[.int .i64 ((rd_T33 l0 x30_2).f0), .int .i64 ((rd_T33 l0 x30_2).f1), .int .i64 ((rd_T33 l0 x30_2).f2)] 33 (0, 0)) (kU BK132.out) k_ hn_)), Or.elim hk_ (fun hs_ => fun e_ => (Kd.R_away HO_10.out (fun _ hk => hk.2.2.1)) (by rw [← e_]; exact hs_)) (fun hn_ => (Kd.freshB (g := gb137) (o := .cells #[.int .i64 t133, .int .i64 t134, .int .i64 t135] 33 (0, 0)) (kU BK137.out) k_ hn_)), Or.elim hk_ (fun hs_ => fun e_ => (Kd.R_away HO_10.out (fun _ hk => hk.2.2.2)) (by rw [← e_]; exact hs_)) (fun hn_ => (Kd.freshB (g := gb145) (o := .cells #[.int .i64 t141, .int .i64 t142, .int .i64 t143] 33 (0, 0)) (kU BK145.out) k_ hn_))⟩)); have n5_ := Aside0.mk (hb); clear HO_9; clear BK132; clear BK137; clear BK145; clear HB; clear HO_10; have HO_9 := n0_; have BK132 := n1_; have BK137 := n2_; have BK145 := n3_; have HO148 := n4_; have HB := n5_; clear n0_ n1_ n2_ n3_ n4_ n5_; (try clear hb); (try clear hkp); (try clear ho0)))
             go_meet
             case rel => exact ⟨_, (t146), H', ⟨by have := HJ3.out; have := HK2.out; have := HJ14.out; first | omega | exact Nat.le_refl _⟩, ⟨by (with_reducible repeat (first | apply Kd.R_alloc | apply Kd.R_drewN | apply Kd.R_drew)); exact Kd.R_mono HO_9.out (fun _ hk => ⟨hk.2.2.2, ⟨hk.1, ⟨hk.2.1, hk.2.2.1⟩⟩⟩)⟩, ⟨rU HO148.out⟩, ⟨by (with_reducible repeat (first | refine blk_drewN ?_ _ | refine blk_drew ?_ | refine blk_alloc ?_ _)); exact BK132.out⟩, ⟨by (with_reducible repeat (first | refine blk_drewN ?_ _ | refine blk_drew ?_ | refine blk_alloc ?_ _)); exact BK137.out⟩, ⟨by (with_reducible repeat (first | refine blk_drewN ?_ _ | refine blk_drew ?_ | refine blk_alloc ?_ _)); exact BK145.out⟩, ⟨by repeat (first | (with_reducible first | exact HB.out | apply below_alloc | apply pw_below_drewN | apply below_drew1 | refine below_set ?_ GE132.out | refine below_set ?_ GE137.out | refine below_set ?_ GE145.out) | exact HB.out)⟩⟩
            ·
             replace c39 := Bool.eq_false_iff.mpr c39
             subst c39
             have H1 : (extent_Cut.j3 kj14 a1 a2 x9_14 x10_2 l0 (l0.length : Int) x30_2 ((rd_T33 l0 x30_2).f0) ((rd_T33 l0 x30_2).f1) ((rd_T33 l0 x30_2).f2)) = some (r1, r2, r3) := by rw [if_neg (show ¬ (false = true) by decide)] at H; exact H
             clear H
             have H := H1
             clear H1
             have H' := Aside0.mk H
             clear H
             go_wp2
             go_meet
             case rel => exact ⟨_, (x10_2), H', ⟨by have := HJ3.out; have := HK2.out; have := HJ14.out; first | omega | exact Nat.le_refl _⟩, ⟨rU HO_9.out⟩, ⟨rU HO_10.out⟩, ⟨by (with_reducible repeat (first | refine blk_drewN ?_ _ | refine blk_drew ?_ | refine blk_alloc ?_ _)); exact BK132.out⟩, ⟨by (with_reducible repeat (first | refine blk_drewN ?_ _ | refine blk_drew ?_ | refine blk_alloc ?_ _)); exact BK137.out⟩, ⟨by (with_reducible repeat (first | refine blk_drewN ?_ _ | refine blk_drew ?_ | refine blk_alloc ?_ _)); exact BK145.out⟩, ⟨by repeat (first | (with_reducible first | exact HB.out | apply below_alloc | apply pw_below_drewN | apply below_drew1 | refine below_set ?_ GE132.out | refine below_set ?_ GE137.out | refine below_set ?_ GE145.out) | exact HB.out)⟩⟩
           case rest =>
            clear HC30
            try clear c1
            try clear p1
            try clear q1
            try clear hx1
            try clear c2
            try clear p2
            try clear c3
            try clear c4
            try clear c6
            try clear p6
            try clear c10
            try clear c11
            try clear c11b0
            try clear c12
            try clear c12b0
            try clear c13
            try clear c13b0
            try clear p13
            try clear q13
            try clear hx13
            try clear c19
            try clear c20
            try clear c23
            try clear c25
            try clear c30
            try clear c31
            try clear c35
            try clear c36
            try clear c39
            try clear c41
            try clear c42
            try clear hcz17_0
            try clear hcz17_1
            try clear hcz17_2
            try clear hcz21_0
            try clear hcz21_1
            try clear hcz21_2
            try clear hcz26_0
            try clear hcz26_1
            try clear hcz26_2
            try clear hcz32_0
            try clear hcz32_1
            try clear hcz32_2
            try clear hcz37_0
            try clear hcz37_1
            try clear hcz37_2
            try clear hcz43_0
            try clear hcz43_1
            try clear hcz43_2
            try clear hfz17_0
            try clear hfz17_1
            try clear hfz17_2
            try clear hfz21_0
            try clear hfz21_1
            try clear hfz21_2
            try clear hfz26_0
            try clear hfz26_1
            try clear hfz26_2
            try clear hfz32_0
            try clear hfz32_1
            try clear hfz32_2
            try clear hfz37_0
            try clear hfz37_1
            try clear hfz37_2
            try clear hfz43_0
            try clear hfz43_1
            try clear hfz43_2
            try clear hx131_0
            try clear hx131_1
            try clear hx131_2
            try clear p1
            try clear p13
            try clear p131
            try clear p2
            try clear q1
            try clear q13
            try clear q131
            obtain ⟨kq, x10_29, HA, HJ29, HO_9, HO_10, BK132, BK137, BK145, HB⟩ := hcut
            cases kq with
            | zero => exact absurd HA.out (by simp [extent_Cut.j3])
            | succ kj29 =>
             have H := HA.out
             clear HA
             simp only [extent_Cut.j3] at H
             replace H := Option.bind_eq_some_iff.mp H
             obtain ⟨⟨t149, t150, t151, t152⟩, A460, H⟩ := H
             replace H : (if t152 = true then ((extent_push.f x9_14 t149 t150 t151).bind fun t154 => (extent_Cut.l0 kj29 a1 a2 t154 x10_29 l0 (l0.length : Int) (wrap64 (x30_2 + 1)))) else (extent_Cut.l0 kj29 a1 a2 x9_14 x10_29 l0 (l0.length : Int) (wrap64 (x30_2 + 1)))) = some (r1, r2, r3) := H
             have A46 := Aside0.mk A460
             clear A460
             by_cases c47 : t152 = true
             ·
              subst c47
              have H1 : ((extent_push.f x9_14 t149 t150 t151).bind fun t154 => (extent_Cut.l0 kj29 a1 a2 t154 x10_29 l0 (l0.length : Int) (wrap64 (x30_2 + 1)))) = some (r1, r2, r3) := by rw [if_pos rfl] at H; exact H
              clear H
              have H := H1
              clear H1
              replace H := Option.bind_eq_some_iff.mp H
              obtain ⟨t154, A480, H⟩ := H
              replace H : (extent_Cut.l0 kj29 a1 a2 t154 x10_29 l0 (l0.length : Int) (wrap64 (x30_2 + 1))) = some (r1, r2, r3) := H
              have A48 := Aside0.mk A480
              clear A480
              have H' := Aside0.mk H
              clear H
              have hnb49 := NB132_137.out
              have hnc49 := NB137_132.out
              have hnb50 := NB132_145.out
              have hnc50 := NB145_132.out
              have hcz51_0 : wc.cell? ⟨gb132, 0, none⟩ = some (.int .i64 ((rd_T33 l0 x30_2).f0)) := (blk_cell BK132.out 0).trans rfl
              have hcz51_1 : wc.cell? ⟨gb132, 1, none⟩ = some (.int .i64 ((rd_T33 l0 x30_2).f1)) := (blk_cell BK132.out 1).trans rfl
              have hcz51_2 : wc.cell? ⟨gb132, 2, none⟩ = some (.int .i64 ((rd_T33 l0 x30_2).f2)) := (blk_cell BK132.out 2).trans rfl
              have hfz51_0 := blk_frozen BK132.out 0
              have hfz51_1 := blk_frozen BK132.out 1
              have hfz51_2 := blk_frozen BK132.out 2
              go_wp2_with (first | ((with_reducible refine gate_callee (f := 30) rfl ?_); refine goesL_ (some 62) rfl rfl Try.func30 (by kernel_rfl) rfl #[.agg #[.int .i64 ((rd_T33 l0 x30_2).f0), .int .i64 ((rd_T33 l0 x30_2).f1), .int .i64 ((rd_T33 l0 x30_2).f2)], .int .i64 (wrap64 (a1 + a2)), .int .i64 65536] rfl (by (try simp only [List.map_toArray, List.map_cons, List.map_nil]); first | done | rfl | (simp only [List.length_drop, List.length_take]; rfl)) ?_; (with_reducible refine (extent_part.calls ((rd_T33 l0 x30_2).f0) ((rd_T33 l0 x30_2).f1) ((rd_T33 l0 x30_2).f2) (wrap64 (a1 + a2)) 65536 t149 t150 t151 true _ A46.out).mono ?_); rintro e w52 ⟨rfl, hb⟩; refine ⟨_, rfl, ?_⟩; replace HO_9 := Aside0.mk (Kd.R_below (rU HO_9.out) hb); replace HO_10 := Aside0.mk (Kd.R_below (rU HO_10.out) hb); replace BK132 := Aside0.mk (blk_below (g := gb132) (o := .cells #[.int .i64 ((rd_T33 l0 x30_2).f0), .int .i64 ((rd_T33 l0 x30_2).f1), .int .i64 ((rd_T33 l0 x30_2).f2)] 33 (0, 0)) (kU BK132.out) hb); replace BK137 := Aside0.mk (blk_below (g := gb137) (o := .cells #[.int .i64 t133, .int .i64 t134, .int .i64 t135] 33 (0, 0)) (kU BK137.out) hb); replace BK145 := Aside0.mk (blk_below (g := gb145) (o := .cells #[.int .i64 t141, .int .i64 t142, .int .i64 t143] 33 (0, 0)) (kU BK145.out) hb); replace HB := Aside0.mk (below_step (by repeat (first | (with_reducible first | exact HB.out | apply below_alloc | apply pw_below_drewN | apply below_drew1 | refine below_set ?_ GE132.out | refine below_set ?_ GE137.out | refine below_set ?_ GE145.out) | exact HB.out)) hb); (try clear hb); (try clear hk)) | ((with_reducible refine gate_dst (N := 17) rfl ?_); refine box_event ?hg (N := 17) ?hd (cs := #[.int .i64 0, .int .i64 0, .int .i64 0]) (t := 33) ?hr ?_; (case hd => rfl); (case hg => rfl); (case hr => first | (go_simp; done) | (go_simp; rfl)); intro gb153 hg w53 hbox hb; replace HO_9 := Aside0.mk (Kd.R_below (Kd.R_elderB (rU HO_9.out) gb153 (Nat.le_of_eq hg.symm)) hb); replace HO_10 := Aside0.mk (Kd.R_below (Kd.R_elderB (rU HO_10.out) gb153 (Nat.le_of_eq hg.symm)) hb); have BK153 := Aside0.mk (hbox); have GW153 := Aside0.mk ((by rw [hg]; exact (below_size (by repeat (first | (with_reducible first | exact HB.out | apply below_alloc | apply pw_below_drewN | apply below_drew1 | refine below_set ?_ GE132.out | refine below_set ?_ GE137.out | refine below_set ?_ GE145.out) | exact HB.out))) : w.heap.size ≤ gb153)); have GE153 := Aside0.mk ((by rw [hg]; exact (below_size (by repeat (first | (with_reducible first | exact HB.out | apply below_alloc | apply pw_below_drewN | apply below_drew1 | refine below_set ?_ GE132.out | refine below_set ?_ GE137.out | refine below_set ?_ GE145.out) | exact HB.out))) : w.heap.size ≤ gb153)); replace HB := Aside0.mk (below_step (by repeat (first | (with_reducible first | exact HB.out | apply below_alloc | apply pw_below_drewN | apply below_drew1 | refine below_set ?_ GE132.out | refine below_set ?_ GE137.out | refine below_set ?_ GE145.out) | exact HB.out)) hb); have NB132_153 := Aside0.mk ((by rw [hg]; exact Nat.ne_of_lt (blk_lt (g := gb132) (o := .cells #[.int .i64 ((rd_T33 l0 x30_2).f0), .int .i64 ((rd_T33 l0 x30_2).f1), .int .i64 ((rd_T33 l0 x30_2).f2)] 33 (0, 0)) (kU BK132.out)) : gb132 ≠ gb153)); have NB153_132 := Aside0.mk ((by rw [hg]; exact Nat.ne_of_gt (blk_lt (g := gb132) (o := .cells #[.int .i64 ((rd_T33 l0 x30_2).f0), .int .i64 ((rd_T33 l0 x30_2).f1), .int .i64 ((rd_T33 l0 x30_2).f2)] 33 (0, 0)) (kU BK132.out)) : gb153 ≠ gb132)); replace BK132 := Aside0.mk (blk_below (g := gb132) (o := .cells #[.int .i64 ((rd_T33 l0 x30_2).f0), .int .i64 ((rd_T33 l0 x30_2).f1), .int .i64 ((rd_T33 l0 x30_2).f2)] 33 (0, 0)) (kU BK132.out) hb); have NB137_153 := Aside0.mk ((by rw [hg]; exact Nat.ne_of_lt (blk_lt (g := gb137) (o := .cells #[.int .i64 t133, .int .i64 t134, .int .i64 t135] 33 (0, 0)) (kU BK137.out)) : gb137 ≠ gb153)); have NB153_137 := Aside0.mk ((by rw [hg]; exact Nat.ne_of_gt (blk_lt (g := gb137) (o := .cells #[.int .i64 t133, .int .i64 t134, .int .i64 t135] 33 (0, 0)) (kU BK137.out)) : gb153 ≠ gb137)); replace BK137 := Aside0.mk (blk_below (g := gb137) (o := .cells #[.int .i64 t133, .int .i64 t134, .int .i64 t135] 33 (0, 0)) (kU BK137.out) hb); have NB145_153 := Aside0.mk ((by rw [hg]; exact Nat.ne_of_lt (blk_lt (g := gb145) (o := .cells #[.int .i64 t141, .int .i64 t142, .int .i64 t143] 33 (0, 0)) (kU BK145.out)) : gb145 ≠ gb153)); have NB153_145 := Aside0.mk ((by rw [hg]; exact Nat.ne_of_gt (blk_lt (g := gb145) (o := .cells #[.int .i64 t141, .int .i64 t142, .int .i64 t143] 33 (0, 0)) (kU BK145.out)) : gb153 ≠ gb145)); replace BK145 := Aside0.mk (blk_below (g := gb145) (o := .cells #[.int .i64 t141, .int .i64 t142, .int .i64 t143] 33 (0, 0)) (kU BK145.out) hb); clear hb hbox hg; have hnb54 := NB153_132.out; have hnc54 := NB132_153.out; have hnb55 := NB153_137.out; have hnc55 := NB137_153.out; have hnb56 := NB153_145.out; have hnc56 := NB145_153.out; have hcz57_0 : w53.cell? ⟨gb153, 0, none⟩ = some (.int .i64 0) := (blk_cell BK153.out 0).trans rfl; have hcz57_1 : w53.cell? ⟨gb153, 1, none⟩ = some (.int .i64 0) := (blk_cell BK153.out 1).trans rfl; have hcz57_2 : w53.cell? ⟨gb153, 2, none⟩ = some (.int .i64 0) := (blk_cell BK153.out 2).trans rfl; have hfz57_0 := blk_frozen BK153.out 0; have hfz57_1 := blk_frozen BK153.out 1; have hfz57_2 := blk_frozen BK153.out 2) | ((with_reducible refine gate_store (t := 33) (p := 17) rfl ?_); refine store_event (t := 33) (p := 17) (v := ?vo_w58) (w1 := (((w53.setCell ⟨gb153, 0, none⟩ (.int .i64 t149)).setCell ⟨gb153, 1, none⟩ (.int .i64 t150)).setCell ⟨gb153, 2, none⟩ (.int .i64 t151))) ?hg ?ho ?hn ?hr ?_; (case ho => rfl); (case hg => rfl); (case hn => rfl); (case hr => first | (go_simp; done) | (go_simp; rfl)); intro w58 hw; have n0_ : Aside0 (Kd.R k33 33 w58 w.heap.size (fun k_ => some k_ ≠ (u10 : Value).ownBlock ∧ k_ ≠ gb132 ∧ k_ ≠ gb137 ∧ k_ ≠ gb145 ∧ k_ ≠ gb153) u9 x9_14) := ⟨(by rw [hw]; exact (rU (Kd.R_mono (Kd.R_far (p := ⟨gb153, 2, none⟩) (Kd.R_far (p := ⟨gb153, 1, none⟩) (Kd.R_far (p := ⟨gb153, 0, none⟩) (Kd.R_mono HO_9.out (fun k_ hk => (⟨hk, hk.2⟩ : _ ∧ k_ ≠ gb153))) (fun _ hk => hk.2) (.int .i64 t149)) (fun _ hk => hk.2) (.int .i64 t150)) (fun _ hk => hk.2) (.int .i64 t151)) (fun _ hk => ⟨hk.1.1.1, ⟨hk.1.1.2.1, ⟨hk.1.1.2.2.1, ⟨hk.1.1.2.2.2, hk.1.2⟩⟩⟩⟩))))⟩; have n1_ : Aside0 (Kd.R k33 33 w58 w.heap.size (fun k_ => some k_ ≠ (u9 : Value).ownBlock ∧ k_ ≠ gb132 ∧ k_ ≠ gb137 ∧ k_ ≠ gb145 ∧ k_ ≠ gb153) u10 x10_29) := ⟨(by rw [hw]; exact (rU (Kd.R_mono (Kd.R_far (p := ⟨gb153, 2, none⟩) (Kd.R_far (p := ⟨gb153, 1, none⟩) (Kd.R_far (p := ⟨gb153, 0, none⟩) (Kd.R_mono HO_10.out (fun k_ hk => (⟨hk, hk.2⟩ : _ ∧ k_ ≠ gb153))) (fun _ hk => hk.2) (.int .i64 t149)) (fun _ hk => hk.2) (.int .i64 t150)) (fun _ hk => hk.2) (.int .i64 t151)) (fun _ hk => ⟨hk.1.1.1, ⟨hk.1.1.2.1, ⟨hk.1.1.2.2.1, ⟨hk.1.1.2.2.2, hk.1.2⟩⟩⟩⟩))))⟩; have n2_ : Aside0 (w58.heap[gb132]? = some (.cells #[.int .i64 ((rd_T33 l0 x30_2).f0), .int .i64 ((rd_T33 l0 x30_2).f1), .int .i64 ((rd_T33 l0 x30_2).f2)] 33 (0, 0))) := ⟨(by rw [hw]; exact (by (with_reducible repeat (first | refine blk_drewN ?_ _ | refine blk_drew ?_ | refine blk_alloc ?_ _)); refine blk_far ?_ NB132_153.out _; (with_reducible repeat (first | refine blk_drewN ?_ _ | refine blk_drew ?_ | refine blk_alloc ?_ _)); refine blk_far ?_ NB132_153.out _; (with_reducible repeat (first | refine blk_drewN ?_ _ | refine blk_drew ?_ | refine blk_alloc ?_ _)); refine blk_far ?_ NB132_153.out _; (with_reducible repeat (first | refine blk_drewN ?_ _ | refine blk_drew ?_ | refine blk_alloc ?_ _)); exact BK132.out))⟩; have n3_ : Aside0 (w58.heap[gb137]? = some (.cells #[.int .i64 t133, .int .i64 t134, .int .i64 t135] 33 (0, 0))) := ⟨(by rw [hw]; exact (by (with_reducible repeat (first | refine blk_drewN ?_ _ | refine blk_drew ?_ | refine blk_alloc ?_ _)); refine blk_far ?_ NB137_153.out _; (with_reducible repeat (first | refine blk_drewN ?_ _ | refine blk_drew ?_ | refine blk_alloc ?_ _)); refine blk_far ?_ NB137_153.out _; (with_reducible repeat (first | refine blk_drewN ?_ _ | refine blk_drew ?_ | refine blk_alloc ?_ _)); refine blk_far ?_ NB137_153.out _; (with_reducible repeat (first | refine blk_drewN ?_ _ | refine blk_drew ?_ | refine blk_alloc ?_ _)); exact BK137.out))⟩; have n4_ : Aside0 (w58.heap[gb145]? = some (.cells #[.int .i64 t141, .int .i64 t142, .int .i64 t143] 33 (0, 0))) := ⟨(by rw [hw]; exact (by (with_reducible repeat (first | refine blk_drewN ?_ _ | refine blk_drew ?_ | refine blk_alloc ?_ _)); refine blk_far ?_ NB145_153.out _; (with_reducible repeat (first | refine blk_drewN ?_ _ | refine blk_drew ?_ | refine blk_alloc ?_ _)); refine blk_far ?_ NB145_153.out _; (with_reducible repeat (first | refine blk_drewN ?_ _ | refine blk_drew ?_ | refine blk_alloc ?_ _)); refine blk_far ?_ NB145_153.out _; (with_reducible repeat (first | refine blk_drewN ?_ _ | refine blk_drew ?_ | refine blk_alloc ?_ _)); exact BK145.out))⟩; have n5_ : Aside0 (w58.heap[gb153]? = some (.cells #[.int .i64 t149, .int .i64 t150, .int .i64 t151] 33 (0, 0))) := ⟨(by rw [hw]; exact (by (with_reducible repeat (first | refine blk_drewN ?_ _ | refine blk_drew ?_ | refine blk_alloc ?_ _)); refine blk_put (cs := #[.int .i64 t149, .int .i64 t150, .int .i64 0]) ?_ 2 _ rfl; (with_reducible repeat (first | refine blk_drewN ?_ _ | refine blk_drew ?_ | refine blk_alloc ?_ _)); refine blk_put (cs := #[.int .i64 t149, .int .i64 0, .int .i64 0]) ?_ 1 _ rfl; (with_reducible repeat (first | refine blk_drewN ?_ _ | refine blk_drew ?_ | refine blk_alloc ?_ _)); refine blk_put (cs := #[.int .i64 0, .int .i64 0, .int .i64 0]) ?_ 0 _ rfl; (with_reducible repeat (first | refine blk_drewN ?_ _ | refine blk_drew ?_ | refine blk_alloc ?_ _)); exact BK153.out))⟩; have n6_ : Aside0 (Below w.heap.size w w58) := ⟨(by rw [hw]; exact (by repeat (first | (with_reducible first | exact HB.out | apply below_alloc | apply pw_below_drewN | apply below_drew1 | refine below_set ?_ GE132.out | refine below_set ?_ GE137.out | refine below_set ?_ GE145.out | refine below_set ?_ GE153.out) | exact HB.out)))⟩; clear hw; clear HO_9; clear HO_10; clear BK132; clear BK137; clear BK145; clear BK153; clear HB; have HO_9 := n0_; have HO_10 := n1_; have BK132 := n2_; have BK137 := n3_; have BK145 := n4_; have BK153 := n5_; have HB := n6_; clear n0_ n1_ n2_ n3_ n4_ n5_ n6_; have hcz59_0 : w58.cell? ⟨gb153, 0, none⟩ = some (.int .i64 t149) := (blk_cell BK153.out 0).trans rfl; have hcz59_1 : w58.cell? ⟨gb153, 1, none⟩ = some (.int .i64 t150) := (blk_cell BK153.out 1).trans rfl; have hcz59_2 : w58.cell? ⟨gb153, 2, none⟩ = some (.int .i64 t151) := (blk_cell BK153.out 2).trans rfl; have hfz59_0 := blk_frozen BK153.out 0; have hfz59_1 := blk_frozen BK153.out 1; have hfz59_2 := blk_frozen BK153.out 2; obtain ⟨Ao60, co60, eo60⟩ := Kd.R_slice HO_9.out; subst eo60) | ((with_reducible refine gate_callee (f := 31) rfl ?_); refine goesL_ (some 68) rfl rfl Try.func31 (by kernel_rfl) rfl #[.slice Ao60 x9_14.length co60, .agg #[.int .i64 t149, .int .i64 t150, .int .i64 t151]] rfl (by (try simp only [List.map_toArray, List.map_cons, List.map_nil]); first | done | rfl | (simp only [List.length_drop, List.length_take]; rfl)) ?_; (with_reducible refine (extent_push.calls (fun k_ => some k_ = (.slice Ao60 x9_14.length co60 : Value).ownBlock) (.slice Ao60 x9_14.length co60) x9_14 t149 t150 t151 t154 w _ ?side1 ?side2 A48.out).mono ?_); (case side1 => repeat (first | (with_reducible first | exact HB.out | apply below_alloc | apply pw_below_drewN | apply below_drew1 | refine below_set ?_ GE132.out | refine below_set ?_ GE137.out | refine below_set ?_ GE145.out | refine below_set ?_ GE153.out) | exact HB.out)); (case side2 => exact Kd.R_tight rfl HO_9.out); rintro e w61 ⟨v155, rfl, ho0, hb, hkp⟩; refine ⟨_, rfl, ?_⟩; have n0_ := Aside0.mk (Kd.R_mono (ok' := fun k_ => k_ ≠ gb132 ∧ k_ ≠ gb137 ∧ k_ ≠ gb145 ∧ k_ ≠ gb153 ∧ some k_ ≠ (v155 : Value).ownBlock) (Kd.R_keptB (HO_10.out) hkp (fun k_ hk_ hs_ => (hk_.1) hs_)) (fun k_ hk_ => ⟨hk_.1.2.1, hk_.1.2.2.1, hk_.1.2.2.2.1, hk_.1.2.2.2.2, fun e_ => Or.elim (ho0.1 k_ e_.symm) (fun hs_ => hk_.2.1 hs_) (fun hn_ => Nat.not_le.2 hk_.2.2 hn_)⟩)); have n1_ := Aside0.mk (blk_kept (kU BK132.out) hkp (fun hs_ => (fun e_ => (Kd.R_away HO_9.out (fun _ hk => hk.2.1)) e_) hs_)); have n2_ := Aside0.mk (blk_kept (kU BK137.out) hkp (fun hs_ => (fun e_ => (Kd.R_away HO_9.out (fun _ hk => hk.2.2.1)) e_) hs_)); have n3_ := Aside0.mk (blk_kept (kU BK145.out) hkp (fun hs_ => (fun e_ => (Kd.R_away HO_9.out (fun _ hk => hk.2.2.2.1)) e_) hs_)); have n4_ := Aside0.mk (blk_kept (kU BK153.out) hkp (fun hs_ => (fun e_ => (Kd.R_away HO_9.out (fun _ hk => hk.2.2.2.2)) e_) hs_)); have n5_ := Aside0.mk (Kd.R_mono (ok' := fun k_ => some k_ ≠ (u10 : Value).ownBlock ∧ k_ ≠ gb132 ∧ k_ ≠ gb137 ∧ k_ ≠ gb145 ∧ k_ ≠ gb153) ho0 (fun k_ hk_ => ⟨Or.elim hk_ (fun hs_ => fun e_ => (((HO_10.out).1 k_ e_.symm).1) hs_) (fun hn_ => (Kd.fresh' (Kd.R_lt (rU HO_10.out)) k_ hn_)), Or.elim hk_ (fun hs_ => fun e_ => (Kd.R_away HO_9.out (fun _ hk => hk.2.1)) (by rw [← e_]; exact hs_)) (fun hn_ => (Kd.freshB (g := gb132) (o := .cells #[.int .i64 ((rd_T33 l0 x30_2).f0), .int .i64 ((rd_T33 l0 x30_2).f1), .int .i64 ((rd_T33 l0 x30_2).f2)] 33 (0, 0)) (kU BK132.out) k_ hn_)), Or.elim hk_ (fun hs_ => fun e_ => (Kd.R_away HO_9.out (fun _ hk => hk.2.2.1)) (by rw [← e_]; exact hs_)) (fun hn_ => (Kd.freshB (g := gb137) (o := .cells #[.int .i64 t133, .int .i64 t134, .int .i64 t135] 33 (0, 0)) (kU BK137.out) k_ hn_)), Or.elim hk_ (fun hs_ => fun e_ => (Kd.R_away HO_9.out (fun _ hk => hk.2.2.2.1)) (by rw [← e_]; exact hs_)) (fun hn_ => (Kd.freshB (g := gb145) (o := .cells #[.int .i64 t141, .int .i64 t142, .int .i64 t143] 33 (0, 0)) (kU BK145.out) k_ hn_)), Or.elim hk_ (fun hs_ => fun e_ => (Kd.R_away HO_9.out (fun _ hk => hk.2.2.2.2)) (by rw [← e_]; exact hs_)) (fun hn_ => (Kd.freshB (g := gb153) (o := .cells #[.int .i64 t149, .int .i64 t150, .int .i64 t151] 33 (0, 0)) (kU BK153.out) k_ hn_))⟩)); have n6_ := Aside0.mk (hb); clear HO_10; clear BK132; clear BK137; clear BK145; clear BK153; clear HB; clear HO_9; have HO_10 := n0_; have BK132 := n1_; have BK137 := n2_; have BK145 := n3_; have BK153 := n4_; have HO156 := n5_; have HB := n6_; clear n0_ n1_ n2_ n3_ n4_ n5_ n6_; (try clear hb); (try clear hkp); (try clear ho0)))
              go_roundg kj29
              case measure => have := HJ3.out; have := HK2.out; have := HJ14.out; have := HJ29.out; omega
              case rel => exact ⟨(t154), (x10_29), (wrap64 (x30_2 + 1)), (by first | rfl | (simp; done) | (simp [*]; done)), H', ⟨by have := HJ3.out; have := HK2.out; have := HJ14.out; have := HJ29.out; omega⟩, ⟨by (with_reducible repeat (first | apply Kd.R_alloc | apply Kd.R_drewN | apply Kd.R_drew)); exact Kd.R_mono HO156.out (fun _ hk => hk.1)⟩, ⟨by (with_reducible repeat (first | apply Kd.R_alloc | apply Kd.R_drewN | apply Kd.R_drew)); exact Kd.R_mono HO_10.out (fun _ hk => hk.2.2.2.2)⟩, ⟨by repeat (first | (with_reducible first | exact HB.out | apply below_alloc | apply pw_below_drewN | apply below_drew1 | refine below_set ?_ GE132.out | refine below_set ?_ GE137.out | refine below_set ?_ GE145.out | refine below_set ?_ GE153.out) | exact HB.out)⟩⟩
             ·
              replace c47 := Bool.eq_false_iff.mpr c47
              subst c47
              have H1 : (extent_Cut.l0 kj29 a1 a2 x9_14 x10_29 l0 (l0.length : Int) (wrap64 (x30_2 + 1))) = some (r1, r2, r3) := by rw [if_neg (show ¬ (false = true) by decide)] at H; exact H
              clear H
              have H := H1
              clear H1
              have H' := Aside0.mk H
              clear H
              have hnb62 := NB132_137.out
              have hnc62 := NB137_132.out
              have hnb63 := NB132_145.out
              have hnc63 := NB145_132.out
              have hcz64_0 : wc.cell? ⟨gb132, 0, none⟩ = some (.int .i64 ((rd_T33 l0 x30_2).f0)) := (blk_cell BK132.out 0).trans rfl
              have hcz64_1 : wc.cell? ⟨gb132, 1, none⟩ = some (.int .i64 ((rd_T33 l0 x30_2).f1)) := (blk_cell BK132.out 1).trans rfl
              have hcz64_2 : wc.cell? ⟨gb132, 2, none⟩ = some (.int .i64 ((rd_T33 l0 x30_2).f2)) := (blk_cell BK132.out 2).trans rfl
              have hfz64_0 := blk_frozen BK132.out 0
              have hfz64_1 := blk_frozen BK132.out 1
              have hfz64_2 := blk_frozen BK132.out 2
              go_wp2_with (first | ((with_reducible refine gate_callee (f := 30) rfl ?_); refine goesL_ (some 62) rfl rfl Try.func30 (by kernel_rfl) rfl #[.agg #[.int .i64 ((rd_T33 l0 x30_2).f0), .int .i64 ((rd_T33 l0 x30_2).f1), .int .i64 ((rd_T33 l0 x30_2).f2)], .int .i64 (wrap64 (a1 + a2)), .int .i64 65536] rfl (by (try simp only [List.map_toArray, List.map_cons, List.map_nil]); first | done | rfl | (simp only [List.length_drop, List.length_take]; rfl)) ?_; (with_reducible refine (extent_part.calls ((rd_T33 l0 x30_2).f0) ((rd_T33 l0 x30_2).f1) ((rd_T33 l0 x30_2).f2) (wrap64 (a1 + a2)) 65536 t149 t150 t151 false _ A46.out).mono ?_); rintro e w65 ⟨rfl, hb⟩; refine ⟨_, rfl, ?_⟩; replace HO_9 := Aside0.mk (Kd.R_below (rU HO_9.out) hb); replace HO_10 := Aside0.mk (Kd.R_below (rU HO_10.out) hb); replace BK132 := Aside0.mk (blk_below (g := gb132) (o := .cells #[.int .i64 ((rd_T33 l0 x30_2).f0), .int .i64 ((rd_T33 l0 x30_2).f1), .int .i64 ((rd_T33 l0 x30_2).f2)] 33 (0, 0)) (kU BK132.out) hb); replace BK137 := Aside0.mk (blk_below (g := gb137) (o := .cells #[.int .i64 t133, .int .i64 t134, .int .i64 t135] 33 (0, 0)) (kU BK137.out) hb); replace BK145 := Aside0.mk (blk_below (g := gb145) (o := .cells #[.int .i64 t141, .int .i64 t142, .int .i64 t143] 33 (0, 0)) (kU BK145.out) hb); replace HB := Aside0.mk (below_step (by repeat (first | (with_reducible first | exact HB.out | apply below_alloc | apply pw_below_drewN | apply below_drew1 | refine below_set ?_ GE132.out | refine below_set ?_ GE137.out | refine below_set ?_ GE145.out) | exact HB.out)) hb); (try clear hb); (try clear hk)) | ((with_reducible refine gate_dst (N := 17) rfl ?_); refine box_event ?hg (N := 17) ?hd (cs := #[.int .i64 0, .int .i64 0, .int .i64 0]) (t := 33) ?hr ?_; (case hd => rfl); (case hg => rfl); (case hr => first | (go_simp; done) | (go_simp; rfl)); intro gb153 hg w66 hbox hb; replace HO_9 := Aside0.mk (Kd.R_below (Kd.R_elderB (rU HO_9.out) gb153 (Nat.le_of_eq hg.symm)) hb); replace HO_10 := Aside0.mk (Kd.R_below (Kd.R_elderB (rU HO_10.out) gb153 (Nat.le_of_eq hg.symm)) hb); have BK153 := Aside0.mk (hbox); have GW153 := Aside0.mk ((by rw [hg]; exact (below_size (by repeat (first | (with_reducible first | exact HB.out | apply below_alloc | apply pw_below_drewN | apply below_drew1 | refine below_set ?_ GE132.out | refine below_set ?_ GE137.out | refine below_set ?_ GE145.out) | exact HB.out))) : w.heap.size ≤ gb153)); have GE153 := Aside0.mk ((by rw [hg]; exact (below_size (by repeat (first | (with_reducible first | exact HB.out | apply below_alloc | apply pw_below_drewN | apply below_drew1 | refine below_set ?_ GE132.out | refine below_set ?_ GE137.out | refine below_set ?_ GE145.out) | exact HB.out))) : w.heap.size ≤ gb153)); replace HB := Aside0.mk (below_step (by repeat (first | (with_reducible first | exact HB.out | apply below_alloc | apply pw_below_drewN | apply below_drew1 | refine below_set ?_ GE132.out | refine below_set ?_ GE137.out | refine below_set ?_ GE145.out) | exact HB.out)) hb); have NB132_153 := Aside0.mk ((by rw [hg]; exact Nat.ne_of_lt (blk_lt (g := gb132) (o := .cells #[.int .i64 ((rd_T33 l0 x30_2).f0), .int .i64 ((rd_T33 l0 x30_2).f1), .int .i64 ((rd_T33 l0 x30_2).f2)] 33 (0, 0)) (kU BK132.out)) : gb132 ≠ gb153)); have NB153_132 := Aside0.mk ((by rw [hg]; exact Nat.ne_of_gt (blk_lt (g := gb132) (o := .cells #[.int .i64 ((rd_T33 l0 x30_2).f0), .int .i64 ((rd_T33 l0 x30_2).f1), .int .i64 ((rd_T33 l0 x30_2).f2)] 33 (0, 0)) (kU BK132.out)) : gb153 ≠ gb132)); replace BK132 := Aside0.mk (blk_below (g := gb132) (o := .cells #[.int .i64 ((rd_T33 l0 x30_2).f0), .int .i64 ((rd_T33 l0 x30_2).f1), .int .i64 ((rd_T33 l0 x30_2).f2)] 33 (0, 0)) (kU BK132.out) hb); have NB137_153 := Aside0.mk ((by rw [hg]; exact Nat.ne_of_lt (blk_lt (g := gb137) (o := .cells #[.int .i64 t133, .int .i64 t134, .int .i64 t135] 33 (0, 0)) (kU BK137.out)) : gb137 ≠ gb153)); have NB153_137 := Aside0.mk ((by rw [hg]; exact Nat.ne_of_gt (blk_lt (g := gb137) (o := .cells #[.int .i64 t133, .int .i64 t134, .int .i64 t135] 33 (0, 0)) (kU BK137.out)) : gb153 ≠ gb137)); replace BK137 := Aside0.mk (blk_below (g := gb137) (o := .cells #[.int .i64 t133, .int .i64 t134, .int .i64 t135] 33 (0, 0)) (kU BK137.out) hb); have NB145_153 := Aside0.mk ((by rw [hg]; exact Nat.ne_of_lt (blk_lt (g := gb145) (o := .cells #[.int .i64 t141, .int .i64 t142, .int .i64 t143] 33 (0, 0)) (kU BK145.out)) : gb145 ≠ gb153)); have NB153_145 := Aside0.mk ((by rw [hg]; exact Nat.ne_of_gt (blk_lt (g := gb145) (o := .cells #[.int .i64 t141, .int .i64 t142, .int .i64 t143] 33 (0, 0)) (kU BK145.out)) : gb153 ≠ gb145)); replace BK145 := Aside0.mk (blk_below (g := gb145) (o := .cells #[.int .i64 t141, .int .i64 t142, .int .i64 t143] 33 (0, 0)) (kU BK145.out) hb); clear hb hbox hg; have hnb67 := NB153_132.out; have hnc67 := NB132_153.out; have hnb68 := NB153_137.out; have hnc68 := NB137_153.out; have hnb69 := NB153_145.out; have hnc69 := NB145_153.out; have hcz70_0 : w66.cell? ⟨gb153, 0, none⟩ = some (.int .i64 0) := (blk_cell BK153.out 0).trans rfl; have hcz70_1 : w66.cell? ⟨gb153, 1, none⟩ = some (.int .i64 0) := (blk_cell BK153.out 1).trans rfl; have hcz70_2 : w66.cell? ⟨gb153, 2, none⟩ = some (.int .i64 0) := (blk_cell BK153.out 2).trans rfl; have hfz70_0 := blk_frozen BK153.out 0; have hfz70_1 := blk_frozen BK153.out 1; have hfz70_2 := blk_frozen BK153.out 2) | ((with_reducible refine gate_store (t := 33) (p := 17) rfl ?_); refine store_event (t := 33) (p := 17) (v := ?vo_w71) (w1 := (((w66.setCell ⟨gb153, 0, none⟩ (.int .i64 t149)).setCell ⟨gb153, 1, none⟩ (.int .i64 t150)).setCell ⟨gb153, 2, none⟩ (.int .i64 t151))) ?hg ?ho ?hn ?hr ?_; (case ho => rfl); (case hg => rfl); (case hn => rfl); (case hr => first | (go_simp; done) | (go_simp; rfl)); intro w71 hw; have n0_ : Aside0 (Kd.R k33 33 w71 w.heap.size (fun k_ => some k_ ≠ (u10 : Value).ownBlock ∧ k_ ≠ gb132 ∧ k_ ≠ gb137 ∧ k_ ≠ gb145 ∧ k_ ≠ gb153) u9 x9_14) := ⟨(by rw [hw]; exact (rU (Kd.R_mono (Kd.R_far (p := ⟨gb153, 2, none⟩) (Kd.R_far (p := ⟨gb153, 1, none⟩) (Kd.R_far (p := ⟨gb153, 0, none⟩) (Kd.R_mono HO_9.out (fun k_ hk => (⟨hk, hk.2⟩ : _ ∧ k_ ≠ gb153))) (fun _ hk => hk.2) (.int .i64 t149)) (fun _ hk => hk.2) (.int .i64 t150)) (fun _ hk => hk.2) (.int .i64 t151)) (fun _ hk => ⟨hk.1.1.1, ⟨hk.1.1.2.1, ⟨hk.1.1.2.2.1, ⟨hk.1.1.2.2.2, hk.1.2⟩⟩⟩⟩))))⟩; have n1_ : Aside0 (Kd.R k33 33 w71 w.heap.size (fun k_ => some k_ ≠ (u9 : Value).ownBlock ∧ k_ ≠ gb132 ∧ k_ ≠ gb137 ∧ k_ ≠ gb145 ∧ k_ ≠ gb153) u10 x10_29) := ⟨(by rw [hw]; exact (rU (Kd.R_mono (Kd.R_far (p := ⟨gb153, 2, none⟩) (Kd.R_far (p := ⟨gb153, 1, none⟩) (Kd.R_far (p := ⟨gb153, 0, none⟩) (Kd.R_mono HO_10.out (fun k_ hk => (⟨hk, hk.2⟩ : _ ∧ k_ ≠ gb153))) (fun _ hk => hk.2) (.int .i64 t149)) (fun _ hk => hk.2) (.int .i64 t150)) (fun _ hk => hk.2) (.int .i64 t151)) (fun _ hk => ⟨hk.1.1.1, ⟨hk.1.1.2.1, ⟨hk.1.1.2.2.1, ⟨hk.1.1.2.2.2, hk.1.2⟩⟩⟩⟩))))⟩; have n2_ : Aside0 (w71.heap[gb132]? = some (.cells #[.int .i64 ((rd_T33 l0 x30_2).f0), .int .i64 ((rd_T33 l0 x30_2).f1), .int .i64 ((rd_T33 l0 x30_2).f2)] 33 (0, 0))) := ⟨(by rw [hw]; exact (by (with_reducible repeat (first | refine blk_drewN ?_ _ | refine blk_drew ?_ | refine blk_alloc ?_ _)); refine blk_far ?_ NB132_153.out _; (with_reducible repeat (first | refine blk_drewN ?_ _ | refine blk_drew ?_ | refine blk_alloc ?_ _)); refine blk_far ?_ NB132_153.out _; (with_reducible repeat (first | refine blk_drewN ?_ _ | refine blk_drew ?_ | refine blk_alloc ?_ _)); refine blk_far ?_ NB132_153.out _; (with_reducible repeat (first | refine blk_drewN ?_ _ | refine blk_drew ?_ | refine blk_alloc ?_ _)); exact BK132.out))⟩; have n3_ : Aside0 (w71.heap[gb137]? = some (.cells #[.int .i64 t133, .int .i64 t134, .int .i64 t135] 33 (0, 0))) := ⟨(by rw [hw]; exact (by (with_reducible repeat (first | refine blk_drewN ?_ _ | refine blk_drew ?_ | refine blk_alloc ?_ _)); refine blk_far ?_ NB137_153.out _; (with_reducible repeat (first | refine blk_drewN ?_ _ | refine blk_drew ?_ | refine blk_alloc ?_ _)); refine blk_far ?_ NB137_153.out _; (with_reducible repeat (first | refine blk_drewN ?_ _ | refine blk_drew ?_ | refine blk_alloc ?_ _)); refine blk_far ?_ NB137_153.out _; (with_reducible repeat (first | refine blk_drewN ?_ _ | refine blk_drew ?_ | refine blk_alloc ?_ _)); exact BK137.out))⟩; have n4_ : Aside0 (w71.heap[gb145]? = some (.cells #[.int .i64 t141, .int .i64 t142, .int .i64 t143] 33 (0, 0))) := ⟨(by rw [hw]; exact (by (with_reducible repeat (first | refine blk_drewN ?_ _ | refine blk_drew ?_ | refine blk_alloc ?_ _)); refine blk_far ?_ NB145_153.out _; (with_reducible repeat (first | refine blk_drewN ?_ _ | refine blk_drew ?_ | refine blk_alloc ?_ _)); refine blk_far ?_ NB145_153.out _; (with_reducible repeat (first | refine blk_drewN ?_ _ | refine blk_drew ?_ | refine blk_alloc ?_ _)); refine blk_far ?_ NB145_153.out _; (with_reducible repeat (first | refine blk_drewN ?_ _ | refine blk_drew ?_ | refine blk_alloc ?_ _)); exact BK145.out))⟩; have n5_ : Aside0 (w71.heap[gb153]? = some (.cells #[.int .i64 t149, .int .i64 t150, .int .i64 t151] 33 (0, 0))) := ⟨(by rw [hw]; exact (by (with_reducible repeat (first | refine blk_drewN ?_ _ | refine blk_drew ?_ | refine blk_alloc ?_ _)); refine blk_put (cs := #[.int .i64 t149, .int .i64 t150, .int .i64 0]) ?_ 2 _ rfl; (with_reducible repeat (first | refine blk_drewN ?_ _ | refine blk_drew ?_ | refine blk_alloc ?_ _)); refine blk_put (cs := #[.int .i64 t149, .int .i64 0, .int .i64 0]) ?_ 1 _ rfl; (with_reducible repeat (first | refine blk_drewN ?_ _ | refine blk_drew ?_ | refine blk_alloc ?_ _)); refine blk_put (cs := #[.int .i64 0, .int .i64 0, .int .i64 0]) ?_ 0 _ rfl; (with_reducible repeat (first | refine blk_drewN ?_ _ | refine blk_drew ?_ | refine blk_alloc ?_ _)); exact BK153.out))⟩; have n6_ : Aside0 (Below w.heap.size w w71) := ⟨(by rw [hw]; exact (by repeat (first | (with_reducible first | exact HB.out | apply below_alloc | apply pw_below_drewN | apply below_drew1 | refine below_set ?_ GE132.out | refine below_set ?_ GE137.out | refine below_set ?_ GE145.out | refine below_set ?_ GE153.out) | exact HB.out)))⟩; clear hw; clear HO_9; clear HO_10; clear BK132; clear BK137; clear BK145; clear BK153; clear HB; have HO_9 := n0_; have HO_10 := n1_; have BK132 := n2_; have BK137 := n3_; have BK145 := n4_; have BK153 := n5_; have HB := n6_; clear n0_ n1_ n2_ n3_ n4_ n5_ n6_))
              go_roundg kj29
              case measure => have := HJ3.out; have := HK2.out; have := HJ14.out; have := HJ29.out; omega
              case rel => exact ⟨(x9_14), (x10_29), (wrap64 (x30_2 + 1)), (by first | rfl | (simp; done) | (simp [*]; done)), H', ⟨by have := HJ3.out; have := HK2.out; have := HJ14.out; have := HJ29.out; omega⟩, ⟨by (with_reducible repeat (first | apply Kd.R_alloc | apply Kd.R_drewN | apply Kd.R_drew)); exact Kd.R_mono HO_9.out (fun _ hk => hk.1)⟩, ⟨by (with_reducible repeat (first | apply Kd.R_alloc | apply Kd.R_drewN | apply Kd.R_drew)); exact Kd.R_mono HO_10.out (fun _ hk => hk.1)⟩, ⟨by repeat (first | (with_reducible first | exact HB.out | apply below_alloc | apply pw_below_drewN | apply below_drew1 | refine below_set ?_ GE132.out | refine below_set ?_ GE137.out | refine below_set ?_ GE145.out | refine below_set ?_ GE153.out) | exact HB.out)⟩⟩
        ·
         rw [if_neg c13] at H
         exact absurd H (by simp)
       ·
        rw [if_neg c12] at H
        exact absurd H (by simp)
      ·
       rw [if_neg c11] at H
       have c11b0 := decide_eq_false c11
       clear c11
       simp only [Option.some.injEq, Prod.mk.injEq] at H
       obtain ⟨rfl, rfl, rfl⟩ := H
       go_wp2
       go_ret3
       exact ⟨_, _, by first | rfl | (simp [errW_none, errW_some] <;> rfl) | (simp [*, errW_none, errW_some] <;> rfl), rU HO_9.out, rU HO_10.out, bU HB.out⟩

/-! ### tegularef32_Same: function 15 -/
def tegularef32_Same.l0 : Nat → List (S33) → List (S33) → Int → Option (Bool)
 | 0, _, _, _ => none
 | k + 1, x0, x1, x5 => if x5 < (x0.length : Int) then (if 0 ≤ x5 then (if x5 < (x1.length : Int) then (if (!(((rd_T33 x0 x5).f0) == ((rd_T33 x1 x5).f0)) || (!(((rd_T33 x0 x5).f1) == ((rd_T33 x1 x5).f1)) || (!(((rd_T33 x0 x5).f2) == ((rd_T33 x1 x5).f2))))) = true then (some false) else (tegularef32_Same.l0 k x0 x1 (wrap64 (x5 + 1)))) else (none)) else (none)) else (some true)
def tegularef32_Same.f (k : Nat) (l0 : List (S33)) (l1 : List (S33)) : Option (Bool) := if (l0.length : Int) = (l1.length : Int) then (tegularef32_Same.l0 k l0 l1 0) else (some false)
theorem tegularef32_Same.mono_l : ∀ k, (∀ y0 y1 y2, LeO (tegularef32_Same.l0 k y0 y1 y2) (tegularef32_Same.l0 (k + 1) y0 y1 y2))
 | 0 => fun _ _ _ r h => by simp [tegularef32_Same.l0] at h
 | k + 1 => by
  have ih0 := tegularef32_Same.mono_l k
  ·
   intro y0 y1 y2
   unfold tegularef32_Same.l0
   repeat' first
   | (with_reducible exact ih0 _ _ _)
   | (with_reducible exact LeO.refl _)
   | (with_reducible exact LeO.none _)
   | (with_reducible refine LeO.ite ?_ ?_)
   | (with_reducible refine LeO.bind ?_ (fun _ => ?_))
   | exact ih0 _ _ _
   | exact LeO.none _
   | refine LeO.ite ?_ ?_
   | refine LeO.bind ?_ (fun _ => ?_)
theorem tegularef32_Same.mono : ∀ a0 a1 k, LeO (tegularef32_Same.f k a0 a1) (tegularef32_Same.f (k + 1) a0 a1) := by
 intro a0 a1 k
 have ih0 := tegularef32_Same.mono_l k
 unfold tegularef32_Same.f
 repeat' first
   | (with_reducible exact ih0 _ _ _)
   | (with_reducible exact LeO.refl _)
   | (with_reducible exact LeO.none _)
   | (with_reducible refine LeO.ite ?_ ?_)
   | (with_reducible refine LeO.bind ?_ (fun _ => ?_))
   | exact ih0 _ _ _
   | exact LeO.none _
   | refine LeO.ite ?_ ?_
   | refine LeO.bind ?_ (fun _ => ?_)
set_option maxHeartbeats 8000000 in
set_option maxRecDepth 100000 in
theorem tegularef32_Same.calls (k : Nat) (A0 : Option Addr) (c0 : Nat) (l0 : List (S33)) (A1 : Option Addr) (c1 : Nat) (l1 : List (S33)) (r : Bool) (w : World) (hr0 : Kd.C k33 w A0 l0.length l0) (hc0 : l0.length ≤ c0) (hr1 : Kd.C k33 w A1 l1.length l1) (hc1 : l1.length ≤ c1) (h : tegularef32_Same.f k l0 l1 = some r) :
  Calls Try.prog 15 #[.slice A0 l0.length c0, .slice A1 l1.length c1] w fun e w' => e = .returned (.bool r) ∧ Drawn0 w w' := by
 have hu33 := Try.underlying33
 have HR0 := Aside0.mk hr0
 have HC0 := Aside0.mk hc0
 clear hr0 hc0
 have HR1 := Aside0.mk hr1
 have HC1 := Aside0.mk hc1
 clear hr1 hc1
 have H : (if (l0.length : Int) = (l1.length : Int) then (tegularef32_Same.l0 k l0 l1 0) else (some false)) = some r := h
 clear h
 by_cases c3 : (l0.length : Int) = (l1.length : Int)
 ·
  rw [if_pos c3] at H
  have c3b0 : ((l0.length : Int) == (l1.length : Int)) = true := beq_iff_eq.mpr c3
  have c3b1 : ((l0.length : Int) != (l1.length : Int)) = false := bne_eq_false_iff_eq.mpr c3
  have c3b2 : (l0.length == l1.length) = true := by first | simpa using c3 | (simp at c3 ⊢; omega)
  clear c3
  have H' := Aside0.mk H
  clear H
  go_enter Try.func15, Try.ntmps15
  go_wp2
  repeat (go_quiet (fail); try go_wp2)
  go_loopg [5] k (fun kq v5 w' => ∃ (x5_1 : Int), v5 = .int .i64 x5_1 ∧ Aside0 (tegularef32_Same.l0 kq l0 l1 x5_1 = some r) ∧ Aside0 (kq ≤ k) ∧ Drawn0 w w')
  case atStart => exact ⟨(0), (by first | rfl | (simp; done) | (simp [*]; done)), H', ⟨Nat.le_refl _⟩, by repeat (first | exact Drawn0.refl _ | apply Drawn0.step)⟩
  case round =>
   clear H'
   try clear c1
   try clear p2
   try clear c3
   try clear c3b0
   try clear c3b1
   try clear c3b2
   obtain ⟨x5_1, rfl, HA, HK1, ⟨m1, rfl⟩⟩ := hrel
   cases gk with
   | zero => exact absurd HA.out (by simp [tegularef32_Same.l0])
   | succ k1 =>
    have H := HA.out
    clear HA
    simp only [tegularef32_Same.l0] at H
    by_cases c4 : x5_1 < (l0.length : Int)
    ·
     rw [if_pos c4] at H
     have c4b0 := decide_eq_true c4
     clear c4
     by_cases c5 : 0 ≤ x5_1
     ·
      rw [if_pos c5] at H
      have c5b0 := decide_eq_true c5
      clear c5
      by_cases c6 : x5_1 < (l1.length : Int)
      ·
       rw [if_pos c6] at H
       have c6b0 := decide_eq_true c6
       clear c6
       by_cases c7 : (!(((rd_T33 l0 x5_1).f0) == ((rd_T33 l1 x5_1).f0)) || (!(((rd_T33 l0 x5_1).f1) == ((rd_T33 l1 x5_1).f1)) || (!(((rd_T33 l0 x5_1).f2) == ((rd_T33 l1 x5_1).f2))))) = true
       ·
        rw [if_pos c7] at H
        have c7b0 : (!(((rd_T33 l0 x5_1).f0) == ((rd_T33 l1 x5_1).f0)) || (!(((rd_T33 l0 x5_1).f1) == ((rd_T33 l1 x5_1).f1)) || (!(((rd_T33 l0 x5_1).f2) == ((rd_T33 l1 x5_1).f2))))) = true := c7
        clear c7
        obtain rfl := Option.some.inj H
        have p157 : 0 ≤ (x5_1 : Int) := of_decide_eq_true (by first | (with_reducible assumption) | assumption)
        have q157 : x5_1 < (l0.length : Int) := of_decide_eq_true (by first | (with_reducible assumption) | assumption)
        obtain ⟨ad157, e157, hx157_0, hx157_1, hx157_2⟩ := at_T33 HR0.out x5_1 p157 q157
        cases e157
        replace p157 := eq_true p157
        replace q157 := eq_true q157
        have p158 : 0 ≤ (x5_1 : Int) := of_decide_eq_true (by first | (with_reducible assumption) | assumption)
        have q158 : x5_1 < (l1.length : Int) := of_decide_eq_true (by first | (with_reducible assumption) | assumption)
        obtain ⟨ad158, e158, hx158_0, hx158_1, hx158_2⟩ := at_T33 HR1.out x5_1 p158 q158
        cases e158
        replace p158 := eq_true p158
        replace q158 := eq_true q158
        go_wp2
        repeat (go_quiet (fail); try go_wp2)
        go_ret
        exact ⟨by first | rfl | (simp; done) | (simp [*]; done), by repeat (first | exact Drawn0.refl _ | apply Drawn0.step)⟩
       ·
        rw [if_neg c7] at H
        have c7b0 : (!(((rd_T33 l0 x5_1).f0) == ((rd_T33 l1 x5_1).f0)) || (!(((rd_T33 l0 x5_1).f1) == ((rd_T33 l1 x5_1).f1)) || (!(((rd_T33 l0 x5_1).f2) == ((rd_T33 l1 x5_1).f2))))) = false := by simpa using c7
        clear c7
        have H' := Aside0.mk H
        clear H
        have p157 : 0 ≤ (x5_1 : Int) := of_decide_eq_true (by first | (with_reducible assumption) | assumption)
        have q157 : x5_1 < (l0.length : Int) := of_decide_eq_true (by first | (with_reducible assumption) | assumption)
        obtain ⟨ad157, e157, hx157_0, hx157_1, hx157_2⟩ := at_T33 HR0.out x5_1 p157 q157
        cases e157
        replace p157 := eq_true p157
        replace q157 := eq_true q157
        have p158 : 0 ≤ (x5_1 : Int) := of_decide_eq_true (by first | (with_reducible assumption) | assumption)
        have q158 : x5_1 < (l1.length : Int) := of_decide_eq_true (by first | (with_reducible assumption) | assumption)
        obtain ⟨ad158, e158, hx158_0, hx158_1, hx158_2⟩ := at_T33 HR1.out x5_1 p158 q158
        cases e158
        replace p158 := eq_true p158
        replace q158 := eq_true q158
        go_wp2
        repeat (go_quiet (fail); try go_wp2)
        go_roundg k1
        case measure => have := HK1.out; omega
        case rel => exact ⟨(wrap64 (x5_1 + 1)), (by first | rfl | (simp; done) | (simp [*]; done)), H', ⟨by have := HK1.out; omega⟩, by repeat (first | exact Drawn0.refl _ | apply Drawn0.step)⟩
      ·
       rw [if_neg c6] at H
       exact absurd H (by simp)
     ·
      rw [if_neg c5] at H
      exact absurd H (by simp)
    ·
     rw [if_neg c4] at H
     have c4b0 := decide_eq_false c4
     clear c4
     obtain rfl := Option.some.inj H
     go_wp2
     repeat (go_quiet (fail); try go_wp2)
     go_ret
     exact ⟨by first | rfl | (simp; done) | (simp [*]; done), by repeat (first | exact Drawn0.refl _ | apply Drawn0.step)⟩
 ·
  rw [if_neg c3] at H
  have c3b0 : ((l0.length : Int) == (l1.length : Int)) = false := beq_eq_false_iff_ne.mpr c3
  have c3b1 : ((l0.length : Int) != (l1.length : Int)) = true := bne_iff_ne.mpr c3
  have c3b2 : (l0.length == l1.length) = false := by first | simpa using c3 | (simp at c3 ⊢; omega)
  obtain rfl := Option.some.inj H
  go_enter Try.func15, Try.ntmps15
  go_wp2
  repeat (go_quiet (fail); try go_wp2)
  go_ret
  exact ⟨by first | rfl | (simp; done) | (simp [*]; done), by repeat (first | exact Drawn0.refl _ | apply Drawn0.step)⟩

/-! ### extent_Join: function 17 -/
def extent_Join.l0 : Nat → List (S33) → List (S33) → Int → Int → Option ((List (S33)) × Int)
 | 0, _, _, _, _ => none
 | k + 1, x4, x10, x11, x12 => if x12 < x11 then (if 0 ≤ x12 then (if x12 < (x10.length : Int) then ((extent_push.f x4 ((rd_T33 x10 x12).f0) ((rd_T33 x10 x12).f1) ((rd_T33 x10 x12).f2)).bind fun t162 => (extent_Join.l0 k t162 x10 x11 (wrap64 (x12 + 1)))) else (none)) else (none)) else (some (x4, 0))
def extent_Join.f (k : Nat) (l0 : List (S33)) : Option ((List (S33)) × Int) := (extent_Valid.f k l0).bind fun t159 => (if t159 = true then (extent_Join.l0 k ([] : List (S33)) l0 (l0.length : Int) 0) else (some (([] : List (S33)), 1)))
theorem extent_Join.mono_l : ∀ k, (∀ y0 y1 y2 y3, LeO (extent_Join.l0 k y0 y1 y2 y3) (extent_Join.l0 (k + 1) y0 y1 y2 y3))
 | 0 => fun _ _ _ _ r h => by simp [extent_Join.l0] at h
 | k + 1 => by
  have ih0 := extent_Join.mono_l k
  ·
   intro y0 y1 y2 y3
   unfold extent_Join.l0
   repeat' first
   | (with_reducible exact ih0 _ _ _ _)
   | (with_reducible exact extent_Valid.mono _ _)
   | (with_reducible exact LeO.refl _)
   | (with_reducible exact LeO.none _)
   | (with_reducible refine LeO.ite ?_ ?_)
   | (with_reducible refine LeO.bind ?_ (fun _ => ?_))
   | exact ih0 _ _ _ _
   | exact extent_Valid.mono _ _
   | exact LeO.none _
   | refine LeO.ite ?_ ?_
   | refine LeO.bind ?_ (fun _ => ?_)
theorem extent_Join.mono : ∀ a0 k, LeO (extent_Join.f k a0) (extent_Join.f (k + 1) a0) := by
 intro a0 k
 have ih0 := extent_Join.mono_l k
 unfold extent_Join.f
 repeat' first
   | (with_reducible exact ih0 _ _ _ _)
   | (with_reducible exact extent_Valid.mono _ _)
   | (with_reducible exact LeO.refl _)
   | (with_reducible exact LeO.none _)
   | (with_reducible refine LeO.ite ?_ ?_)
   | (with_reducible refine LeO.bind ?_ (fun _ => ?_))
   | exact ih0 _ _ _ _
   | exact extent_Valid.mono _ _
   | exact LeO.none _
   | refine LeO.ite ?_ ?_
   | refine LeO.bind ?_ (fun _ => ?_)
set_option maxHeartbeats 8000000 in
set_option maxRecDepth 100000 in
theorem extent_Join.calls (k : Nat) (A0 : Option Addr) (c0 : Nat) (l0 : List (S33)) (r1 : List (S33)) (r2 : Int) (w : World) (hr0 : Kd.C k33 w A0 l0.length l0) (hc0 : l0.length ≤ c0) (h : extent_Join.f k l0 = some (r1, r2)) :
  Calls Try.prog 17 #[.slice A0 l0.length c0] w fun e w' => ∃ v0_ : Value, e = .returned (.tuple #[v0_, .int .i64 r2]) ∧ Kd.R k33 33 w' w.heap.size (fun _ => True) v0_ r1 ∧ Below w.heap.size w w' := by
 have hu33 := Try.underlying33
 have HR0 := Aside0.mk hr0
 have HC0 := Aside0.mk hc0
 clear hr0 hc0
 have HB := Aside0.mk (Below.refl w.heap.size w)
 have H : ((extent_Valid.f k l0).bind fun t159 => (if t159 = true then (extent_Join.l0 k ([] : List (S33)) l0 (l0.length : Int) 0) else (some (([] : List (S33)), 1)))) = some (r1, r2) := h
 clear h
 replace H := Option.bind_eq_some_iff.mp H
 obtain ⟨t159, A20, H⟩ := H
 replace H : (if t159 = true then (extent_Join.l0 k ([] : List (S33)) l0 (l0.length : Int) 0) else (some (([] : List (S33)), 1))) = some (r1, r2) := H
 have A2 := Aside0.mk A20
 clear A20
 by_cases c3 : t159 = true
 ·
  subst c3
  have H1 : (extent_Join.l0 k ([] : List (S33)) l0 (l0.length : Int) 0) = some (r1, r2) := by rw [if_pos rfl] at H; exact H
  clear H
  have H := H1
  clear H1
  have H' := Aside0.mk H
  clear H
  go_enter Try.func17, Try.ntmps17
  go_wp2_with (first | ((with_reducible refine gate_callee (f := 19) rfl ?_); refine goesL_ (some 8) rfl rfl Try.func19 (by kernel_rfl) rfl #[.slice A0 l0.length c0] rfl (by (try simp only [List.map_toArray, List.map_cons, List.map_nil]); first | done | rfl | (simp only [List.length_drop, List.length_take]; rfl)) ?_; (with_reducible refine (extent_Valid.calls k _ _ l0 true _ ?side1 ?side2 A2.out).mono ?_); (case side1 => repeat (first | exact HR0.out | (with_reducible refine Kd.C_alloc ?_ _) | (with_reducible refine Kd.C_drewN ?_ _) | (with_reducible refine Kd.C_drew ?_))); (case side2 => exact HC0.out); rintro e w4 ⟨rfl, hb⟩; refine ⟨_, rfl, ?_⟩; replace HB := Aside0.mk (below_step (bU HB.out) hb); (try clear hb)))
  go_loopg [4, 12] k (fun kq v4 v12 w' => ∃ (x4_1 : List (S33)) (x12_1 : Int), v12 = .int .i64 x12_1 ∧ Aside0 (extent_Join.l0 kq x4_1 l0 (l0.length : Int) x12_1 = some (r1, r2)) ∧ Aside0 (kq ≤ k) ∧ Aside0 (Kd.R k33 33 w' w.heap.size (fun _ => True) v4 x4_1) ∧ Aside0 (Below w.heap.size w w'))
  case atStart => exact ⟨(([] : List (S33))), (0), (by first | rfl | (simp; done) | (simp [*]; done)), H', ⟨Nat.le_refl _⟩, ⟨by first | exact Kd.R_nil _ _ _ _ _ | exact Kd.N_nil _ _ _ _ _ | exact Kd.V_nil _ _ _ _ _ | exact Kd.Q_nil _ _ _ _ _ | exact Kd.S_nil _ _ _ _ _⟩, ⟨bU HB.out⟩⟩
  case round =>
   clear H'
   try clear c1
   try clear p2
   try clear c3
   obtain ⟨x4_1, x12_1, rfl, HA, HK1, HO_4, HB⟩ := hrel
   cases gk with
   | zero => exact absurd HA.out (by simp [extent_Join.l0])
   | succ k1 =>
    have H := HA.out
    clear HA
    simp only [extent_Join.l0] at H
    by_cases c5 : x12_1 < (l0.length : Int)
    ·
     rw [if_pos c5] at H
     have c5b0 := decide_eq_true c5
     clear c5
     by_cases c6 : 0 ≤ x12_1
     ·
      rw [if_pos c6] at H
      have c6b0 := decide_eq_true c6
      clear c6
      by_cases c7 : x12_1 < (l0.length : Int)
      ·
       rw [if_pos c7] at H
       have c7b0 := decide_eq_true c7
       clear c7
       replace H := Option.bind_eq_some_iff.mp H
       obtain ⟨t162, A80, H⟩ := H
       replace H : (extent_Join.l0 k1 t162 l0 (l0.length : Int) (wrap64 (x12_1 + 1))) = some (r1, r2) := H
       have A8 := Aside0.mk A80
       clear A80
       have H' := Aside0.mk H
       clear H
       have p160 : 0 ≤ (x12_1 : Int) := of_decide_eq_true (by first | (with_reducible assumption) | assumption)
       have q160 : x12_1 < (l0.length : Int) := of_decide_eq_true (by first | (with_reducible assumption) | assumption)
       obtain ⟨ad160, e160, hx160_0, hx160_1, hx160_2⟩ := at_T33 HR0.out x12_1 p160 q160
       cases e160
       replace hx160_0 := (HB.out.cell (World.block_lt_of_cell? w _ hx160_0)).trans hx160_0
       replace hx160_1 := (HB.out.cell (World.block_lt_of_cell? w _ hx160_1)).trans hx160_1
       replace hx160_2 := (HB.out.cell (World.block_lt_of_cell? w _ hx160_2)).trans hx160_2
       replace p160 := eq_true p160
       replace q160 := eq_true q160
       go_wp2_with (first | ((with_reducible refine gate_dst (N := 6) rfl ?_); refine box_event ?hg (N := 6) ?hd (cs := #[.int .i64 0, .int .i64 0, .int .i64 0]) (t := 33) ?hr ?_; (case hd => rfl); (case hg => rfl); (case hr => first | (go_simp; done) | (go_simp; rfl)); intro gb161 hg w9 hbox hb; replace HO_4 := Aside0.mk (Kd.R_below (Kd.R_elderB (rU HO_4.out) gb161 (Nat.le_of_eq hg.symm)) hb); have BK161 := Aside0.mk (hbox); have GW161 := Aside0.mk ((by rw [hg]; exact (below_size (bU HB.out)) : w.heap.size ≤ gb161)); have GE161 := Aside0.mk ((by rw [hg]; exact (below_size (bU HB.out)) : w.heap.size ≤ gb161)); replace HB := Aside0.mk (below_step (bU HB.out) hb); clear hb hbox hg; have hcz10_0 : w9.cell? ⟨gb161, 0, none⟩ = some (.int .i64 0) := (blk_cell BK161.out 0).trans rfl; have hcz10_1 : w9.cell? ⟨gb161, 1, none⟩ = some (.int .i64 0) := (blk_cell BK161.out 1).trans rfl; have hcz10_2 : w9.cell? ⟨gb161, 2, none⟩ = some (.int .i64 0) := (blk_cell BK161.out 2).trans rfl; have hfz10_0 := blk_frozen BK161.out 0; have hfz10_1 := blk_frozen BK161.out 1; have hfz10_2 := blk_frozen BK161.out 2) | ((with_reducible refine gate_store (t := 33) (p := 6) rfl ?_); refine store_event (t := 33) (p := 6) (v := ?vo_w11) (w1 := (((w9.setCell ⟨gb161, 0, none⟩ (.int .i64 ((rd_T33 l0 x12_1).f0))).setCell ⟨gb161, 1, none⟩ (.int .i64 ((rd_T33 l0 x12_1).f1))).setCell ⟨gb161, 2, none⟩ (.int .i64 ((rd_T33 l0 x12_1).f2)))) ?hg ?ho ?hn ?hr ?_; (case ho => rfl); (case hg => rfl); (case hn => rfl); (case hr => first | (go_simp; done) | (go_simp; rfl)); intro w11 hw; have n0_ : Aside0 (Kd.R k33 33 w11 w.heap.size (fun k_ => k_ ≠ gb161) u4 x4_1) := ⟨(by rw [hw]; exact (rU (Kd.R_mono (Kd.R_far (p := ⟨gb161, 2, none⟩) (Kd.R_far (p := ⟨gb161, 1, none⟩) (Kd.R_far (p := ⟨gb161, 0, none⟩) (Kd.R_mono HO_4.out (fun k_ hk => (⟨hk, hk.2⟩ : _ ∧ k_ ≠ gb161))) (fun _ hk => hk.2) (.int .i64 ((rd_T33 l0 x12_1).f0))) (fun _ hk => hk.2) (.int .i64 ((rd_T33 l0 x12_1).f1))) (fun _ hk => hk.2) (.int .i64 ((rd_T33 l0 x12_1).f2))) (fun _ hk => hk.1.2))))⟩; have n1_ : Aside0 (w11.heap[gb161]? = some (.cells #[.int .i64 ((rd_T33 l0 x12_1).f0), .int .i64 ((rd_T33 l0 x12_1).f1), .int .i64 ((rd_T33 l0 x12_1).f2)] 33 (0, 0))) := ⟨(by rw [hw]; exact (by (with_reducible repeat (first | refine blk_drewN ?_ _ | refine blk_drew ?_ | refine blk_alloc ?_ _)); refine blk_put (cs := #[.int .i64 ((rd_T33 l0 x12_1).f0), .int .i64 ((rd_T33 l0 x12_1).f1), .int .i64 0]) ?_ 2 _ rfl; (with_reducible repeat (first | refine blk_drewN ?_ _ | refine blk_drew ?_ | refine blk_alloc ?_ _)); refine blk_put (cs := #[.int .i64 ((rd_T33 l0 x12_1).f0), .int .i64 0, .int .i64 0]) ?_ 1 _ rfl; (with_reducible repeat (first | refine blk_drewN ?_ _ | refine blk_drew ?_ | refine blk_alloc ?_ _)); refine blk_put (cs := #[.int .i64 0, .int .i64 0, .int .i64 0]) ?_ 0 _ rfl; (with_reducible repeat (first | refine blk_drewN ?_ _ | refine blk_drew ?_ | refine blk_alloc ?_ _)); exact BK161.out))⟩; have n2_ : Aside0 (Below w.heap.size w w11) := ⟨(by rw [hw]; exact (by repeat (first | (with_reducible first | exact HB.out | apply below_alloc | apply pw_below_drewN | apply below_drew1 | refine below_set ?_ GE161.out) | exact HB.out)))⟩; clear hw; clear HO_4; clear BK161; clear HB; have HO_4 := n0_; have BK161 := n1_; have HB := n2_; clear n0_ n1_ n2_; have hcz12_0 : w11.cell? ⟨gb161, 0, none⟩ = some (.int .i64 ((rd_T33 l0 x12_1).f0)) := (blk_cell BK161.out 0).trans rfl; have hcz12_1 : w11.cell? ⟨gb161, 1, none⟩ = some (.int .i64 ((rd_T33 l0 x12_1).f1)) := (blk_cell BK161.out 1).trans rfl; have hcz12_2 : w11.cell? ⟨gb161, 2, none⟩ = some (.int .i64 ((rd_T33 l0 x12_1).f2)) := (blk_cell BK161.out 2).trans rfl; have hfz12_0 := blk_frozen BK161.out 0; have hfz12_1 := blk_frozen BK161.out 1; have hfz12_2 := blk_frozen BK161.out 2; obtain ⟨Ao13, co13, eo13⟩ := Kd.R_slice HO_4.out; subst eo13) | ((with_reducible refine gate_callee (f := 31) rfl ?_); refine goesL_ (some 18) rfl rfl Try.func31 (by kernel_rfl) rfl #[.slice Ao13 x4_1.length co13, .agg #[.int .i64 ((rd_T33 l0 x12_1).f0), .int .i64 ((rd_T33 l0 x12_1).f1), .int .i64 ((rd_T33 l0 x12_1).f2)]] rfl (by (try simp only [List.map_toArray, List.map_cons, List.map_nil]); first | done | rfl | (simp only [List.length_drop, List.length_take]; rfl)) ?_; (with_reducible refine (extent_push.calls (fun k_ => some k_ = (.slice Ao13 x4_1.length co13 : Value).ownBlock) (.slice Ao13 x4_1.length co13) x4_1 ((rd_T33 l0 x12_1).f0) ((rd_T33 l0 x12_1).f1) ((rd_T33 l0 x12_1).f2) t162 w _ ?side1 ?side2 A8.out).mono ?_); (case side1 => repeat (first | (with_reducible first | exact HB.out | apply below_alloc | apply pw_below_drewN | apply below_drew1 | refine below_set ?_ GE161.out) | exact HB.out)); (case side2 => exact Kd.R_tight rfl HO_4.out); rintro e w14 ⟨v163, rfl, ho0, hb, hkp⟩; refine ⟨_, rfl, ?_⟩; have n0_ := Aside0.mk (blk_kept (kU BK161.out) hkp (fun hs_ => (fun e_ => (Kd.R_away HO_4.out (fun _ hk => hk)) e_) hs_)); have n1_ := Aside0.mk (Kd.R_mono (ok' := fun k_ => k_ ≠ gb161) ho0 (fun k_ hk_ => Or.elim hk_ (fun hs_ => fun e_ => (Kd.R_away HO_4.out (fun _ hk => hk)) (by rw [← e_]; exact hs_)) (fun hn_ => (Kd.freshB (g := gb161) (o := .cells #[.int .i64 ((rd_T33 l0 x12_1).f0), .int .i64 ((rd_T33 l0 x12_1).f1), .int .i64 ((rd_T33 l0 x12_1).f2)] 33 (0, 0)) (kU BK161.out) k_ hn_)))); have n2_ := Aside0.mk (hb); clear BK161; clear HB; clear HO_4; have BK161 := n0_; have HO164 := n1_; have HB := n2_; clear n0_ n1_ n2_; (try clear hb); (try clear hkp); (try clear ho0)))
       go_roundg k1
       case measure => have := HK1.out; omega
       case rel => exact ⟨(t162), (wrap64 (x12_1 + 1)), (by first | rfl | (simp; done) | (simp [*]; done)), H', ⟨by have := HK1.out; omega⟩, ⟨by (with_reducible repeat (first | apply Kd.R_alloc | apply Kd.R_drewN | apply Kd.R_drew)); exact Kd.R_mono HO164.out (fun _ hk => trivial)⟩, ⟨by repeat (first | (with_reducible first | exact HB.out | apply below_alloc | apply pw_below_drewN | apply below_drew1 | refine below_set ?_ GE161.out) | exact HB.out)⟩⟩
      ·
       rw [if_neg c7] at H
       exact absurd H (by simp)
     ·
      rw [if_neg c6] at H
      exact absurd H (by simp)
    ·
     rw [if_neg c5] at H
     have c5b0 := decide_eq_false c5
     clear c5
     simp only [Option.some.injEq, Prod.mk.injEq] at H
     obtain ⟨rfl, rfl⟩ := H
     go_wp2
     go_ret2
     exact ⟨_, by first | rfl | (simp [errW_none, errW_some] <;> rfl) | (simp [*, errW_none, errW_some] <;> rfl), rU HO_4.out, bU HB.out⟩
 ·
  replace c3 := Bool.eq_false_iff.mpr c3
  subst c3
  have H1 : (some (([] : List (S33)), 1)) = some (r1, r2) := by rw [if_neg (show ¬ (false = true) by decide)] at H; exact H
  clear H
  have H := H1
  clear H1
  simp only [Option.some.injEq, Prod.mk.injEq] at H
  obtain ⟨rfl, rfl⟩ := H
  go_enter Try.func17, Try.ntmps17
  go_wp2_with (first | ((with_reducible refine gate_callee (f := 19) rfl ?_); refine goesL_ (some 8) rfl rfl Try.func19 (by kernel_rfl) rfl #[.slice A0 l0.length c0] rfl (by (try simp only [List.map_toArray, List.map_cons, List.map_nil]); first | done | rfl | (simp only [List.length_drop, List.length_take]; rfl)) ?_; (with_reducible refine (extent_Valid.calls k _ _ l0 false _ ?side1 ?side2 A2.out).mono ?_); (case side1 => repeat (first | exact HR0.out | (with_reducible refine Kd.C_alloc ?_ _) | (with_reducible refine Kd.C_drewN ?_ _) | (with_reducible refine Kd.C_drew ?_))); (case side2 => exact HC0.out); rintro e w15 ⟨rfl, hb⟩; refine ⟨_, rfl, ?_⟩; replace HB := Aside0.mk (below_step (bU HB.out) hb); (try clear hb)))
  go_ret2
  exact ⟨_, by first | rfl | (simp [errW_none, errW_some] <;> rfl) | (simp [*, errW_none, errW_some] <;> rfl), by first | exact Kd.R_nil _ _ _ _ _ | exact Kd.N_nil _ _ _ _ _ | exact Kd.V_nil _ _ _ _ _ | exact Kd.Q_nil _ _ _ _ _ | exact Kd.S_nil _ _ _ _ _, bU HB.out⟩

end Go.Proofs.Ytcgihjpnemnkeaa.PExtentRuns
