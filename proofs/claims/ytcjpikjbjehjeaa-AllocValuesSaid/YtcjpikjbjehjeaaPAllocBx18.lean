-- Written for this claim by a program of this session (wip/), out of the translation's own print: Lean checks it
import Derived.Test.YtcjpikjbjehjeaaPAllocBx0
import Derived.Test.YtcjpikjbjehjeaaWRepsOne
import Derived.Test.YtcjpikjbjehjeaaPAllocBx2
import Derived.Test.YtcjpikjbjehjeaaPAllocBx4
import Derived.Test.YtcjpikjbjehjeaaPAllocBx5
import Derived.Test.YtcjpikjbjehjeaaPAllocBx16
import Derived.Test.YtcjpikjbjehjeaaPAllocBx17
namespace Go.Proofs.Ytcjpikjbjehjeaa.PAllocB
open Go.RowKit Go.Proofs.YtcjpikjbjehjeaaW.PrintWords Go.Proofs.YtcjpikjbjehjeaaW.PrintLast Go.Proofs.YtcjpikjbjehjeaaW.PrintMore
attribute [local go_sem] max2_int min2_int max_two min_two max_three min_three max_four min_four   -- for this text's walks alone
set_option linter.unusedVariables false
set_option linter.unusedSimpArgs false

/-! ### alloc_Map_Give: function 25 -/
def alloc_Map_Give.f (k : Nat) (a0_0 : Int) (l0_1 : List (S53)) (l1 : List (S53)) : Option (Int × (List (S53)) × Int) := (alloc_Map_permitted.f k a0_0 l0_1 l1).bind fun bt496 => (if bt496.2 = true then ((api_Extent_44.f k (([l0_1, bt496.1] : List (List (S53))))).bind fun t503 => ((extent_Runs.f k t503).bind fun t506 => ((alloc_size.f k t506).bind fun t509 => ((alloc_size.f k l0_1).bind fun t510 => ((alloc_size.f k bt496.1).bind fun t511 => (if t509 = (wrap64 (t510 + t511)) then (some (a0_0, t506, 0)) else (some (0, ([] : List (S53)), 8)))))))) else (some (0, ([] : List (S53)), 2)))
theorem alloc_Map_Give.mono : ∀ a0 a1 a2 k, LeO (alloc_Map_Give.f k a0 a1 a2) (alloc_Map_Give.f (k + 1) a0 a1 a2) := by
 intro a0 a1 a2 k
 unfold alloc_Map_Give.f
 repeat' first
   | (with_reducible exact alloc_Map_permitted.mono _ _ _ _)
   | (with_reducible exact alloc_size.mono _ _)
   | (with_reducible exact api_Extent_44.mono _ _)
   | (with_reducible exact extent_Runs.mono _ _)
   | (with_reducible exact LeO.refl _)
   | (with_reducible exact LeO.none _)
   | (with_reducible refine LeO.ite ?_ ?_)
   | (with_reducible refine LeO.bind ?_ (fun _ => ?_))
   | exact alloc_Map_permitted.mono _ _ _ _
   | exact alloc_size.mono _ _
   | exact api_Extent_44.mono _ _
   | exact extent_Runs.mono _ _
   | exact LeO.none _
   | refine LeO.ite ?_ ?_
   | refine LeO.bind ?_ (fun _ => ?_)
def alloc_Map_Give.T5 : Bool × List (List Nat × List Nat) := (true, [([], []), ([0], [0]), ([], []), ([2], [2]), ([3, 1], [3]), ([], []), ([5, 4], [5]), ([4, 6], [4, 6]), ([1, 7], [1, 7])])
def alloc_Map_Give.B5 : List Nat := [0, 1, 0, 4, 15, 0, 63, 127, 255]
theorem alloc_Map_Give.tab5 : rtab .any (opsOf Try.f25 5) = alloc_Map_Give.T5 := by kernel_rfl
theorem alloc_Map_Give.bits5 : waitsOk alloc_Map_Give.T5.2 alloc_Map_Give.B5 = true := by kernel_rfl
set_option maxHeartbeats 8000000 in
set_option maxRecDepth 100000 in
theorem alloc_Map_Give.calls (k : Nat) (a0_0 : Int) (P0_1_ : Nat → Prop) (A0_1 : Option Addr) (c0_1 : Nat) (l0_1 : List (S53)) (A1 : Option Addr) (c1 : Nat) (l1 : List (S53)) (r1 : Int) (r2 : List (S53)) (r3 : Int) (w : World) (hs0_1 : Kd.V k53 53 w w.heap.size (fun k_ => P0_1_ k_) (.slice A0_1 l0_1.length c0_1) l0_1) (hr1 : Kd.C k53 w A1 l1.length l1) (hc1 : l1.length ≤ c1) (h : alloc_Map_Give.f k a0_0 l0_1 l1 = some (r1, r2, r3)) :
  Calls Try.prog 25 #[.agg #[.int .i64 a0_0, .slice A0_1 l0_1.length c0_1], .slice A1 l1.length c1] w fun e w' => ∃ v1_ : Value, e = .returned (.tuple #[.agg #[.int .i64 r1, v1_], .int .i64 r3]) ∧ Kd.R k53 53 w' w.heap.size (fun k_ => (w.heap.size ≤ k_)) v1_ r2 ∧ Below w.heap.size w w' := by
 have hu26 := Try.underlying26
 have HO0_1 := Aa (show Kd.V k53 53 w w.heap.size (fun k_ => (P0_1_ k_ ∨ w.heap.size ≤ k_)) (.slice A0_1 l0_1.length c0_1) l0_1 from Kd.V_mono hs0_1 (fun k_ hk => .inl hk))
 have HR1 := Aside0.mk hr1
 have HC1 := Aside0.mk hc1
 clear hr1 hc1
 have HB := Aa (Below.refl w.heap.size w)
 have H : ((alloc_Map_permitted.f k a0_0 l0_1 l1).bind fun bt496 => (if bt496.2 = true then ((api_Extent_44.f k (([l0_1, bt496.1] : List (List (S53))))).bind fun t503 => ((extent_Runs.f k t503).bind fun t506 => ((alloc_size.f k t506).bind fun t509 => ((alloc_size.f k l0_1).bind fun t510 => ((alloc_size.f k bt496.1).bind fun t511 => (if t509 = (wrap64 (t510 + t511)) then (some (a0_0, t506, 0)) else (some (0, ([] : List (S53)), 8)))))))) else (some (0, ([] : List (S53)), 2)))) = some (r1, r2, r3) := h
 clear h
 replace H := Option.bind_eq_some_iff.mp H
 obtain ⟨⟨t496, t499⟩, A30, H⟩ := H
 replace H : (if t499 = true then ((api_Extent_44.f k (([l0_1, t496] : List (List (S53))))).bind fun t503 => ((extent_Runs.f k t503).bind fun t506 => ((alloc_size.f k t506).bind fun t509 => ((alloc_size.f k l0_1).bind fun t510 => ((alloc_size.f k t496).bind fun t511 => (if t509 = (wrap64 (t510 + t511)) then (some (a0_0, t506, 0)) else (some (0, ([] : List (S53)), 8)))))))) else (some (0, ([] : List (S53)), 2))) = some (r1, r2, r3) := H
 have A3 := Aside0.mk A30
 clear A30
 by_cases c4 : t499 = true
 ·
  subst c4
  have H1 : ((api_Extent_44.f k (([l0_1, t496] : List (List (S53))))).bind fun t503 => ((extent_Runs.f k t503).bind fun t506 => ((alloc_size.f k t506).bind fun t509 => ((alloc_size.f k l0_1).bind fun t510 => ((alloc_size.f k t496).bind fun t511 => (if t509 = (wrap64 (t510 + t511)) then (some (a0_0, t506, 0)) else (some (0, ([] : List (S53)), 8)))))))) = some (r1, r2, r3) := by rw [if_pos rfl] at H; exact H
  clear H
  have H := H1
  clear H1
  obtain ⟨y500, hy500⟩ : ∃ y_ : List (List (S53)), y_ = (([l0_1, t496] : List (List (S53)))) := ⟨_, rfl⟩
  replace H : ((api_Extent_44.f k y500).bind fun t503 => ((extent_Runs.f k t503).bind fun t506 => ((alloc_size.f k t506).bind fun t509 => ((alloc_size.f k l0_1).bind fun t510 => ((alloc_size.f k t496).bind fun t511 => (if t509 = (wrap64 (t510 + t511)) then (some (a0_0, t506, 0)) else (some (0, ([] : List (S53)), 8)))))))) = some (r1, r2, r3) := by first | (rw [hy500]; exact H) | exact H
  have Ny500 := Aside0.mk hy500
  clear hy500
  replace H := Option.bind_eq_some_iff.mp H
  obtain ⟨t503, A50, H⟩ := H
  replace H : ((extent_Runs.f k t503).bind fun t506 => ((alloc_size.f k t506).bind fun t509 => ((alloc_size.f k l0_1).bind fun t510 => ((alloc_size.f k t496).bind fun t511 => (if t509 = (wrap64 (t510 + t511)) then (some (a0_0, t506, 0)) else (some (0, ([] : List (S53)), 8))))))) = some (r1, r2, r3) := H
  have A5 := Aside0.mk A50
  clear A50
  replace H := Option.bind_eq_some_iff.mp H
  obtain ⟨t506, A60, H⟩ := H
  replace H : ((alloc_size.f k t506).bind fun t509 => ((alloc_size.f k l0_1).bind fun t510 => ((alloc_size.f k t496).bind fun t511 => (if t509 = (wrap64 (t510 + t511)) then (some (a0_0, t506, 0)) else (some (0, ([] : List (S53)), 8)))))) = some (r1, r2, r3) := H
  have A6 := Aside0.mk A60
  clear A60
  replace H := Option.bind_eq_some_iff.mp H
  obtain ⟨t509, A70, H⟩ := H
  replace H : ((alloc_size.f k l0_1).bind fun t510 => ((alloc_size.f k t496).bind fun t511 => (if t509 = (wrap64 (t510 + t511)) then (some (a0_0, t506, 0)) else (some (0, ([] : List (S53)), 8))))) = some (r1, r2, r3) := H
  have A7 := Aside0.mk A70
  clear A70
  replace H := Option.bind_eq_some_iff.mp H
  obtain ⟨t510, A80, H⟩ := H
  replace H : ((alloc_size.f k t496).bind fun t511 => (if t509 = (wrap64 (t510 + t511)) then (some (a0_0, t506, 0)) else (some (0, ([] : List (S53)), 8)))) = some (r1, r2, r3) := H
  have A8 := Aside0.mk A80
  clear A80
  replace H := Option.bind_eq_some_iff.mp H
  obtain ⟨t511, A90, H⟩ := H
  replace H : (if t509 = (wrap64 (t510 + t511)) then (some (a0_0, t506, 0)) else (some (0, ([] : List (S53)), 8))) = some (r1, r2, r3) := H
  have A9 := Aside0.mk A90
  clear A90
  by_cases c10 : t509 = (wrap64 (t510 + t511))
  ·
   rw [if_pos c10] at H
   have c10b0 : (t509 == (wrap64 (t510 + t511))) = true := beq_iff_eq.mpr c10
   have c10b1 : (t509 != (wrap64 (t510 + t511))) = false := bne_eq_false_iff_eq.mpr c10
   clear c10
   simp only [Option.some.injEq, Prod.mk.injEq] at H
   obtain ⟨rfl, rfl, rfl⟩ := H
   go_enter Try.func25, Try.ntmps25
   try go_wp2_with (first | ((with_reducible refine gD 2 ?_); refine bE #[.int .i64 a0_0, .slice A0_1 l0_1.length c0_1] 26 ?_; intro gb494 hg w11 hbox hb; replace HO0_1 := vG HO0_1 hg hb; have BK494 := Aa (hbox); have GW494 := gU HB hg; have GE494 := gU HB hg; have iE494 := Nonempty.intro GE494.1; replace HB := sU HB hb; clear hb hbox hg) | ((with_reducible refine gD 4 ?_); refine bE #[.int .i64 0, .slice none 0 0] 26 ?_; intro gb495 hg w12 hbox hb; replace HO0_1 := vG HO0_1 hg hb; have BK495 := Aa (hbox); have GW495 := gS HB hg; have GE495 := gS HB hg; have iE495 := Nonempty.intro GE495.1; replace HB := sB HB hb; have NB494_495 := nL BK494 hg; have NB495_494 := nG BK494 hg; replace BK494 := kB BK494 hb; clear hb hbox hg; have hnb13 := NB494_495.1; have hnc13 := NB495_494.1; have hcz14_0 : w12.cell? ⟨gb494, 0, none⟩ = some (.int .i64 a0_0) := cC BK494 0; have hcz14_1 : w12.cell? ⟨gb494, 1, none⟩ = some (.slice A0_1 l0_1.length c0_1) := cC BK494 1; have hfz14_0 := fC BK494 0; have hfz14_1 := fC BK494 1) | ((with_reducible refine gC 42 ?_); refine gL 12 Try.func42 #[.agg #[.int .i64 a0_0, .slice A0_1 l0_1.length c0_1], .slice A1 l1.length c1] ?_; (with_reducible refine (alloc_Map_permitted.calls k a0_0 _ _ l0_1 _ _ l1 t496 true _ ?side1 ?side2 ?side3 ?side4 A3.1).mono ?_); (case side1 => repeat (first | exact (Kd.V_reads' HO0_1.1).2.2 | (with_reducible refine Kd.C_alloc ?_ _) | (with_reducible refine Kd.C_drewN ?_ _) | (with_reducible refine Kd.C_drew ?_))); (case side2 => exact (Kd.V_reads' HO0_1.1).2.1); (case side3 => exact cU (Kd.C_below HR1.1 HB.1)); (case side4 => exact HC1.1); rintro e w15 ⟨v497, rfl, ho0, hb⟩; refine ⟨_, rfl, ?_⟩; replace HO0_1 := vE HO0_1 ho0 hb; have HO498 := Aa (Kd.R_lower (Kd.R_newM (M := fun k_ => (w.heap.size ≤ k_)) ho0 (below_size (bS HB.1)) (fun k_ h_ => h_)) (below_size (bS HB.1))); replace BK494 := kB BK494 hb; replace BK495 := kB BK495 hb; replace HB := sB HB hb; (try clear hb); (try clear hk); (try clear ho0); have hcz16_0 : w15.cell? ⟨gb494, 0, none⟩ = some (.int .i64 a0_0) := cC BK494 0; have hcz16_1 : w15.cell? ⟨gb494, 1, none⟩ = some (.slice A0_1 l0_1.length c0_1) := cC BK494 1; have hfz16_0 := fC BK494 0; have hfz16_1 := fC BK494 1; obtain ⟨Ao17, co17, eo17⟩ := Kd.R_slice HO498.1; subst eo17) | ((with_reducible refine gD 21 ?_); refine Kd.N_lit (Kd.slice 53 k53) _ 24 ?hg (N' := 21) ?hd (xs := ([l0_1, t496] : List (List (S53)))) (inner := [.slice A0_1 l0_1.length c0_1, .slice Ao17 t496.length co17]) (ok := (fun k_ => (P0_1_ k_ ∨ w.heap.size ≤ k_) ∧ k_ ≠ gb494 ∧ k_ ≠ gb495)) (okp := (fun k_ => (P0_1_ k_ ∨ w.heap.size ≤ k_) ∧ k_ ≠ gb494 ∧ k_ ≠ gb495)) ?hr ?hp (fun _ hk => hk) ((show ∀ k_, w15.heap.size ≤ k_ → (fun k_ => (P0_1_ k_ ∨ w.heap.size ≤ k_) ∧ k_ ≠ gb494 ∧ k_ ≠ gb495) k_ from fun k_ hk => ⟨(.inr (Nat.le_trans (below_size (bS HB.1)) hk)), Kd.freshB (g := gb494) (o := .cells #[.int .i64 a0_0, .slice A0_1 l0_1.length c0_1] 26 (0, 0)) (kU BK494.1) k_ hk, Kd.freshB (g := gb495) (o := .cells #[.int .i64 0, .slice none 0 0] 26 (0, 0)) (kU BK495.1) k_ hk⟩) _ (Nat.le_refl _)) (Below.refl _ _) (Nat.le_refl _) (by simp) ?_; (case hd => rfl); (case hg => rfl); (case hr => first | (go_simp; done) | (go_simp; rfl)); (case hp => exact (Reps.one (show Kd.FK (Kd.slice 53 k53) _ _ l0_1 [.slice A0_1 l0_1.length c0_1] from (Kd.FK_slice_mk (Kd.V_reads' (Kd.V_mono (ok' := (fun k_ => (P0_1_ k_ ∨ w.heap.size ≤ k_) ∧ k_ ≠ gb494 ∧ k_ ≠ gb495)) (HO0_1.1) (fun k_ hk => ⟨hk.1.1.1, ⟨hk.1.1.2, hk.1.2⟩⟩))).2.1 (Kd.V_F (Kd.V_mono (ok' := (fun k_ => (P0_1_ k_ ∨ w.heap.size ≤ k_) ∧ k_ ≠ gb494 ∧ k_ ≠ gb495)) (HO0_1.1) (fun k_ hk => ⟨hk.1.1.1, ⟨hk.1.1.2, hk.1.2⟩⟩))))) (Reps.one (show Kd.FK (Kd.slice 53 k53) _ _ t496 [.slice Ao17 t496.length co17] from (Kd.FK_slice_mk (Kd.R_reads' (Kd.R_mono (ok' := (fun k_ => (P0_1_ k_ ∨ w.heap.size ≤ k_) ∧ k_ ≠ gb494 ∧ k_ ≠ gb495)) (Kd.R_types (Kd.R_types (HO498.1) BK494.1 (by decide)) BK495.1 (by decide)) (fun k_ hk => ⟨(.inr (hk.1.1.1)), ⟨hk.1.2, hk.2⟩⟩))).2.1 (Kd.R_F (Kd.R_mono (ok' := (fun k_ => (P0_1_ k_ ∨ w.heap.size ≤ k_) ∧ k_ ≠ gb494 ∧ k_ ≠ gb495)) (Kd.R_types (Kd.R_types (HO498.1) BK494.1 (by decide)) BK495.1 (by decide)) (fun k_ hk => ⟨(.inr (hk.1.1.1)), ⟨hk.1.2, hk.2⟩⟩))))) (Reps.none _ _)))); intro v501 w18 ho19 hb hg_ hnew_; clear hg_ hnew_; (first | rw [← Ny500.1] at ho19 | (simp only [Int.reduceToNat] at ho19; rw [← Ny500.1] at ho19)); have n0_ := Aa (Kd.V_elder' (vU HO0_1.1) (Kd.N_base ho19) hb); have n1_ := Aa (Kd.N_lower ho19 (below_size (bS HB.1))); have n2_ := kB BK494 hb; have n3_ := kB BK495 hb; have n4_ := sB HB hb; have KL498 := Aa (Kd.R_reads' HO498.1).2.1; have KC498 := Aa (Kd.C_below (cU (Kd.R_reads' HO498.1).2.2) hb); clear HO0_1; clear BK494; clear BK495; clear HB; clear HO498; have HO0_1 := n0_; have HO502 := n1_; have BK494 := n2_; have BK495 := n3_; have HB := n4_; clear n0_ n1_ n2_ n3_ n4_; clear hb ho19; obtain ⟨Ao20, co20, eo20⟩ := Kd.N_slice HO502.1; subst eo20) | ((with_reducible refine gC 44 ?_); refine gL 22 Try.func44 #[.slice Ao20 y500.length co20] ?_; (with_reducible refine (api_Extent_44.calls k _ _ y500 t503 _ ?side1 ?side2 A5.1).mono ?_); (case side1 => repeat (first | exact (Kd.N_reads' HO502.1).2.2 | (with_reducible refine Kd.C_alloc ?_ _) | (with_reducible refine Kd.C_drewN ?_ _) | (with_reducible refine Kd.C_drew ?_))); (case side2 => exact (Kd.N_reads' HO502.1).2.1); rintro e w21 ⟨v504, rfl, ho0, hb⟩; refine ⟨_, rfl, ?_⟩; replace HO0_1 := vE HO0_1 ho0 hb; replace HO502 := Aa (Kd.N_elder' (by (with_reducible repeat (first | apply Kd.N_alloc | apply Kd.N_drewN | apply Kd.N_drew)); exact HO502.1) (Kd.R_base ho0) hb); have HO505 := Aa (Kd.R_lower (Kd.R_newM (M := fun k_ => (w.heap.size ≤ k_)) ho0 (below_size (bS HB.1)) (fun k_ h_ => h_)) (below_size (bS HB.1))); replace BK494 := kB BK494 hb; replace BK495 := kB BK495 hb; replace HB := sB HB hb; replace KC498 := Aa (Kd.C_below (cU KC498.1) hb); (try clear hb); (try clear hk); (try clear ho0); obtain ⟨Ao22, co22, eo22⟩ := Kd.R_slice HO505.1; subst eo22) | ((with_reducible refine gC 43 ?_); refine gL 23 Try.func43 #[.slice Ao22 t503.length co22] ?_; (with_reducible refine (extent_Runs.calls k _ _ t503 t506 _ ?side1 ?side2 A6.1).mono ?_); (case side1 => repeat (first | exact (Kd.R_reads' HO505.1).2.2 | (with_reducible refine Kd.C_alloc ?_ _) | (with_reducible refine Kd.C_drewN ?_ _) | (with_reducible refine Kd.C_drew ?_))); (case side2 => exact (Kd.R_reads' HO505.1).2.1); rintro e w23 ⟨v507, rfl, ho0, hb⟩; refine ⟨_, rfl, ?_⟩; replace HO0_1 := vE HO0_1 ho0 hb; replace HO502 := Aa (Kd.N_elder' (by (with_reducible repeat (first | apply Kd.N_alloc | apply Kd.N_drewN | apply Kd.N_drew)); exact HO502.1) (Kd.R_base ho0) hb); have HO508 := Aa (Kd.R_lower (Kd.R_new' (Kd.R_newM (M := fun k_ => (w.heap.size ≤ k_)) ho0 (below_size (bS HB.1)) (fun k_ h_ => h_)) (Kd.R_lt (rU HO505.1))) (below_size (bS HB.1))); replace HO505 := rE HO505 ho0 hb; replace BK494 := kB BK494 hb; replace BK495 := kB BK495 hb; replace HB := sB HB hb; replace KC498 := Aa (Kd.C_below (cU KC498.1) hb); (try clear hb); (try clear hk); (try clear ho0)))
   replace HO0_1 := Aa (Kd.V_drew HO0_1.1)
   replace HO502 := Aa (Kd.N_drew HO502.1)
   replace HO505 := Aa (Kd.R_drew HO505.1)
   replace HO508 := Aa (Kd.R_drew HO508.1)
   replace BK494 := Aa (blk_drew BK494.1)
   replace BK495 := Aa (blk_drew BK495.1)
   replace HB := Aa (below_drew1 HB.1)
   obtain ⟨Ao25, co25, eo25⟩ := Kd.R_slice HO508.1
   (first | subst eo25 | (injection eo25 with f1_ f2_ f3_; have f4_ := f1_.symm; have f5_ := f3_.symm; clear f1_ f2_ f3_; subst f4_; subst f5_))
   refine start_ (n := 9) (S := fun w' => w'.cell? ⟨gb494, 0, none⟩ = some (.int .i64 a0_0) ∧ w'.cell? ⟨gb494, 1, none⟩ = some (.slice A0_1 l0_1.length c0_1)) (ds := []) (bm 9 0) (by kernel_rfl) rfl (bm0 _) ⟨cC BK494 0, cC BK494 1⟩ (fun hHeld => ?_); refine with_tabW alloc_Map_Give.tab5 alloc_Map_Give.bits5 (fun HT_ HW_ => ?_)
   replace KC498 : Aside0 (Kd.C _ w23.drew Ao17 t496.length t496) := ⟨cU KC498.1⟩
   generalize w23.drew = w24 at KC498 HO0_1 HO502 HO505 HO508 BK494 BK495 HB hHeld ⊢
   refine pA 1 0 24 ?_
   refine pA 5 2 26 ?_
   refine pA 37 5 29 ?_
   refine tA 45 3 27 hHeld ?_
   refine oA 47 1 25 (fun K hK => ?_)
   refine gR Try.func31 #[.slice Ao25 t506.length co25] ?_
   with_reducible refine (alloc_size.calls k _ _ t506 t509 _ ?side1 ?side2 A7.1).mono ?_
   (case side1 => repeat (first | exact (Kd.R_reads' HO508.1).2.2 | (with_reducible refine Kd.C_alloc ?_ _) | (with_reducible refine Kd.C_drewN ?_ _) | (with_reducible refine Kd.C_drew ?_)))
   (case side2 => exact (Kd.R_reads' HO508.1).2.1)
   rintro e w26 ⟨rfl, hb⟩
   refine ⟨_, rfl, ?_⟩
   replace HO0_1 := vB HO0_1 hb
   replace HO502 := Aa (Kd.N_below (by (with_reducible repeat (first | apply Kd.N_alloc | apply Kd.N_drewN | apply Kd.N_drew)); exact HO502.1) hb)
   replace HO505 := rB HO505 hb
   replace HO508 := rB HO508 hb
   replace BK494 := kB BK494 hb
   replace BK495 := kB BK495 hb
   replace HB := sB HB hb
   replace KC498 := Aa (Kd.C_below (cU KC498.1) hb)
   (try clear hb)
   (try clear hb2)
   (try clear hk)
   (try clear hi)
   refine hK.out _ _ ⟨cC BK494 0, cC BK494 1⟩ (fun hHeld => ?_)
   clear hK K
   refine nA ?_
   refine oA 63 4 28 (fun K hK => ?_)
   refine gR Try.func31 #[.slice A0_1 l0_1.length c0_1] ?_
   with_reducible refine (alloc_size.calls k _ _ l0_1 t510 _ ?side1 ?side2 A8.1).mono ?_
   (case side1 => repeat (first | exact (Kd.V_reads' HO0_1.1).2.2 | (with_reducible refine Kd.C_alloc ?_ _) | (with_reducible refine Kd.C_drewN ?_ _) | (with_reducible refine Kd.C_drew ?_)))
   (case side2 => exact (Kd.V_reads' HO0_1.1).2.1)
   rintro e w27 ⟨rfl, hb⟩
   refine ⟨_, rfl, ?_⟩
   replace HO0_1 := vB HO0_1 hb
   replace HO502 := Aa (Kd.N_below (by (with_reducible repeat (first | apply Kd.N_alloc | apply Kd.N_drewN | apply Kd.N_drew)); exact HO502.1) hb)
   replace HO505 := rB HO505 hb
   replace HO508 := rB HO508 hb
   replace BK494 := kB BK494 hb
   replace BK495 := kB BK495 hb
   replace HB := sB HB hb
   replace KC498 := Aa (Kd.C_below (cU KC498.1) hb)
   (try clear hb)
   (try clear hb2)
   (try clear hk)
   (try clear hi)
   refine hK.out _ _ ⟨cC BK494 0, cC BK494 1⟩ (fun hHeld => ?_)
   clear hK K
   refine nA ?_
   refine oA 127 6 30 (fun K hK => ?_)
   refine gR Try.func31 #[.slice Ao17 t496.length co17] ?_
   with_reducible refine (alloc_size.calls k _ _ t496 t511 _ ?side1 ?side2 A9.1).mono ?_
   (case side1 => exact cU KC498.1)
   (case side2 => exact KL498.1)
   rintro e w28 ⟨rfl, hb⟩
   refine ⟨_, rfl, ?_⟩
   replace HO0_1 := vB HO0_1 hb
   replace HO502 := Aa (Kd.N_below (by (with_reducible repeat (first | apply Kd.N_alloc | apply Kd.N_drewN | apply Kd.N_drew)); exact HO502.1) hb)
   replace HO505 := rB HO505 hb
   replace HO508 := rB HO508 hb
   replace BK494 := kB BK494 hb
   replace BK495 := kB BK495 hb
   replace HB := sB HB hb
   replace KC498 := Aa (Kd.C_below (cU KC498.1) hb)
   (try clear hb)
   (try clear hb2)
   (try clear hk)
   (try clear hi)
   refine hK.out _ _ ⟨cC BK494 0, cC BK494 1⟩ (fun hHeld => ?_)
   clear hK K
   refine nA ?_
   refine pA 255 7 31 ?_
   refine pA 511 8 32 ?_
   refine done_ (done_of HT_.1 (by kernel_rfl)) ?_
   have hcz29_0 : w28.cell? ⟨gb494, 0, none⟩ = some (.int .i64 a0_0) := cC BK494 0
   have hcz29_1 : w28.cell? ⟨gb494, 1, none⟩ = some (.slice A0_1 l0_1.length c0_1) := cC BK494 1
   have hfz29_0 := fC BK494 0
   have hfz29_1 := fC BK494 1
   have hcz30_0 : w28.cell? ⟨gb495, 0, none⟩ = some (.int .i64 0) := cC BK495 0
   have hcz30_1 : w28.cell? ⟨gb495, 1, none⟩ = some (.slice none 0 0) := cC BK495 1
   have hfz30_0 := fC BK495 0
   have hfz30_1 := fC BK495 1
   try go_wp2
   refine bodyPost_ret (results_ct rfl _ _ gb495 26 #[.int .i64 a0_0, .slice Ao25 t506.length co25] (0, 0) _ rfl (by refine kP ?_; refine blk_put (cs := #[.int .i64 a0_0, .slice none 0 0]) ?_ 1 _ rfl; refine kP ?_; refine blk_put (cs := #[.int .i64 0, .slice none 0 0]) ?_ 0 _ rfl; refine kP ?_; exact BK495.1) Try.underlying26 rfl (by kernel_rfl)) rfl ?_
   exact ⟨_, fT, rU (Kd.R_mono (Kd.R_far (p := ⟨gb495, 1, none⟩) (Kd.R_far (p := ⟨gb495, 0, none⟩) (Kd.R_types HO508.1 BK495.1 (by decide)) (fun _ hk => hk.2) (.int .i64 a0_0)) (fun _ hk => hk.2) (.slice Ao25 t506.length co25)) (fun _ hk => hk.1.1.1)), bS HB.1⟩
  ·
   rw [if_neg c10] at H
   have c10b0 : (t509 == (wrap64 (t510 + t511))) = false := beq_eq_false_iff_ne.mpr c10
   have c10b1 : (t509 != (wrap64 (t510 + t511))) = true := bne_iff_ne.mpr c10
   simp only [Option.some.injEq, Prod.mk.injEq] at H
   obtain ⟨rfl, rfl, rfl⟩ := H
   go_enter Try.func25, Try.ntmps25
   try go_wp2_with (first | ((with_reducible refine gD 2 ?_); refine bE #[.int .i64 a0_0, .slice A0_1 l0_1.length c0_1] 26 ?_; intro gb494 hg w31 hbox hb; replace HO0_1 := vG HO0_1 hg hb; have BK494 := Aa (hbox); have GW494 := gU HB hg; have GE494 := gU HB hg; have iE494 := Nonempty.intro GE494.1; replace HB := sU HB hb; clear hb hbox hg) | ((with_reducible refine gD 4 ?_); refine bE #[.int .i64 0, .slice none 0 0] 26 ?_; intro gb495 hg w32 hbox hb; replace HO0_1 := vG HO0_1 hg hb; have BK495 := Aa (hbox); have GW495 := gS HB hg; have GE495 := gS HB hg; have iE495 := Nonempty.intro GE495.1; replace HB := sB HB hb; have NB494_495 := nL BK494 hg; have NB495_494 := nG BK494 hg; replace BK494 := kB BK494 hb; clear hb hbox hg; have hnb33 := NB494_495.1; have hnc33 := NB495_494.1; have hcz34_0 : w32.cell? ⟨gb494, 0, none⟩ = some (.int .i64 a0_0) := cC BK494 0; have hcz34_1 : w32.cell? ⟨gb494, 1, none⟩ = some (.slice A0_1 l0_1.length c0_1) := cC BK494 1; have hfz34_0 := fC BK494 0; have hfz34_1 := fC BK494 1) | ((with_reducible refine gC 42 ?_); refine gL 12 Try.func42 #[.agg #[.int .i64 a0_0, .slice A0_1 l0_1.length c0_1], .slice A1 l1.length c1] ?_; (with_reducible refine (alloc_Map_permitted.calls k a0_0 _ _ l0_1 _ _ l1 t496 true _ ?side1 ?side2 ?side3 ?side4 A3.1).mono ?_); (case side1 => repeat (first | exact (Kd.V_reads' HO0_1.1).2.2 | (with_reducible refine Kd.C_alloc ?_ _) | (with_reducible refine Kd.C_drewN ?_ _) | (with_reducible refine Kd.C_drew ?_))); (case side2 => exact (Kd.V_reads' HO0_1.1).2.1); (case side3 => exact cU (Kd.C_below HR1.1 HB.1)); (case side4 => exact HC1.1); rintro e w35 ⟨v497, rfl, ho0, hb⟩; refine ⟨_, rfl, ?_⟩; replace HO0_1 := vE HO0_1 ho0 hb; have HO498 := Aa (Kd.R_lower (Kd.R_newM (M := fun k_ => (w.heap.size ≤ k_)) ho0 (below_size (bS HB.1)) (fun k_ h_ => h_)) (below_size (bS HB.1))); replace BK494 := kB BK494 hb; replace BK495 := kB BK495 hb; replace HB := sB HB hb; (try clear hb); (try clear hk); (try clear ho0); have hcz36_0 : w35.cell? ⟨gb494, 0, none⟩ = some (.int .i64 a0_0) := cC BK494 0; have hcz36_1 : w35.cell? ⟨gb494, 1, none⟩ = some (.slice A0_1 l0_1.length c0_1) := cC BK494 1; have hfz36_0 := fC BK494 0; have hfz36_1 := fC BK494 1; obtain ⟨Ao37, co37, eo37⟩ := Kd.R_slice HO498.1; subst eo37) | ((with_reducible refine gD 21 ?_); refine Kd.N_lit (Kd.slice 53 k53) _ 24 ?hg (N' := 21) ?hd (xs := ([l0_1, t496] : List (List (S53)))) (inner := [.slice A0_1 l0_1.length c0_1, .slice Ao37 t496.length co37]) (ok := (fun k_ => (P0_1_ k_ ∨ w.heap.size ≤ k_) ∧ k_ ≠ gb494 ∧ k_ ≠ gb495)) (okp := (fun k_ => (P0_1_ k_ ∨ w.heap.size ≤ k_) ∧ k_ ≠ gb494 ∧ k_ ≠ gb495)) ?hr ?hp (fun _ hk => hk) ((show ∀ k_, w35.heap.size ≤ k_ → (fun k_ => (P0_1_ k_ ∨ w.heap.size ≤ k_) ∧ k_ ≠ gb494 ∧ k_ ≠ gb495) k_ from fun k_ hk => ⟨(.inr (Nat.le_trans (below_size (bS HB.1)) hk)), Kd.freshB (g := gb494) (o := .cells #[.int .i64 a0_0, .slice A0_1 l0_1.length c0_1] 26 (0, 0)) (kU BK494.1) k_ hk, Kd.freshB (g := gb495) (o := .cells #[.int .i64 0, .slice none 0 0] 26 (0, 0)) (kU BK495.1) k_ hk⟩) _ (Nat.le_refl _)) (Below.refl _ _) (Nat.le_refl _) (by simp) ?_; (case hd => rfl); (case hg => rfl); (case hr => first | (go_simp; done) | (go_simp; rfl)); (case hp => exact (Reps.one (show Kd.FK (Kd.slice 53 k53) _ _ l0_1 [.slice A0_1 l0_1.length c0_1] from (Kd.FK_slice_mk (Kd.V_reads' (Kd.V_mono (ok' := (fun k_ => (P0_1_ k_ ∨ w.heap.size ≤ k_) ∧ k_ ≠ gb494 ∧ k_ ≠ gb495)) (HO0_1.1) (fun k_ hk => ⟨hk.1.1.1, ⟨hk.1.1.2, hk.1.2⟩⟩))).2.1 (Kd.V_F (Kd.V_mono (ok' := (fun k_ => (P0_1_ k_ ∨ w.heap.size ≤ k_) ∧ k_ ≠ gb494 ∧ k_ ≠ gb495)) (HO0_1.1) (fun k_ hk => ⟨hk.1.1.1, ⟨hk.1.1.2, hk.1.2⟩⟩))))) (Reps.one (show Kd.FK (Kd.slice 53 k53) _ _ t496 [.slice Ao37 t496.length co37] from (Kd.FK_slice_mk (Kd.R_reads' (Kd.R_mono (ok' := (fun k_ => (P0_1_ k_ ∨ w.heap.size ≤ k_) ∧ k_ ≠ gb494 ∧ k_ ≠ gb495)) (Kd.R_types (Kd.R_types (HO498.1) BK494.1 (by decide)) BK495.1 (by decide)) (fun k_ hk => ⟨(.inr (hk.1.1.1)), ⟨hk.1.2, hk.2⟩⟩))).2.1 (Kd.R_F (Kd.R_mono (ok' := (fun k_ => (P0_1_ k_ ∨ w.heap.size ≤ k_) ∧ k_ ≠ gb494 ∧ k_ ≠ gb495)) (Kd.R_types (Kd.R_types (HO498.1) BK494.1 (by decide)) BK495.1 (by decide)) (fun k_ hk => ⟨(.inr (hk.1.1.1)), ⟨hk.1.2, hk.2⟩⟩))))) (Reps.none _ _)))); intro v501 w38 ho39 hb hg_ hnew_; clear hg_ hnew_; (first | rw [← Ny500.1] at ho39 | (simp only [Int.reduceToNat] at ho39; rw [← Ny500.1] at ho39)); have n0_ := Aa (Kd.V_elder' (vU HO0_1.1) (Kd.N_base ho39) hb); have n1_ := Aa (Kd.N_lower ho39 (below_size (bS HB.1))); have n2_ := kB BK494 hb; have n3_ := kB BK495 hb; have n4_ := sB HB hb; have KL498 := Aa (Kd.R_reads' HO498.1).2.1; have KC498 := Aa (Kd.C_below (cU (Kd.R_reads' HO498.1).2.2) hb); clear HO0_1; clear BK494; clear BK495; clear HB; clear HO498; have HO0_1 := n0_; have HO502 := n1_; have BK494 := n2_; have BK495 := n3_; have HB := n4_; clear n0_ n1_ n2_ n3_ n4_; clear hb ho39; obtain ⟨Ao40, co40, eo40⟩ := Kd.N_slice HO502.1; subst eo40) | ((with_reducible refine gC 44 ?_); refine gL 22 Try.func44 #[.slice Ao40 y500.length co40] ?_; (with_reducible refine (api_Extent_44.calls k _ _ y500 t503 _ ?side1 ?side2 A5.1).mono ?_); (case side1 => repeat (first | exact (Kd.N_reads' HO502.1).2.2 | (with_reducible refine Kd.C_alloc ?_ _) | (with_reducible refine Kd.C_drewN ?_ _) | (with_reducible refine Kd.C_drew ?_))); (case side2 => exact (Kd.N_reads' HO502.1).2.1); rintro e w41 ⟨v504, rfl, ho0, hb⟩; refine ⟨_, rfl, ?_⟩; replace HO0_1 := vE HO0_1 ho0 hb; replace HO502 := Aa (Kd.N_elder' (by (with_reducible repeat (first | apply Kd.N_alloc | apply Kd.N_drewN | apply Kd.N_drew)); exact HO502.1) (Kd.R_base ho0) hb); have HO505 := Aa (Kd.R_lower (Kd.R_newM (M := fun k_ => (w.heap.size ≤ k_)) ho0 (below_size (bS HB.1)) (fun k_ h_ => h_)) (below_size (bS HB.1))); replace BK494 := kB BK494 hb; replace BK495 := kB BK495 hb; replace HB := sB HB hb; replace KC498 := Aa (Kd.C_below (cU KC498.1) hb); (try clear hb); (try clear hk); (try clear ho0); obtain ⟨Ao42, co42, eo42⟩ := Kd.R_slice HO505.1; subst eo42) | ((with_reducible refine gC 43 ?_); refine gL 23 Try.func43 #[.slice Ao42 t503.length co42] ?_; (with_reducible refine (extent_Runs.calls k _ _ t503 t506 _ ?side1 ?side2 A6.1).mono ?_); (case side1 => repeat (first | exact (Kd.R_reads' HO505.1).2.2 | (with_reducible refine Kd.C_alloc ?_ _) | (with_reducible refine Kd.C_drewN ?_ _) | (with_reducible refine Kd.C_drew ?_))); (case side2 => exact (Kd.R_reads' HO505.1).2.1); rintro e w43 ⟨v507, rfl, ho0, hb⟩; refine ⟨_, rfl, ?_⟩; replace HO0_1 := vE HO0_1 ho0 hb; replace HO502 := Aa (Kd.N_elder' (by (with_reducible repeat (first | apply Kd.N_alloc | apply Kd.N_drewN | apply Kd.N_drew)); exact HO502.1) (Kd.R_base ho0) hb); have HO508 := Aa (Kd.R_lower (Kd.R_new' (Kd.R_newM (M := fun k_ => (w.heap.size ≤ k_)) ho0 (below_size (bS HB.1)) (fun k_ h_ => h_)) (Kd.R_lt (rU HO505.1))) (below_size (bS HB.1))); replace HO505 := rE HO505 ho0 hb; replace BK494 := kB BK494 hb; replace BK495 := kB BK495 hb; replace HB := sB HB hb; replace KC498 := Aa (Kd.C_below (cU KC498.1) hb); (try clear hb); (try clear hk); (try clear ho0)))
   replace HO0_1 := Aa (Kd.V_drew HO0_1.1)
   replace HO502 := Aa (Kd.N_drew HO502.1)
   replace HO505 := Aa (Kd.R_drew HO505.1)
   replace HO508 := Aa (Kd.R_drew HO508.1)
   replace BK494 := Aa (blk_drew BK494.1)
   replace BK495 := Aa (blk_drew BK495.1)
   replace HB := Aa (below_drew1 HB.1)
   obtain ⟨Ao45, co45, eo45⟩ := Kd.R_slice HO508.1
   (first | subst eo45 | (injection eo45 with f1_ f2_ f3_; have f4_ := f1_.symm; have f5_ := f3_.symm; clear f1_ f2_ f3_; subst f4_; subst f5_))
   refine start_ (n := 9) (S := fun w' => w'.cell? ⟨gb494, 0, none⟩ = some (.int .i64 a0_0) ∧ w'.cell? ⟨gb494, 1, none⟩ = some (.slice A0_1 l0_1.length c0_1)) (ds := []) (bm 9 0) (by kernel_rfl) rfl (bm0 _) ⟨cC BK494 0, cC BK494 1⟩ (fun hHeld => ?_); refine with_tabW alloc_Map_Give.tab5 alloc_Map_Give.bits5 (fun HT_ HW_ => ?_)
   replace KC498 : Aside0 (Kd.C _ w43.drew Ao37 t496.length t496) := ⟨cU KC498.1⟩
   generalize w43.drew = w44 at KC498 HO0_1 HO502 HO505 HO508 BK494 BK495 HB hHeld ⊢
   refine pA 1 0 24 ?_
   refine pA 5 2 26 ?_
   refine pA 37 5 29 ?_
   refine tA 45 3 27 hHeld ?_
   refine oA 47 1 25 (fun K hK => ?_)
   refine gR Try.func31 #[.slice Ao45 t506.length co45] ?_
   with_reducible refine (alloc_size.calls k _ _ t506 t509 _ ?side1 ?side2 A7.1).mono ?_
   (case side1 => repeat (first | exact (Kd.R_reads' HO508.1).2.2 | (with_reducible refine Kd.C_alloc ?_ _) | (with_reducible refine Kd.C_drewN ?_ _) | (with_reducible refine Kd.C_drew ?_)))
   (case side2 => exact (Kd.R_reads' HO508.1).2.1)
   rintro e w46 ⟨rfl, hb⟩
   refine ⟨_, rfl, ?_⟩
   replace HO0_1 := vB HO0_1 hb
   replace HO502 := Aa (Kd.N_below (by (with_reducible repeat (first | apply Kd.N_alloc | apply Kd.N_drewN | apply Kd.N_drew)); exact HO502.1) hb)
   replace HO505 := rB HO505 hb
   replace HO508 := rB HO508 hb
   replace BK494 := kB BK494 hb
   replace BK495 := kB BK495 hb
   replace HB := sB HB hb
   replace KC498 := Aa (Kd.C_below (cU KC498.1) hb)
   (try clear hb)
   (try clear hb2)
   (try clear hk)
   (try clear hi)
   refine hK.out _ _ ⟨cC BK494 0, cC BK494 1⟩ (fun hHeld => ?_)
   clear hK K
   refine nA ?_
   refine oA 63 4 28 (fun K hK => ?_)
   refine gR Try.func31 #[.slice A0_1 l0_1.length c0_1] ?_
   with_reducible refine (alloc_size.calls k _ _ l0_1 t510 _ ?side1 ?side2 A8.1).mono ?_
   (case side1 => repeat (first | exact (Kd.V_reads' HO0_1.1).2.2 | (with_reducible refine Kd.C_alloc ?_ _) | (with_reducible refine Kd.C_drewN ?_ _) | (with_reducible refine Kd.C_drew ?_)))
   (case side2 => exact (Kd.V_reads' HO0_1.1).2.1)
   rintro e w47 ⟨rfl, hb⟩
   refine ⟨_, rfl, ?_⟩
   replace HO0_1 := vB HO0_1 hb
   replace HO502 := Aa (Kd.N_below (by (with_reducible repeat (first | apply Kd.N_alloc | apply Kd.N_drewN | apply Kd.N_drew)); exact HO502.1) hb)
   replace HO505 := rB HO505 hb
   replace HO508 := rB HO508 hb
   replace BK494 := kB BK494 hb
   replace BK495 := kB BK495 hb
   replace HB := sB HB hb
   replace KC498 := Aa (Kd.C_below (cU KC498.1) hb)
   (try clear hb)
   (try clear hb2)
   (try clear hk)
   (try clear hi)
   refine hK.out _ _ ⟨cC BK494 0, cC BK494 1⟩ (fun hHeld => ?_)
   clear hK K
   refine nA ?_
   refine oA 127 6 30 (fun K hK => ?_)
   refine gR Try.func31 #[.slice Ao37 t496.length co37] ?_
   with_reducible refine (alloc_size.calls k _ _ t496 t511 _ ?side1 ?side2 A9.1).mono ?_
   (case side1 => exact cU KC498.1)
   (case side2 => exact KL498.1)
   rintro e w48 ⟨rfl, hb⟩
   refine ⟨_, rfl, ?_⟩
   replace HO0_1 := vB HO0_1 hb
   replace HO502 := Aa (Kd.N_below (by (with_reducible repeat (first | apply Kd.N_alloc | apply Kd.N_drewN | apply Kd.N_drew)); exact HO502.1) hb)
   replace HO505 := rB HO505 hb
   replace HO508 := rB HO508 hb
   replace BK494 := kB BK494 hb
   replace BK495 := kB BK495 hb
   replace HB := sB HB hb
   replace KC498 := Aa (Kd.C_below (cU KC498.1) hb)
   (try clear hb)
   (try clear hb2)
   (try clear hk)
   (try clear hi)
   refine hK.out _ _ ⟨cC BK494 0, cC BK494 1⟩ (fun hHeld => ?_)
   clear hK K
   refine nA ?_
   refine pA 255 7 31 ?_
   refine pA 511 8 32 ?_
   refine done_ (done_of HT_.1 (by kernel_rfl)) ?_
   have hcz49_0 : w48.cell? ⟨gb495, 0, none⟩ = some (.int .i64 0) := cC BK495 0
   have hcz49_1 : w48.cell? ⟨gb495, 1, none⟩ = some (.slice none 0 0) := cC BK495 1
   have hfz49_0 := fC BK495 0
   have hfz49_1 := fC BK495 1
   try go_wp2
   refine bodyPost_ret (results_ct rfl _ _ gb495 26 #[.int .i64 0, .slice none 0 0] (0, 0) _ rfl (by refine kP ?_; refine blk_put (cs := #[.int .i64 0, .slice none 0 0]) ?_ 1 _ rfl; refine kP ?_; refine blk_put (cs := #[.int .i64 0, .slice none 0 0]) ?_ 0 _ rfl; refine kP ?_; exact BK495.1) Try.underlying26 rfl (by kernel_rfl)) rfl ?_
   exact ⟨_, fT, by first | exact Kd.R_nil _ _ _ _ _ | exact Kd.N_nil _ _ _ _ _ | exact Kd.V_nil _ _ _ _ _ | exact Kd.Q_nil _ _ _ _ _ | exact Kd.S_nil _ _ _ _ _, bS HB.1⟩
 ·
  replace c4 := Bool.eq_false_iff.mpr c4
  subst c4
  have H1 : (some (0, ([] : List (S53)), 2)) = some (r1, r2, r3) := by rw [if_neg (show ¬ (false = true) by decide)] at H; exact H
  clear H
  have H := H1
  clear H1
  simp only [Option.some.injEq, Prod.mk.injEq] at H
  obtain ⟨rfl, rfl, rfl⟩ := H
  go_enter Try.func25, Try.ntmps25
  go_wp2_with (first | ((with_reducible refine gD 2 ?_); refine bE #[.int .i64 a0_0, .slice A0_1 l0_1.length c0_1] 26 ?_; intro gb494 hg w50 hbox hb; replace HO0_1 := vG HO0_1 hg hb; have BK494 := Aa (hbox); have GW494 := gU HB hg; have GE494 := gU HB hg; have iE494 := Nonempty.intro GE494.1; replace HB := sU HB hb; clear hb hbox hg) | ((with_reducible refine gD 4 ?_); refine bE #[.int .i64 0, .slice none 0 0] 26 ?_; intro gb495 hg w51 hbox hb; replace HO0_1 := vG HO0_1 hg hb; have BK495 := Aa (hbox); have GW495 := gS HB hg; have GE495 := gS HB hg; have iE495 := Nonempty.intro GE495.1; replace HB := sB HB hb; have NB494_495 := nL BK494 hg; have NB495_494 := nG BK494 hg; replace BK494 := kB BK494 hb; clear hb hbox hg; have hnb52 := NB494_495.1; have hnc52 := NB495_494.1; have hcz53_0 : w51.cell? ⟨gb494, 0, none⟩ = some (.int .i64 a0_0) := cC BK494 0; have hcz53_1 : w51.cell? ⟨gb494, 1, none⟩ = some (.slice A0_1 l0_1.length c0_1) := cC BK494 1; have hfz53_0 := fC BK494 0; have hfz53_1 := fC BK494 1) | ((with_reducible refine gC 42 ?_); refine gL 12 Try.func42 #[.agg #[.int .i64 a0_0, .slice A0_1 l0_1.length c0_1], .slice A1 l1.length c1] ?_; (with_reducible refine (alloc_Map_permitted.calls k a0_0 _ _ l0_1 _ _ l1 t496 false _ ?side1 ?side2 ?side3 ?side4 A3.1).mono ?_); (case side1 => repeat (first | exact (Kd.V_reads' HO0_1.1).2.2 | (with_reducible refine Kd.C_alloc ?_ _) | (with_reducible refine Kd.C_drewN ?_ _) | (with_reducible refine Kd.C_drew ?_))); (case side2 => exact (Kd.V_reads' HO0_1.1).2.1); (case side3 => exact cU (Kd.C_below HR1.1 HB.1)); (case side4 => exact HC1.1); rintro e w54 ⟨v497, rfl, ho0, hb⟩; refine ⟨_, rfl, ?_⟩; replace HO0_1 := vE HO0_1 ho0 hb; have HO498 := Aa (Kd.R_lower (Kd.R_newM (M := fun k_ => (w.heap.size ≤ k_)) ho0 (below_size (bS HB.1)) (fun k_ h_ => h_)) (below_size (bS HB.1))); replace BK494 := kB BK494 hb; replace BK495 := kB BK495 hb; replace HB := sB HB hb; (try clear hb); (try clear ho0); have hcz55_0 : w54.cell? ⟨gb495, 0, none⟩ = some (.int .i64 0) := cC BK495 0; have hcz55_1 : w54.cell? ⟨gb495, 1, none⟩ = some (.slice none 0 0) := cC BK495 1; have hfz55_0 := fC BK495 0; have hfz55_1 := fC BK495 1))
  refine bodyPost_ret (results_ct rfl _ _ gb495 26 #[.int .i64 0, .slice none 0 0] (0, 0) _ rfl (by refine kP ?_; refine blk_put (cs := #[.int .i64 0, .slice none 0 0]) ?_ 1 _ rfl; refine kP ?_; refine blk_put (cs := #[.int .i64 0, .slice none 0 0]) ?_ 0 _ rfl; refine kP ?_; exact BK495.1) Try.underlying26 rfl (by kernel_rfl)) rfl ?_
  exact ⟨_, fT, by first | exact Kd.R_nil _ _ _ _ _ | exact Kd.N_nil _ _ _ _ _ | exact Kd.V_nil _ _ _ _ _ | exact Kd.Q_nil _ _ _ _ _ | exact Kd.S_nil _ _ _ _ _, bS HB.1⟩

/-! ### tegularef35_Map_Give: function 45 -/
def tegularef35_Map_Give.f (k : Nat) (l0 : List Bool) (l1 : List (S53)) : Option (List Bool × Int) := (tegularef35_Map_change.f k l0 l1 false).bind fun bt512 => (some (bt512.1, bt512.2))
theorem tegularef35_Map_Give.mono : ∀ a0 a1 k, LeO (tegularef35_Map_Give.f k a0 a1) (tegularef35_Map_Give.f (k + 1) a0 a1) := by
 intro a0 a1 k
 unfold tegularef35_Map_Give.f
 repeat' first
   | (with_reducible exact tegularef35_Map_change.mono _ _ _ _)
   | (with_reducible exact LeO.refl _)
   | (with_reducible exact LeO.none _)
   | (with_reducible refine LeO.ite ?_ ?_)
   | (with_reducible refine LeO.bind ?_ (fun _ => ?_))
   | exact tegularef35_Map_change.mono _ _ _ _
   | exact LeO.none _
   | refine LeO.ite ?_ ?_
   | refine LeO.bind ?_ (fun _ => ?_)
set_option maxHeartbeats 8000000 in
set_option maxRecDepth 100000 in
theorem tegularef35_Map_Give.calls (k : Nat) (A0 : Option Addr) (c0 : Nat) (l0 : List Bool) (A1 : Option Addr) (c1 : Nat) (l1 : List (S53)) (r1 : List Bool) (r2 : Int) (w : World) (hr0 : Kd.C Kd.bool w A0 l0.length l0) (hc0 : l0.length ≤ c0) (hr1 : Kd.C k53 w A1 l1.length l1) (hc1 : l1.length ≤ c1) (h : tegularef35_Map_Give.f k l0 l1 = some (r1, r2)) :
  Calls Try.prog 45 #[.slice A0 l0.length c0, .slice A1 l1.length c1] w fun e w' => ∃ v0_ : Value, e = .returned (.tuple #[v0_, .int .i64 r2]) ∧ Kd.R Kd.bool 4 w' w.heap.size (fun _ => True) v0_ r1 ∧ Below w.heap.size w w' := by
 have HR0 := Aside0.mk hr0
 have HC0 := Aside0.mk hc0
 clear hr0 hc0
 have HR1 := Aside0.mk hr1
 have HC1 := Aside0.mk hc1
 clear hr1 hc1
 have HB := Aa (Below.refl w.heap.size w)
 have H : ((tegularef35_Map_change.f k l0 l1 false).bind fun bt512 => (some (bt512.1, bt512.2))) = some (r1, r2) := h
 clear h
 replace H := Option.bind_eq_some_iff.mp H
 obtain ⟨⟨t512, t513⟩, A30, H⟩ := H
 replace H : (some (t512, t513)) = some (r1, r2) := H
 have A3 := Aside0.mk A30
 clear A30
 simp only [Option.some.injEq, Prod.mk.injEq] at H
 obtain ⟨rfl, rfl⟩ := H
 go_enter Try.func45, Try.ntmps45
 go_wp2_with (first | ((with_reducible refine gC 54 ?_); refine gL 8 Try.func54 #[.slice A0 l0.length c0, .slice A1 l1.length c1, .bool false] ?_; (with_reducible refine (tegularef35_Map_change.calls k _ _ l0 _ _ l1 false t512 t513 _ ?side1 ?side2 ?side3 ?side4 A3.1).mono ?_); (case side1 => repeat (first | exact HR0.1 | (with_reducible refine Kd.C_alloc ?_ _) | (with_reducible refine Kd.C_drewN ?_ _) | (with_reducible refine Kd.C_drew ?_))); (case side2 => exact HC0.1); (case side3 => repeat (first | exact HR1.1 | (with_reducible refine Kd.C_alloc ?_ _) | (with_reducible refine Kd.C_drewN ?_ _) | (with_reducible refine Kd.C_drew ?_))); (case side4 => exact HC1.1); rintro e w4 ⟨v514, rfl, ho0, hb⟩; refine ⟨_, rfl, ?_⟩; have HO515 := Aa (Kd.R_lower ho0 (below_size (bU HB.1))); replace HB := sU HB hb; (try clear hb); (try clear ho0)))
 go_ret2
 exact ⟨_, fT, rU HO515.1, bU HB.1⟩

end Go.Proofs.Ytcjpikjbjehjeaa.PAllocB
