-- Written for this claim by a program of this session (wip/), out of the translation's own print: Lean checks it
import Derived.Test.YtcgihjpnemnkeaaPExtentRunsx0
import Derived.Test.YtcgihjpnemnkeaaPExtentRunsx6
import Derived.Test.YtcgihjpnemnkeaaPExtentRunsx7
import Derived.Test.YtcgihjpnemnkeaaPExtentRunsx8
import Derived.Test.YtcgihjpnemnkeaaPExtentRunsx10
namespace Go.Proofs.Ytcgihjpnemnkeaa.PExtentRuns
open Go.RowKit Go.Proofs.YtcgihjpnemnkeaaW.PrintWords Go.Proofs.YtcgihjpnemnkeaaW.PrintLast Go.Proofs.YtcgihjpnemnkeaaW.PrintMore
attribute [local go_sem] max2_int min2_int max_two min_two max_three min_three max_four min_four   -- for this text's walks alone
set_option linter.unusedVariables false
set_option linter.unusedSimpArgs false

/-! ### tegulalaw32_ExtentRuns: function 10 -/
def tegulalaw32_ExtentRuns.l0 : Nat → List (S33) → List (S33) → List (S33) → Int → Option (Bool)
 | 0, _, _, _, _ => none
 | k + 1, x0, x3, x4, x5 => if x5 ≥ 0 then (if 0 ≤ x5 then (if x5 < (x0.length : Int) then (if x4.length < 5864062014805 then (tegulalaw32_ExtentRuns.l0 k x0 x3 (x4 ++ [(⟨(rd_T33 x0 x5).f0, (rd_T33 x0 x5).f1, (rd_T33 x0 x5).f2⟩ : S33)]) (wrap64 (x5 - 1))) else (none)) else (none)) else (none)) else ((extent_Runs.f k x4).bind fun t252 => ((tegularef32_Same.f k x3 t252).bind fun t255 => (if t255 = true then ((extent_Runs.f k x3).bind fun t256 => ((tegularef32_Same.f k x3 t256).bind fun t259 => (some t259))) else (some false))))
def tegulalaw32_ExtentRuns.f (k : Nat) (l0 : List (S33)) : Option (Bool) := (tegulalaw32_awake.f k).bind fun t237 => (if t237 = true then (if (l0.length : Int) > 40 then (some true) else ((tegulalaw32_copied.f l0).bind fun t238 => ((extent_Runs.f k t238).bind fun t241 => ((tegularef32_Runs.f k l0).bind fun t244 => ((tegularef32_Same.f k t241 t244).bind fun t247 => (if t247 = true then (tegulalaw32_ExtentRuns.l0 k l0 t241 ([] : List (S33)) (wrap64 ((l0.length : Int) - 1))) else (some false))))))) else (some false))
theorem tegulalaw32_ExtentRuns.mono_l : ∀ k, (∀ y0 y1 y2 y3, LeO (tegulalaw32_ExtentRuns.l0 k y0 y1 y2 y3) (tegulalaw32_ExtentRuns.l0 (k + 1) y0 y1 y2 y3))
 | 0 => fun _ _ _ _ r h => by simp [tegulalaw32_ExtentRuns.l0] at h
 | k + 1 => by
  have ih0 := tegulalaw32_ExtentRuns.mono_l k
  ·
   intro y0 y1 y2 y3
   unfold tegulalaw32_ExtentRuns.l0
   repeat' first
   | (with_reducible exact ih0 _ _ _ _)
   | (with_reducible exact extent_Runs.mono _ _)
   | (with_reducible exact tegulalaw32_awake.mono _)
   | (with_reducible exact tegularef32_Runs.mono _ _)
   | (with_reducible exact tegularef32_Same.mono _ _ _)
   | (with_reducible exact LeO.refl _)
   | (with_reducible exact LeO.none _)
   | (with_reducible refine LeO.ite ?_ ?_)
   | (with_reducible refine LeO.bind ?_ (fun _ => ?_))
   | exact ih0 _ _ _ _
   | exact extent_Runs.mono _ _
   | exact tegulalaw32_awake.mono _
   | exact tegularef32_Runs.mono _ _
   | exact tegularef32_Same.mono _ _ _
   | exact LeO.none _
   | refine LeO.ite ?_ ?_
   | refine LeO.bind ?_ (fun _ => ?_)
theorem tegulalaw32_ExtentRuns.mono : ∀ a0 k, LeO (tegulalaw32_ExtentRuns.f k a0) (tegulalaw32_ExtentRuns.f (k + 1) a0) := by
 intro a0 k
 have ih0 := tegulalaw32_ExtentRuns.mono_l k
 unfold tegulalaw32_ExtentRuns.f
 repeat' first
   | (with_reducible exact ih0 _ _ _ _)
   | (with_reducible exact extent_Runs.mono _ _)
   | (with_reducible exact tegulalaw32_awake.mono _)
   | (with_reducible exact tegularef32_Runs.mono _ _)
   | (with_reducible exact tegularef32_Same.mono _ _ _)
   | (with_reducible exact LeO.refl _)
   | (with_reducible exact LeO.none _)
   | (with_reducible refine LeO.ite ?_ ?_)
   | (with_reducible refine LeO.bind ?_ (fun _ => ?_))
   | exact ih0 _ _ _ _
   | exact extent_Runs.mono _ _
   | exact tegulalaw32_awake.mono _
   | exact tegularef32_Runs.mono _ _
   | exact tegularef32_Same.mono _ _ _
   | exact LeO.none _
   | refine LeO.ite ?_ ?_
   | refine LeO.bind ?_ (fun _ => ?_)
set_option maxHeartbeats 8000000 in
set_option maxRecDepth 100000 in
theorem tegulalaw32_ExtentRuns.calls (k : Nat) (A0 : Option Addr) (c0 : Nat) (l0 : List (S33)) (r : Bool) (w : World) (hr0 : Kd.C k33 w A0 l0.length l0) (hc0 : l0.length ≤ c0) (h : tegulalaw32_ExtentRuns.f k l0 = some r) :
  Calls Try.prog 10 #[.slice A0 l0.length c0] w fun e w' => e = .returned (.bool r) ∧ Below w.heap.size w w' := by
 have hu33 := Try.underlying33
 have HR0 := Aside0.mk hr0
 have HC0 := Aside0.mk hc0
 clear hr0 hc0
 have HB := Aside0.mk (Below.refl w.heap.size w)
 have H : ((tegulalaw32_awake.f k).bind fun t237 => (if t237 = true then (if (l0.length : Int) > 40 then (some true) else ((tegulalaw32_copied.f l0).bind fun t238 => ((extent_Runs.f k t238).bind fun t241 => ((tegularef32_Runs.f k l0).bind fun t244 => ((tegularef32_Same.f k t241 t244).bind fun t247 => (if t247 = true then (tegulalaw32_ExtentRuns.l0 k l0 t241 ([] : List (S33)) (wrap64 ((l0.length : Int) - 1))) else (some false))))))) else (some false))) = some r := h
 clear h
 replace H := Option.bind_eq_some_iff.mp H
 obtain ⟨t237, A20, H⟩ := H
 replace H : (if t237 = true then (if (l0.length : Int) > 40 then (some true) else ((tegulalaw32_copied.f l0).bind fun t238 => ((extent_Runs.f k t238).bind fun t241 => ((tegularef32_Runs.f k l0).bind fun t244 => ((tegularef32_Same.f k t241 t244).bind fun t247 => (if t247 = true then (tegulalaw32_ExtentRuns.l0 k l0 t241 ([] : List (S33)) (wrap64 ((l0.length : Int) - 1))) else (some false))))))) else (some false)) = some r := H
 have A2 := Aside0.mk A20
 clear A20
 by_cases c3 : t237 = true
 ·
  subst c3
  have H1 : (if (l0.length : Int) > 40 then (some true) else ((tegulalaw32_copied.f l0).bind fun t238 => ((extent_Runs.f k t238).bind fun t241 => ((tegularef32_Runs.f k l0).bind fun t244 => ((tegularef32_Same.f k t241 t244).bind fun t247 => (if t247 = true then (tegulalaw32_ExtentRuns.l0 k l0 t241 ([] : List (S33)) (wrap64 ((l0.length : Int) - 1))) else (some false))))))) = some r := by rw [if_pos rfl] at H; exact H
  clear H
  have H := H1
  clear H1
  by_cases c4 : (l0.length : Int) > 40
  ·
   rw [if_pos c4] at H
   have c4b0 := decide_eq_true c4
   have c4b1 : decide (40 < l0.length) = true := decide_eq_true (by omega)
   clear c4
   obtain rfl := Option.some.inj H
   go_enter Try.func10, Try.ntmps10
   go_wp2_with (first | ((with_reducible refine gate_callee (f := 11) rfl ?_); refine goesL_ (some 6) rfl rfl Try.func11 (by kernel_rfl) rfl #[] rfl (by (try simp only [List.map_toArray, List.map_cons, List.map_nil]); first | done | rfl | (simp only [List.length_drop, List.length_take]; rfl)) ?_; (with_reducible refine (tegulalaw32_awake.calls k  true _ A2.out).mono ?_); rintro e w5 ⟨rfl, hb⟩; refine ⟨_, rfl, ?_⟩; replace HB := Aside0.mk (below_step (bU HB.out) hb); (try clear hb)))
   go_ret
   exact ⟨by first | rfl | (simp [errW_none, errW_some] <;> rfl) | (simp [*, errW_none, errW_some] <;> rfl), bU HB.out⟩
  ·
   rw [if_neg c4] at H
   have c4b0 := decide_eq_false c4
   have c4b1 : decide (40 < l0.length) = false := decide_eq_false (by omega)
   clear c4
   replace H := Option.bind_eq_some_iff.mp H
   obtain ⟨t238, A60, H⟩ := H
   replace H : ((extent_Runs.f k t238).bind fun t241 => ((tegularef32_Runs.f k l0).bind fun t244 => ((tegularef32_Same.f k t241 t244).bind fun t247 => (if t247 = true then (tegulalaw32_ExtentRuns.l0 k l0 t241 ([] : List (S33)) (wrap64 ((l0.length : Int) - 1))) else (some false))))) = some r := H
   have A6 := Aside0.mk A60
   clear A60
   replace H := Option.bind_eq_some_iff.mp H
   obtain ⟨t241, A70, H⟩ := H
   replace H : ((tegularef32_Runs.f k l0).bind fun t244 => ((tegularef32_Same.f k t241 t244).bind fun t247 => (if t247 = true then (tegulalaw32_ExtentRuns.l0 k l0 t241 ([] : List (S33)) (wrap64 ((l0.length : Int) - 1))) else (some false)))) = some r := H
   have A7 := Aside0.mk A70
   clear A70
   replace H := Option.bind_eq_some_iff.mp H
   obtain ⟨t244, A80, H⟩ := H
   replace H : ((tegularef32_Same.f k t241 t244).bind fun t247 => (if t247 = true then (tegulalaw32_ExtentRuns.l0 k l0 t241 ([] : List (S33)) (wrap64 ((l0.length : Int) - 1))) else (some false))) = some r := H
   have A8 := Aside0.mk A80
   clear A80
   replace H := Option.bind_eq_some_iff.mp H
   obtain ⟨t247, A90, H⟩ := H
   replace H : (if t247 = true then (tegulalaw32_ExtentRuns.l0 k l0 t241 ([] : List (S33)) (wrap64 ((l0.length : Int) - 1))) else (some false)) = some r := H
   have A9 := Aside0.mk A90
   clear A90
   by_cases c10 : t247 = true
   ·
    subst c10
    have H1 : (tegulalaw32_ExtentRuns.l0 k l0 t241 ([] : List (S33)) (wrap64 ((l0.length : Int) - 1))) = some r := by rw [if_pos rfl] at H; exact H
    clear H
    have H := H1
    clear H1
    have H' := Aside0.mk H
    clear H
    go_enter Try.func10, Try.ntmps10
    go_wp2_with (first | ((with_reducible refine gate_callee (f := 11) rfl ?_); refine goesL_ (some 6) rfl rfl Try.func11 (by kernel_rfl) rfl #[] rfl (by (try simp only [List.map_toArray, List.map_cons, List.map_nil]); first | done | rfl | (simp only [List.length_drop, List.length_take]; rfl)) ?_; (with_reducible refine (tegulalaw32_awake.calls k  true _ A2.out).mono ?_); rintro e w11 ⟨rfl, hb⟩; refine ⟨_, rfl, ?_⟩; replace HB := Aside0.mk (below_step (bU HB.out) hb); (try clear hb)) | ((with_reducible refine gate_callee (f := 12) rfl ?_); refine goesL_ (some 12) rfl rfl Try.func12 (by kernel_rfl) rfl #[.slice A0 l0.length c0] rfl (by (try simp only [List.map_toArray, List.map_cons, List.map_nil]); first | done | rfl | (simp only [List.length_drop, List.length_take]; rfl)) ?_; (with_reducible refine (tegulalaw32_copied.calls _ _ l0 t238 _ ?side1 ?side2 A6.out).mono ?_); (case side1 => exact cU (Kd.C_below HR0.out HB.out)); (case side2 => exact HC0.out); rintro e w12 ⟨v239, rfl, ho0, hb⟩; refine ⟨_, rfl, ?_⟩; have HO240 := Aside0.mk (Kd.R_lower ho0 (below_size (bU HB.out))); replace HB := Aside0.mk (below_step (bU HB.out) hb); (try clear hb); (try clear ho0); obtain ⟨Ao13, co13, eo13⟩ := Kd.R_slice HO240.out; subst eo13) | ((with_reducible refine gate_callee (f := 27) rfl ?_); refine goesL_ (some 13) rfl rfl Try.func27 (by kernel_rfl) rfl #[.slice Ao13 t238.length co13] rfl (by (try simp only [List.map_toArray, List.map_cons, List.map_nil]); first | done | rfl | (simp only [List.length_drop, List.length_take]; rfl)) ?_; (with_reducible refine (extent_Runs.calls k _ _ t238 t241 _ ?side1 ?side2 A7.out).mono ?_); (case side1 => repeat (first | exact (Kd.R_reads' HO240.out).2.2 | (with_reducible refine Kd.C_alloc ?_ _) | (with_reducible refine Kd.C_drewN ?_ _) | (with_reducible refine Kd.C_drew ?_))); (case side2 => exact (Kd.R_reads' HO240.out).2.1); rintro e w14 ⟨v242, rfl, ho0, hb⟩; refine ⟨_, rfl, ?_⟩; have HO243 := Aside0.mk (Kd.R_lower (Kd.R_new' ho0 (Kd.R_lt (rU HO240.out))) (below_size (bU HB.out))); replace HO240 := Aside0.mk (Kd.R_elder' (rU HO240.out) (Kd.R_base ho0) hb); replace HB := Aside0.mk (below_step (bU HB.out) hb); (try clear hb); (try clear ho0)) | ((with_reducible refine gate_callee (f := 28) rfl ?_); refine goesL_ (some 16) rfl rfl Try.func28 (by kernel_rfl) rfl #[.slice A0 l0.length c0] rfl (by (try simp only [List.map_toArray, List.map_cons, List.map_nil]); first | done | rfl | (simp only [List.length_drop, List.length_take]; rfl)) ?_; (with_reducible refine (tegularef32_Runs.calls k _ _ l0 t244 _ ?side1 ?side2 A8.out).mono ?_); (case side1 => exact cU (Kd.C_below HR0.out HB.out)); (case side2 => exact HC0.out); rintro e w15 ⟨v245, rfl, ho0, hb⟩; refine ⟨_, rfl, ?_⟩; have HO246 := Aside0.mk (Kd.R_lower (Kd.R_new' (Kd.R_new' ho0 (Kd.R_lt (rU HO240.out))) (Kd.R_lt (rU HO243.out))) (below_size (bU HB.out))); replace HO240 := Aside0.mk (Kd.R_elder' (rU HO240.out) (Kd.R_base ho0) hb); replace HO243 := Aside0.mk (Kd.R_elder' (rU HO243.out) (Kd.R_base ho0) hb); replace HB := Aside0.mk (below_step (bU HB.out) hb); (try clear hb); (try clear ho0); obtain ⟨Ao16, co16, eo16⟩ := Kd.R_slice HO243.out; subst eo16; obtain ⟨Ao17, co17, eo17⟩ := Kd.R_slice HO246.out; subst eo17) | ((with_reducible refine gate_callee (f := 15) rfl ?_); refine goesL_ (some 17) rfl rfl Try.func15 (by kernel_rfl) rfl #[.slice Ao16 t241.length co16, .slice Ao17 t244.length co17] rfl (by (try simp only [List.map_toArray, List.map_cons, List.map_nil]); first | done | rfl | (simp only [List.length_drop, List.length_take]; rfl)) ?_; (with_reducible refine (tegularef32_Same.calls k _ _ t241 _ _ t244 true _ ?side1 ?side2 ?side3 ?side4 A9.out).mono ?_); (case side1 => repeat (first | exact (Kd.R_reads' HO243.out).2.2 | (with_reducible refine Kd.C_alloc ?_ _) | (with_reducible refine Kd.C_drewN ?_ _) | (with_reducible refine Kd.C_drew ?_))); (case side2 => exact (Kd.R_reads' HO243.out).2.1); (case side3 => repeat (first | exact (Kd.R_reads' HO246.out).2.2 | (with_reducible refine Kd.C_alloc ?_ _) | (with_reducible refine Kd.C_drewN ?_ _) | (with_reducible refine Kd.C_drew ?_))); (case side4 => exact (Kd.R_reads' HO246.out).2.1); rintro e w' ⟨rfl, ⟨nd, rfl⟩⟩; refine ⟨_, rfl, ?_⟩))
    go_loopg [4, 5] k (fun kq v4 v5 w' => ∃ (x4_1 : List (S33)) (x5_1 : Int), v5 = .int .i64 x5_1 ∧ Aside0 (tegulalaw32_ExtentRuns.l0 kq l0 t241 x4_1 x5_1 = some r) ∧ Aside0 (kq ≤ k) ∧ Aside0 (Kd.R k33 33 w' w.heap.size (fun k_ => some k_ ≠ (v4 : Value).ownBlock) (.slice Ao16 t241.length co16) t241) ∧ Aside0 (Kd.R k33 33 w' w.heap.size (fun k_ => some k_ ≠ ((.slice Ao16 t241.length co16) : Value).ownBlock) v4 x4_1) ∧ Aside0 (Below w.heap.size w w'))
    case atStart => exact ⟨(([] : List (S33))), (wrap64 ((l0.length : Int) - 1)), (by first | rfl | (simp; done) | (simp [*]; done)), H', ⟨Nat.le_refl _⟩, ⟨by (with_reducible repeat (first | apply Kd.R_alloc | apply Kd.R_drewN | apply Kd.R_drew)); exact Kd.R_mono HO243.out (fun _ hk => (by simp [Value.ownBlock]))⟩, ⟨by first | exact Kd.R_nil _ _ _ _ _ | exact Kd.N_nil _ _ _ _ _ | exact Kd.V_nil _ _ _ _ _ | exact Kd.Q_nil _ _ _ _ _ | exact Kd.S_nil _ _ _ _ _⟩, ⟨bU HB.out⟩⟩
    case round =>
     clear H'
     try clear c1
     try clear c2
     try clear p2
     try clear c3
     try clear c4
     try clear c4b0
     try clear c4b1
     try clear p6
     try clear c10
     try clear c11
     try clear c12
     try clear c15
     obtain ⟨x4_1, x5_1, rfl, HA, HK1, HO_3, HO_4, HB⟩ := hrel
     cases gk with
     | zero => exact absurd HA.out (by simp [tegulalaw32_ExtentRuns.l0])
     | succ k1 =>
      have H := HA.out
      clear HA
      simp only [tegulalaw32_ExtentRuns.l0] at H
      by_cases c18 : x5_1 ≥ 0
      ·
       rw [if_pos c18] at H
       have c18b0 := decide_eq_true c18
       clear c18
       by_cases c19 : 0 ≤ x5_1
       ·
        rw [if_pos c19] at H
        have c19b0 := decide_eq_true c19
        clear c19
        by_cases c20 : x5_1 < (l0.length : Int)
        ·
         rw [if_pos c20] at H
         have c20b0 := decide_eq_true c20
         clear c20
         by_cases c21 : x4_1.length < 5864062014805
         ·
          rw [if_pos c21] at H
          have LMc21 := Aside0.mk c21
          clear c21
          obtain ⟨y249, hy249⟩ : ∃ y_ : List (S33), y_ = (x4_1 ++ [(⟨(rd_T33 l0 x5_1).f0, (rd_T33 l0 x5_1).f1, (rd_T33 l0 x5_1).f2⟩ : S33)]) := ⟨_, rfl⟩
          replace H : (tegulalaw32_ExtentRuns.l0 k1 l0 t241 y249 (wrap64 (x5_1 - 1))) = some r := by first | (rw [hy249]; exact H) | exact H
          have Ny249 := Aside0.mk hy249
          clear hy249
          have H' := Aside0.mk H
          clear H
          have p248 : 0 ≤ (x5_1 : Int) := of_decide_eq_true (by first | (with_reducible assumption) | assumption)
          have q248 : x5_1 < (l0.length : Int) := of_decide_eq_true (by first | (with_reducible assumption) | assumption)
          obtain ⟨ad248, e248, hx248_0, hx248_1, hx248_2⟩ := at_T33 HR0.out x5_1 p248 q248
          cases e248
          replace hx248_0 := (HB.out.cell (World.block_lt_of_cell? w _ hx248_0)).trans hx248_0
          replace hx248_1 := (HB.out.cell (World.block_lt_of_cell? w _ hx248_1)).trans hx248_1
          replace hx248_2 := (HB.out.cell (World.block_lt_of_cell? w _ hx248_2)).trans hx248_2
          replace p248 := eq_true p248
          replace q248 := eq_true q248
          go_wp2_with (first | ((with_reducible refine gate_builtin (b := .append) (xs := #[.tmp 26, .tmp 31]) rfl ?_); at_builtin; refine Kd.R_append k33 (w0 := w) w.heap.size rfl (.tmp 26) (.tmp 31) 22 33 (.agg #[(.int .i64 0), (.int .i64 0), (.int .i64 0)]) 24 rfl Try.underlying22 info33 rfl (by decide) (by omega) u4 x4_1 (⟨(rd_T33 l0 x5_1).f0, (rd_T33 l0 x5_1).f1, (rd_T33 l0 x5_1).f2⟩ : S33) [.int .i64 ((rd_T33 l0 x5_1).f0), .int .i64 ((rd_T33 l0 x5_1).f1), .int .i64 ((rd_T33 l0 x5_1).f2)] (fun k_ => some k_ ≠ (.slice Ao16 t241.length co16 : Value).ownBlock) (fun _ => False) rfl rfl ?aP (fun _ hk => hk.elim) ?aF ?aO ?aB ?aS ?aL ?_; (case aP => exact k33_mkM _ _ _ (⟨(rd_T33 l0 x5_1).f0, (rd_T33 l0 x5_1).f1, (rd_T33 l0 x5_1).f2⟩ : S33)); (case aB => exact (bU HB.out)); (case aF => exact (fun k_ hk => Kd.fresh' (Kd.R_lt (rU HO_3.out)) k_ hk)); (case aO => exact (rU HO_4.out)); (case aS => exact (below_size (bU HB.out))); (case aL => have := LMc21.out; omega); intro v250 w22 ho hb hg hat; rw [← Ny249.out] at ho; have n0_ := Aside0.mk (Kd.R_after (ok := (fun _ => True)) (rU (Kd.R_mono HO_3.out (fun _ hk => ⟨trivial, hk⟩))) hg hat); have n1_ := Aside0.mk (hb); have n2_ := Aside0.mk (ho); clear HO_3; clear HB; clear HO_4; have HO_3 := n0_; have HB := n1_; have HO251 := n2_; clear n0_ n1_ n2_; clear ho hb hg hat))
          go_roundg k1
          case measure => have := HK1.out; omega
          case rel => exact ⟨(y249), (wrap64 (x5_1 - 1)), (by first | rfl | (simp; done) | (simp [*]; done)), H', ⟨by have := HK1.out; omega⟩, ⟨by (with_reducible repeat (first | apply Kd.R_alloc | apply Kd.R_drewN | apply Kd.R_drew)); exact Kd.R_mono HO_3.out (fun _ hk => hk.2)⟩, ⟨rU HO251.out⟩, ⟨bU HB.out⟩⟩
         ·
          rw [if_neg c21] at H
          exact absurd H (by simp)
        ·
         rw [if_neg c20] at H
         exact absurd H (by simp)
       ·
        rw [if_neg c19] at H
        exact absurd H (by simp)
      ·
       rw [if_neg c18] at H
       have c18b0 := decide_eq_false c18
       clear c18
       replace H := Option.bind_eq_some_iff.mp H
       obtain ⟨t252, A230, H⟩ := H
       replace H : ((tegularef32_Same.f k1 t241 t252).bind fun t255 => (if t255 = true then ((extent_Runs.f k1 t241).bind fun t256 => ((tegularef32_Same.f k1 t241 t256).bind fun t259 => (some t259))) else (some false))) = some r := H
       have A23 := Aside0.mk A230
       clear A230
       replace H := Option.bind_eq_some_iff.mp H
       obtain ⟨t255, A240, H⟩ := H
       replace H : (if t255 = true then ((extent_Runs.f k1 t241).bind fun t256 => ((tegularef32_Same.f k1 t241 t256).bind fun t259 => (some t259))) else (some false)) = some r := H
       have A24 := Aside0.mk A240
       clear A240
       by_cases c25 : t255 = true
       ·
        subst c25
        have H1 : ((extent_Runs.f k1 t241).bind fun t256 => ((tegularef32_Same.f k1 t241 t256).bind fun t259 => (some t259))) = some r := by rw [if_pos rfl] at H; exact H
        clear H
        have H := H1
        clear H1
        replace H := Option.bind_eq_some_iff.mp H
        obtain ⟨t256, A260, H⟩ := H
        replace H : ((tegularef32_Same.f k1 t241 t256).bind fun t259 => (some t259)) = some r := H
        have A26 := Aside0.mk A260
        clear A260
        replace H := Option.bind_eq_some_iff.mp H
        obtain ⟨t259, A270, H⟩ := H
        replace H : (some t259) = some r := H
        have A27 := Aside0.mk A270
        clear A270
        obtain rfl := Option.some.inj H
        obtain ⟨Ao28, co28, eo28⟩ := Kd.R_slice HO_4.out
        subst eo28
        go_wp2_with (first | ((with_reducible refine gate_callee (f := 27) rfl ?_); refine goesL_ (some 35) rfl rfl Try.func27 (by kernel_rfl) rfl #[.slice Ao28 x4_1.length co28] rfl (by (try simp only [List.map_toArray, List.map_cons, List.map_nil]); first | done | rfl | (simp only [List.length_drop, List.length_take]; rfl)) ?_; (with_reducible refine (extent_Runs.calls k1 _ _ x4_1 t252 _ ?side1 ?side2 A23.out).mono ?_); (case side1 => repeat (first | exact (Kd.R_reads' HO_4.out).2.2 | (with_reducible refine Kd.C_alloc ?_ _) | (with_reducible refine Kd.C_drewN ?_ _) | (with_reducible refine Kd.C_drew ?_))); (case side2 => exact (Kd.R_reads' HO_4.out).2.1); rintro e w29 ⟨v253, rfl, ho0, hb⟩; refine ⟨_, rfl, ?_⟩; have HO254 := Aside0.mk (Kd.R_lower (Kd.R_new' (Kd.R_new' ho0 (Kd.R_lt (rU HO_3.out))) (Kd.R_lt (rU HO_4.out))) (below_size (bU HB.out))); replace HO_3 := Aside0.mk (Kd.R_elder' (rU HO_3.out) (Kd.R_base ho0) hb); replace HO_4 := Aside0.mk (Kd.R_elder' (rU HO_4.out) (Kd.R_base ho0) hb); replace HB := Aside0.mk (below_step (bU HB.out) hb); (try clear hb); (try clear ho0); obtain ⟨Ao30, co30, eo30⟩ := Kd.R_slice HO254.out; subst eo30) | ((with_reducible refine gate_callee (f := 15) rfl ?_); refine goesL_ (some 36) rfl rfl Try.func15 (by kernel_rfl) rfl #[.slice Ao16 t241.length co16, .slice Ao30 t252.length co30] rfl (by (try simp only [List.map_toArray, List.map_cons, List.map_nil]); first | done | rfl | (simp only [List.length_drop, List.length_take]; rfl)) ?_; (with_reducible refine (tegularef32_Same.calls k1 _ _ t241 _ _ t252 true _ ?side1 ?side2 ?side3 ?side4 A24.out).mono ?_); (case side1 => repeat (first | exact (Kd.R_reads' HO_3.out).2.2 | (with_reducible refine Kd.C_alloc ?_ _) | (with_reducible refine Kd.C_drewN ?_ _) | (with_reducible refine Kd.C_drew ?_))); (case side2 => exact (Kd.R_reads' HO_3.out).2.1); (case side3 => repeat (first | exact (Kd.R_reads' HO254.out).2.2 | (with_reducible refine Kd.C_alloc ?_ _) | (with_reducible refine Kd.C_drewN ?_ _) | (with_reducible refine Kd.C_drew ?_))); (case side4 => exact (Kd.R_reads' HO254.out).2.1); rintro e w' ⟨rfl, ⟨nd, rfl⟩⟩; refine ⟨_, rfl, ?_⟩) | (go_at_call 27; (with_reducible refine (extent_Runs.calls k1 _ _ t241 t256 _ ?side1 ?side2 A26.out).mono ?_); (case side1 => repeat (first | exact (Kd.R_reads' HO_3.out).2.2 | (with_reducible refine Kd.C_alloc ?_ _) | (with_reducible refine Kd.C_drewN ?_ _) | (with_reducible refine Kd.C_drew ?_))); (case side2 => exact (Kd.R_reads' HO_3.out).2.1); rintro e w31 ⟨v257, rfl, ho0, hb⟩; have HO258 := Aside0.mk (Kd.R_lower (Kd.R_new' (Kd.R_new' (Kd.R_new' ho0 (Kd.R_lt (rU HO_3.out))) (Kd.R_lt (rU HO_4.out))) (Kd.R_lt (rU HO254.out))) (below_size (bU HB.out))); replace HO_3 := Aside0.mk (Kd.R_elder' (rU HO_3.out) (Kd.R_base ho0) hb); replace HO_4 := Aside0.mk (Kd.R_elder' (rU HO_4.out) (Kd.R_base ho0) hb); replace HO254 := Aside0.mk (Kd.R_elder' (rU HO254.out) (Kd.R_base ho0) hb); replace HB := Aside0.mk (below_step (bU HB.out) hb); (try clear hb); (try clear ho0); obtain ⟨Ao32, co32, eo32⟩ := Kd.R_slice HO258.out; subst eo32) | (go_at_call 15; (with_reducible refine (tegularef32_Same.calls k1 _ _ t241 _ _ t256 t259 _ ?side1 ?side2 ?side3 ?side4 A27.out).mono ?_); (case side1 => repeat (first | exact (Kd.R_reads' HO_3.out).2.2 | (with_reducible refine Kd.C_alloc ?_ _) | (with_reducible refine Kd.C_drewN ?_ _) | (with_reducible refine Kd.C_drew ?_))); (case side2 => exact (Kd.R_reads' HO_3.out).2.1); (case side3 => repeat (first | exact (Kd.R_reads' HO258.out).2.2 | (with_reducible refine Kd.C_alloc ?_ _) | (with_reducible refine Kd.C_drewN ?_ _) | (with_reducible refine Kd.C_drew ?_))); (case side4 => exact (Kd.R_reads' HO258.out).2.1); rintro e w' ⟨rfl, ⟨nd, rfl⟩⟩))
        go_ret
        exact ⟨by first | rfl | (simp [errW_none, errW_some] <;> rfl) | (simp [*, errW_none, errW_some] <;> rfl), bU HB.out⟩
       ·
        replace c25 := Bool.eq_false_iff.mpr c25
        subst c25
        have H1 : (some false) = some r := by rw [if_neg (show ¬ (false = true) by decide)] at H; exact H
        clear H
        have H := H1
        clear H1
        obtain rfl := Option.some.inj H
        obtain ⟨Ao33, co33, eo33⟩ := Kd.R_slice HO_4.out
        subst eo33
        go_wp2_with (first | ((with_reducible refine gate_callee (f := 27) rfl ?_); refine goesL_ (some 35) rfl rfl Try.func27 (by kernel_rfl) rfl #[.slice Ao33 x4_1.length co33] rfl (by (try simp only [List.map_toArray, List.map_cons, List.map_nil]); first | done | rfl | (simp only [List.length_drop, List.length_take]; rfl)) ?_; (with_reducible refine (extent_Runs.calls k1 _ _ x4_1 t252 _ ?side1 ?side2 A23.out).mono ?_); (case side1 => repeat (first | exact (Kd.R_reads' HO_4.out).2.2 | (with_reducible refine Kd.C_alloc ?_ _) | (with_reducible refine Kd.C_drewN ?_ _) | (with_reducible refine Kd.C_drew ?_))); (case side2 => exact (Kd.R_reads' HO_4.out).2.1); rintro e w34 ⟨v253, rfl, ho0, hb⟩; refine ⟨_, rfl, ?_⟩; have HO254 := Aside0.mk (Kd.R_lower (Kd.R_new' (Kd.R_new' ho0 (Kd.R_lt (rU HO_3.out))) (Kd.R_lt (rU HO_4.out))) (below_size (bU HB.out))); replace HO_3 := Aside0.mk (Kd.R_elder' (rU HO_3.out) (Kd.R_base ho0) hb); replace HO_4 := Aside0.mk (Kd.R_elder' (rU HO_4.out) (Kd.R_base ho0) hb); replace HB := Aside0.mk (below_step (bU HB.out) hb); (try clear hb); (try clear ho0); obtain ⟨Ao35, co35, eo35⟩ := Kd.R_slice HO254.out; subst eo35) | ((with_reducible refine gate_callee (f := 15) rfl ?_); refine goesL_ (some 36) rfl rfl Try.func15 (by kernel_rfl) rfl #[.slice Ao16 t241.length co16, .slice Ao35 t252.length co35] rfl (by (try simp only [List.map_toArray, List.map_cons, List.map_nil]); first | done | rfl | (simp only [List.length_drop, List.length_take]; rfl)) ?_; (with_reducible refine (tegularef32_Same.calls k1 _ _ t241 _ _ t252 false _ ?side1 ?side2 ?side3 ?side4 A24.out).mono ?_); (case side1 => repeat (first | exact (Kd.R_reads' HO_3.out).2.2 | (with_reducible refine Kd.C_alloc ?_ _) | (with_reducible refine Kd.C_drewN ?_ _) | (with_reducible refine Kd.C_drew ?_))); (case side2 => exact (Kd.R_reads' HO_3.out).2.1); (case side3 => repeat (first | exact (Kd.R_reads' HO254.out).2.2 | (with_reducible refine Kd.C_alloc ?_ _) | (with_reducible refine Kd.C_drewN ?_ _) | (with_reducible refine Kd.C_drew ?_))); (case side4 => exact (Kd.R_reads' HO254.out).2.1); rintro e w' ⟨rfl, ⟨nd, rfl⟩⟩; refine ⟨_, rfl, ?_⟩))
        go_ret
        exact ⟨by first | rfl | (simp [errW_none, errW_some] <;> rfl) | (simp [*, errW_none, errW_some] <;> rfl), bU HB.out⟩
   ·
    replace c10 := Bool.eq_false_iff.mpr c10
    subst c10
    have H1 : (some false) = some r := by rw [if_neg (show ¬ (false = true) by decide)] at H; exact H
    clear H
    have H := H1
    clear H1
    obtain rfl := Option.some.inj H
    go_enter Try.func10, Try.ntmps10
    go_wp2_with (first | ((with_reducible refine gate_callee (f := 11) rfl ?_); refine goesL_ (some 6) rfl rfl Try.func11 (by kernel_rfl) rfl #[] rfl (by (try simp only [List.map_toArray, List.map_cons, List.map_nil]); first | done | rfl | (simp only [List.length_drop, List.length_take]; rfl)) ?_; (with_reducible refine (tegulalaw32_awake.calls k  true _ A2.out).mono ?_); rintro e w36 ⟨rfl, hb⟩; refine ⟨_, rfl, ?_⟩; replace HB := Aside0.mk (below_step (bU HB.out) hb); (try clear hb)) | ((with_reducible refine gate_callee (f := 12) rfl ?_); refine goesL_ (some 12) rfl rfl Try.func12 (by kernel_rfl) rfl #[.slice A0 l0.length c0] rfl (by (try simp only [List.map_toArray, List.map_cons, List.map_nil]); first | done | rfl | (simp only [List.length_drop, List.length_take]; rfl)) ?_; (with_reducible refine (tegulalaw32_copied.calls _ _ l0 t238 _ ?side1 ?side2 A6.out).mono ?_); (case side1 => exact cU (Kd.C_below HR0.out HB.out)); (case side2 => exact HC0.out); rintro e w37 ⟨v239, rfl, ho0, hb⟩; refine ⟨_, rfl, ?_⟩; have HO240 := Aside0.mk (Kd.R_lower ho0 (below_size (bU HB.out))); replace HB := Aside0.mk (below_step (bU HB.out) hb); (try clear hb); (try clear ho0); obtain ⟨Ao38, co38, eo38⟩ := Kd.R_slice HO240.out; subst eo38) | ((with_reducible refine gate_callee (f := 27) rfl ?_); refine goesL_ (some 13) rfl rfl Try.func27 (by kernel_rfl) rfl #[.slice Ao38 t238.length co38] rfl (by (try simp only [List.map_toArray, List.map_cons, List.map_nil]); first | done | rfl | (simp only [List.length_drop, List.length_take]; rfl)) ?_; (with_reducible refine (extent_Runs.calls k _ _ t238 t241 _ ?side1 ?side2 A7.out).mono ?_); (case side1 => repeat (first | exact (Kd.R_reads' HO240.out).2.2 | (with_reducible refine Kd.C_alloc ?_ _) | (with_reducible refine Kd.C_drewN ?_ _) | (with_reducible refine Kd.C_drew ?_))); (case side2 => exact (Kd.R_reads' HO240.out).2.1); rintro e w39 ⟨v242, rfl, ho0, hb⟩; refine ⟨_, rfl, ?_⟩; have HO243 := Aside0.mk (Kd.R_lower (Kd.R_new' ho0 (Kd.R_lt (rU HO240.out))) (below_size (bU HB.out))); replace HO240 := Aside0.mk (Kd.R_elder' (rU HO240.out) (Kd.R_base ho0) hb); replace HB := Aside0.mk (below_step (bU HB.out) hb); (try clear hb); (try clear ho0)) | ((with_reducible refine gate_callee (f := 28) rfl ?_); refine goesL_ (some 16) rfl rfl Try.func28 (by kernel_rfl) rfl #[.slice A0 l0.length c0] rfl (by (try simp only [List.map_toArray, List.map_cons, List.map_nil]); first | done | rfl | (simp only [List.length_drop, List.length_take]; rfl)) ?_; (with_reducible refine (tegularef32_Runs.calls k _ _ l0 t244 _ ?side1 ?side2 A8.out).mono ?_); (case side1 => exact cU (Kd.C_below HR0.out HB.out)); (case side2 => exact HC0.out); rintro e w40 ⟨v245, rfl, ho0, hb⟩; refine ⟨_, rfl, ?_⟩; have HO246 := Aside0.mk (Kd.R_lower (Kd.R_new' (Kd.R_new' ho0 (Kd.R_lt (rU HO240.out))) (Kd.R_lt (rU HO243.out))) (below_size (bU HB.out))); replace HO240 := Aside0.mk (Kd.R_elder' (rU HO240.out) (Kd.R_base ho0) hb); replace HO243 := Aside0.mk (Kd.R_elder' (rU HO243.out) (Kd.R_base ho0) hb); replace HB := Aside0.mk (below_step (bU HB.out) hb); (try clear hb); (try clear ho0); obtain ⟨Ao41, co41, eo41⟩ := Kd.R_slice HO243.out; subst eo41; obtain ⟨Ao42, co42, eo42⟩ := Kd.R_slice HO246.out; subst eo42) | ((with_reducible refine gate_callee (f := 15) rfl ?_); refine goesL_ (some 17) rfl rfl Try.func15 (by kernel_rfl) rfl #[.slice Ao41 t241.length co41, .slice Ao42 t244.length co42] rfl (by (try simp only [List.map_toArray, List.map_cons, List.map_nil]); first | done | rfl | (simp only [List.length_drop, List.length_take]; rfl)) ?_; (with_reducible refine (tegularef32_Same.calls k _ _ t241 _ _ t244 false _ ?side1 ?side2 ?side3 ?side4 A9.out).mono ?_); (case side1 => repeat (first | exact (Kd.R_reads' HO243.out).2.2 | (with_reducible refine Kd.C_alloc ?_ _) | (with_reducible refine Kd.C_drewN ?_ _) | (with_reducible refine Kd.C_drew ?_))); (case side2 => exact (Kd.R_reads' HO243.out).2.1); (case side3 => repeat (first | exact (Kd.R_reads' HO246.out).2.2 | (with_reducible refine Kd.C_alloc ?_ _) | (with_reducible refine Kd.C_drewN ?_ _) | (with_reducible refine Kd.C_drew ?_))); (case side4 => exact (Kd.R_reads' HO246.out).2.1); rintro e w' ⟨rfl, ⟨nd, rfl⟩⟩; refine ⟨_, rfl, ?_⟩))
    go_ret
    exact ⟨by first | rfl | (simp [errW_none, errW_some] <;> rfl) | (simp [*, errW_none, errW_some] <;> rfl), bU HB.out⟩
 ·
  replace c3 := Bool.eq_false_iff.mpr c3
  subst c3
  have H1 : (some false) = some r := by rw [if_neg (show ¬ (false = true) by decide)] at H; exact H
  clear H
  have H := H1
  clear H1
  obtain rfl := Option.some.inj H
  go_enter Try.func10, Try.ntmps10
  go_wp2_with (first | ((with_reducible refine gate_callee (f := 11) rfl ?_); refine goesL_ (some 6) rfl rfl Try.func11 (by kernel_rfl) rfl #[] rfl (by (try simp only [List.map_toArray, List.map_cons, List.map_nil]); first | done | rfl | (simp only [List.length_drop, List.length_take]; rfl)) ?_; (with_reducible refine (tegulalaw32_awake.calls k  false _ A2.out).mono ?_); rintro e w43 ⟨rfl, hb⟩; refine ⟨_, rfl, ?_⟩; replace HB := Aside0.mk (below_step (bU HB.out) hb); (try clear hb)))
  go_ret
  exact ⟨by first | rfl | (simp [errW_none, errW_some] <;> rfl) | (simp [*, errW_none, errW_some] <;> rfl), bU HB.out⟩

end Go.Proofs.Ytcgihjpnemnkeaa.PExtentRuns
