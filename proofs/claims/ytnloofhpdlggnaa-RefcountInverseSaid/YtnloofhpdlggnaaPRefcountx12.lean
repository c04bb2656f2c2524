-- Written for this claim by a program of this session (wip/), out of the translation's own print: Lean checks it
import Derived.Test.YtnloofhpdlggnaaPRefcountx0
import Derived.Test.YtnloofhpdlggnaaPRefcountx2
import Derived.Test.YtnloofhpdlggnaaPRefcountx5
import Derived.Test.YtnloofhpdlggnaaPRefcountx8
import Derived.Test.YtnloofhpdlggnaaPRefcountx11
namespace Go.Proofs.Ytnloofhpdlggnaa.PRefcount
open Go.RowKit Go.Proofs.YtnloofhpdlggnaaW.PrintWords Go.Proofs.YtnloofhpdlggnaaW.PrintLast Go.Proofs.YtnloofhpdlggnaaW.PrintMore
attribute [local go_sem] max2_int min2_int max_two min_two max_three min_three max_four min_four   -- for this text's walks alone
set_option linter.unusedVariables false
set_option linter.unusedSimpArgs false

/-! ### tegularef34_Counts_Drop: function 27 -/
def tegularef34_Counts_Drop.l0 : Nat → List Int → List Int → List Bool → Int → Option (List Int × (List (S41)) × Int)
 | 0, _, _, _, _ => none
 | k + 1, x0, x7, x8, x9 => if x9 < (x0.length : Int) then (if 0 ≤ x9 then (if x9 < (x7.length : Int) then (if (rd x7 x9) < 0 then (some (([] : List Int), ([] : List (S41)), 8)) else (if (rd x7 x9) = 0 then (if x9 < (x8.length : Int) then (tegularef34_Counts_Drop.l0 k x0 x7 (x8.set (x9 : Int).toNat (decide ((rd x0 x9) > 0))) (wrap64 (x9 + 1))) else (none)) else (if x9 < (x8.length : Int) then (tegularef34_Counts_Drop.l0 k x0 x7 (x8.set (x9 : Int).toNat false) (wrap64 (x9 + 1))) else (none)))) else (none)) else (none)) else ((tegularef34_runs.f k x8).bind fun t312 => (some (x7, t312, 0)))
def tegularef34_Counts_Drop.f (k : Nat) (l0 : List Int) (l1 : List (S41)) : Option (List Int × (List (S41)) × Int) := (tegularef34_Counts_permitted.f k l0 l1).bind fun t300 => (if t300 = true then ((tegularef34_Counts_changed.f k l0 l1 (-1)).bind fun t301 => (if 0 ≤ (l0.length : Int) then (if ((l0.length : Int) : Int).toNat ≤ 281474976710656 then (tegularef34_Counts_Drop.l0 k l0 t301 (List.replicate ((l0.length : Int) : Int).toNat false) 0) else (none)) else (none))) else (some (([] : List Int), ([] : List (S41)), 2)))
theorem tegularef34_Counts_Drop.mono_l : ∀ k, (∀ y0 y1 y2 y3, LeO (tegularef34_Counts_Drop.l0 k y0 y1 y2 y3) (tegularef34_Counts_Drop.l0 (k + 1) y0 y1 y2 y3))
 | 0 => fun _ _ _ _ r h => by simp [tegularef34_Counts_Drop.l0] at h
 | k + 1 => by
  have ih0 := tegularef34_Counts_Drop.mono_l k
  ·
   intro y0 y1 y2 y3
   unfold tegularef34_Counts_Drop.l0
   repeat' first
   | (with_reducible exact ih0 _ _ _ _)
   | (with_reducible exact tegularef34_Counts_changed.mono _ _ _ _)
   | (with_reducible exact tegularef34_Counts_permitted.mono _ _ _)
   | (with_reducible exact tegularef34_runs.mono _ _)
   | (with_reducible exact LeO.refl _)
   | (with_reducible exact LeO.none _)
   | (with_reducible refine LeO.ite ?_ ?_)
   | (with_reducible refine LeO.bind ?_ (fun _ => ?_))
   | exact ih0 _ _ _ _
   | exact tegularef34_Counts_changed.mono _ _ _ _
   | exact tegularef34_Counts_permitted.mono _ _ _
   | exact tegularef34_runs.mono _ _
   | exact LeO.none _
   | refine LeO.ite ?_ ?_
   | refine LeO.bind ?_ (fun _ => ?_)
theorem tegularef34_Counts_Drop.mono : ∀ a0 a1 k, LeO (tegularef34_Counts_Drop.f k a0 a1) (tegularef34_Counts_Drop.f (k + 1) a0 a1) := by
 intro a0 a1 k
 have ih0 := tegularef34_Counts_Drop.mono_l k
 unfold tegularef34_Counts_Drop.f
 repeat' first
   | (with_reducible exact ih0 _ _ _ _)
   | (with_reducible exact tegularef34_Counts_changed.mono _ _ _ _)
   | (with_reducible exact tegularef34_Counts_permitted.mono _ _ _)
   | (with_reducible exact tegularef34_runs.mono _ _)
   | (with_reducible exact LeO.refl _)
   | (with_reducible exact LeO.none _)
   | (with_reducible refine LeO.ite ?_ ?_)
   | (with_reducible refine LeO.bind ?_ (fun _ => ?_))
   | exact ih0 _ _ _ _
   | exact tegularef34_Counts_changed.mono _ _ _ _
   | exact tegularef34_Counts_permitted.mono _ _ _
   | exact tegularef34_runs.mono _ _
   | exact LeO.none _
   | refine LeO.ite ?_ ?_
   | refine LeO.bind ?_ (fun _ => ?_)
set_option maxHeartbeats 8000000 in
set_option maxRecDepth 100000 in
theorem tegularef34_Counts_Drop.calls (k : Nat) (A0 : Option Addr) (c0 : Nat) (l0 : List Int) (A1 : Option Addr) (c1 : Nat) (l1 : List (S41)) (r1 : List Int) (r2 : List (S41)) (r3 : Int) (w : World) (hr0 : Kd.C (Kd.int .i64) w A0 l0.length l0) (hc0 : l0.length ≤ c0) (hr1 : Kd.C k41 w A1 l1.length l1) (hc1 : l1.length ≤ c1) (h : tegularef34_Counts_Drop.f k l0 l1 = some (r1, r2, r3)) :
  Calls Try.prog 27 #[.slice A0 l0.length c0, .slice A1 l1.length c1] w fun e w' => ∃ v0_ v1_ : Value, e = .returned (.tuple #[v0_, v1_, .int .i64 r3]) ∧ Kd.R (Kd.int .i64) 3 w' w.heap.size (fun _ => True) v0_ r1 ∧ Kd.R k41 41 w' w.heap.size (fun _ => True) v1_ r2 ∧ Below w.heap.size w w' := by
 have HR0 := Aside0.mk hr0
 have HC0 := Aside0.mk hc0
 clear hr0 hc0
 have HR1 := Aside0.mk hr1
 have HC1 := Aside0.mk hc1
 clear hr1 hc1
 have HB := Aside0.mk (Below.refl w.heap.size w)
 have H : ((tegularef34_Counts_permitted.f k l0 l1).bind fun t300 => (if t300 = true then ((tegularef34_Counts_changed.f k l0 l1 (-1)).bind fun t301 => (if 0 ≤ (l0.length : Int) then (if ((l0.length : Int) : Int).toNat ≤ 281474976710656 then (tegularef34_Counts_Drop.l0 k l0 t301 (List.replicate ((l0.length : Int) : Int).toNat false) 0) else (none)) else (none))) else (some (([] : List Int), ([] : List (S41)), 2)))) = some (r1, r2, r3) := h
 clear h
 replace H := Option.bind_eq_some_iff.mp H
 obtain ⟨t300, A30, H⟩ := H
 replace H : (if t300 = true then ((tegularef34_Counts_changed.f k l0 l1 (-1)).bind fun t301 => (if 0 ≤ (l0.length : Int) then (if ((l0.length : Int) : Int).toNat ≤ 281474976710656 then (tegularef34_Counts_Drop.l0 k l0 t301 (List.replicate ((l0.length : Int) : Int).toNat false) 0) else (none)) else (none))) else (some (([] : List Int), ([] : List (S41)), 2))) = some (r1, r2, r3) := H
 have A3 := Aside0.mk A30
 clear A30
 by_cases c4 : t300 = true
 ·
  subst c4
  have H1 : ((tegularef34_Counts_changed.f k l0 l1 (-1)).bind fun t301 => (if 0 ≤ (l0.length : Int) then (if ((l0.length : Int) : Int).toNat ≤ 281474976710656 then (tegularef34_Counts_Drop.l0 k l0 t301 (List.replicate ((l0.length : Int) : Int).toNat false) 0) else (none)) else (none))) = some (r1, r2, r3) := by rw [if_pos rfl] at H; exact H
  clear H
  have H := H1
  clear H1
  replace H := Option.bind_eq_some_iff.mp H
  obtain ⟨t301, A50, H⟩ := H
  replace H : (if 0 ≤ (l0.length : Int) then (if ((l0.length : Int) : Int).toNat ≤ 281474976710656 then (tegularef34_Counts_Drop.l0 k l0 t301 (List.replicate ((l0.length : Int) : Int).toNat false) 0) else (none)) else (none)) = some (r1, r2, r3) := H
  have A5 := Aside0.mk A50
  clear A50
  by_cases c6 : 0 ≤ (l0.length : Int)
  ·
   rw [if_pos c6] at H
   have c6b0 := eq_true c6
   have c6b1 := decide_eq_true c6
   clear c6
   by_cases c7 : ((l0.length : Int) : Int).toNat ≤ 281474976710656
   ·
    rw [if_pos c7] at H
    have c7b0 := eq_true c7
    have c7b1 := decide_eq_true c7
    clear c7
    obtain ⟨y304, hy304⟩ : ∃ y_ : List Bool, y_ = (List.replicate ((l0.length : Int) : Int).toNat false) := ⟨_, rfl⟩
    replace H : (tegularef34_Counts_Drop.l0 k l0 t301 y304 0) = some (r1, r2, r3) := by first | (rw [hy304]; exact H) | exact H
    have Ny304 := Aside0.mk hy304
    clear hy304
    have H' := Aside0.mk H
    clear H
    go_enter Try.func27, Try.ntmps27
    go_wp2_with (first | ((with_reducible refine gate_callee (f := 30) rfl ?_); refine goesL_ (some 12) rfl rfl Try.func30 (by kernel_rfl) rfl #[.slice A0 l0.length c0, .slice A1 l1.length c1] rfl (by (try simp only [List.map_toArray, List.map_cons, List.map_nil]); first | done | rfl | (simp only [List.length_drop, List.length_take]; rfl)) ?_; (with_reducible refine (tegularef34_Counts_permitted.calls k _ _ l0 _ _ l1 true _ ?side1 ?side2 ?side3 ?side4 A3.out).mono ?_); (case side1 => repeat (first | exact HR0.out | (with_reducible refine Kd.C_alloc ?_ _) | (with_reducible refine Kd.C_drewN ?_ _) | (with_reducible refine Kd.C_drew ?_))); (case side2 => exact HC0.out); (case side3 => repeat (first | exact HR1.out | (with_reducible refine Kd.C_alloc ?_ _) | (with_reducible refine Kd.C_drewN ?_ _) | (with_reducible refine Kd.C_drew ?_))); (case side4 => exact HC1.out); rintro e w' ⟨rfl, ⟨nd, rfl⟩⟩; refine ⟨_, rfl, ?_⟩) | ((with_reducible refine gate_callee (f := 31) rfl ?_); refine goesL_ (some 16) rfl rfl Try.func31 (by kernel_rfl) rfl #[.slice A0 l0.length c0, .slice A1 l1.length c1, .int .i64 (-1)] rfl (by (try simp only [List.map_toArray, List.map_cons, List.map_nil]); first | done | rfl | (simp only [List.length_drop, List.length_take]; rfl)) ?_; (with_reducible refine (tegularef34_Counts_changed.calls k _ _ l0 _ _ l1 (-1) t301 _ ?side1 ?side2 ?side3 ?side4 A5.out).mono ?_); (case side1 => repeat (first | exact HR0.out | (with_reducible refine Kd.C_alloc ?_ _) | (with_reducible refine Kd.C_drewN ?_ _) | (with_reducible refine Kd.C_drew ?_))); (case side2 => exact HC0.out); (case side3 => repeat (first | exact HR1.out | (with_reducible refine Kd.C_alloc ?_ _) | (with_reducible refine Kd.C_drewN ?_ _) | (with_reducible refine Kd.C_drew ?_))); (case side4 => exact HC1.out); rintro e w8 ⟨v302, rfl, ho0, hb⟩; refine ⟨_, rfl, ?_⟩; have n0_ := Aside0.mk (Kd.R_lower ho0 (below_size (bU HB.out))); have n1_ := Aside0.mk (below_step (bU HB.out) hb); clear HB; have HO303 := n0_; have HB := n1_; clear n0_ n1_; (try clear hb); (try clear hb2); (try clear hk); (try clear hi); (try clear ho0)) | ((with_reducible refine gate_dst (N := 19) rfl ?_); refine Kd.R_make Kd.bool _ 4 rfl (N := 19) rfl 68 _ _ rfl (l0.length : Int) rfl rfl Try.underlying68 (.bool false) 1 info4 rfl (by decide) (by omega) false (ok := fun _ => True) (okp := fun _ => True) rfl (fun _ hk => hk) trivial (of_decide_eq_true (by first | (with_reducible assumption) | assumption)) (Nat.le_trans (Nat.mul_le_mul_right _ (of_decide_eq_true (by first | (with_reducible assumption) | assumption) : (l0.length : Int).toNat ≤ 281474976710656)) (by omega)) (Below.refl _ _) (Nat.le_refl _) ?_; intro v305 w9 ho10 hb hg_ hnew_; clear hg_ hnew_; (first | rw [← Ny304.out] at ho10 | (simp only [Int.reduceToNat] at ho10; rw [← Ny304.out] at ho10)); have n0_ := Aside0.mk (Kd.R_below (rU HO303.out) hb); have n1_ := Aside0.mk (Kd.R_lower ho10 (below_size (bU HB.out))); have n2_ := Aside0.mk (below_step (bU HB.out) hb); clear HO303; clear HB; have HO303 := n0_; have HO306 := n1_; have HB := n2_; clear n0_ n1_ n2_; clear hb ho10))
    go_loopg [9] k (fun kq v9 w' => ∃ (x8_1 : List Bool) (x9_1 : Int), v9 = .int .i64 x9_1 ∧ Aside0 (tegularef34_Counts_Drop.l0 kq l0 t301 x8_1 x9_1 = some (r1, r2, r3)) ∧ Aside0 (kq ≤ k) ∧ Aside0 (Kd.R (Kd.int .i64) 3 w' w.heap.size (fun _ => True) v302 t301) ∧ Aside0 (Kd.R Kd.bool 4 w' w.heap.size (fun _ => True) v305 x8_1) ∧ Aside0 (Below w.heap.size w w'))
    case atStart => exact ⟨(y304), (0), (by first | rfl | (simp; done) | (simp [*]; done)), H', ⟨Nat.le_refl _⟩, ⟨rU HO303.out⟩, ⟨rU HO306.out⟩, ⟨bU HB.out⟩⟩
    case round =>
     clear H'
     try clear c1
     try clear c2
     try clear p2
     try clear c3
     try clear c4
     try clear c6
     try clear c6b0
     try clear c6b1
     try clear c7
     try clear c7b0
     try clear c7b1
     obtain ⟨x8_1, x9_1, rfl, HA, HK1, HO_7, HO_8, HB⟩ := hrel
     cases gk with
     | zero => exact absurd HA.out (by simp [tegularef34_Counts_Drop.l0])
     | succ k1 =>
      have H := HA.out
      clear HA
      simp only [tegularef34_Counts_Drop.l0] at H
      by_cases c11 : x9_1 < (l0.length : Int)
      ·
       rw [if_pos c11] at H
       have c11b0 := decide_eq_true c11
       clear c11
       by_cases c12 : 0 ≤ x9_1
       ·
        rw [if_pos c12] at H
        have c12b0 := decide_eq_true c12
        clear c12
        by_cases c13 : x9_1 < (t301.length : Int)
        ·
         rw [if_pos c13] at H
         have c13b0 := decide_eq_true c13
         clear c13
         by_cases c14 : (rd t301 x9_1) < 0
         ·
          rw [if_pos c14] at H
          have c14b0 := decide_eq_true c14
          clear c14
          simp only [Option.some.injEq, Prod.mk.injEq] at H
          obtain ⟨rfl, rfl, rfl⟩ := H
          obtain ⟨Ao15, co15, eo15⟩ := Kd.R_slice HO_7.out
          subst eo15
          have p307 : 0 ≤ (x9_1 : Int) := of_decide_eq_true (by first | (with_reducible assumption) | assumption)
          have q307 : x9_1 < (t301.length : Int) := of_decide_eq_true (by first | (with_reducible assumption) | assumption)
          obtain ⟨ad307, e307, hx307_0⟩ := Kd.at_int (Kd.R_reads' HO_7.out).2.2 x9_1 p307 q307
          cases e307
          replace p307 := eq_true p307
          replace q307 := eq_true q307
          go_wp2
          go_ret3
          exact ⟨_, _, by first | rfl | (simp [errW_none, errW_some] <;> rfl) | (simp [*, errW_none, errW_some] <;> rfl), by first | exact Kd.R_nil _ _ _ _ _ | exact Kd.N_nil _ _ _ _ _ | exact Kd.V_nil _ _ _ _ _ | exact Kd.Q_nil _ _ _ _ _ | exact Kd.S_nil _ _ _ _ _, by first | exact Kd.R_nil _ _ _ _ _ | exact Kd.N_nil _ _ _ _ _ | exact Kd.V_nil _ _ _ _ _ | exact Kd.Q_nil _ _ _ _ _ | exact Kd.S_nil _ _ _ _ _, bU HB.out⟩
         ·
          rw [if_neg c14] at H
          have c14b0 := decide_eq_false c14
          clear c14
          by_cases c16 : (rd t301 x9_1) = 0
          ·
           rw [if_pos c16] at H
           have c16b0 : ((rd t301 x9_1) == 0) = true := beq_iff_eq.mpr c16
           have c16b1 : ((rd t301 x9_1) != 0) = false := bne_eq_false_iff_eq.mpr c16
           clear c16
           by_cases c17 : x9_1 < (x8_1.length : Int)
           ·
            rw [if_pos c17] at H
            have c17b0 := decide_eq_true c17
            clear c17
            obtain ⟨y310, hy310⟩ : ∃ y_ : List Bool, y_ = (x8_1.set (x9_1 : Int).toNat (decide ((rd l0 x9_1) > 0))) := ⟨_, rfl⟩
            replace H : (tegularef34_Counts_Drop.l0 k1 l0 t301 y310 (wrap64 (x9_1 + 1))) = some (r1, r2, r3) := by first | (rw [hy310]; exact H) | exact H
            have Ny310 := Aside0.mk hy310
            clear hy310
            have H' := Aside0.mk H
            clear H
            obtain ⟨Ao19, co19, eo19⟩ := Kd.R_slice HO_7.out
            subst eo19
            have p307 : 0 ≤ (x9_1 : Int) := of_decide_eq_true (by first | (with_reducible assumption) | assumption)
            have q307 : x9_1 < (t301.length : Int) := of_decide_eq_true (by first | (with_reducible assumption) | assumption)
            obtain ⟨ad307, e307, hx307_0⟩ := Kd.at_int (Kd.R_reads' HO_7.out).2.2 x9_1 p307 q307
            cases e307
            replace p307 := eq_true p307
            replace q307 := eq_true q307
            have p308 : 0 ≤ (x9_1 : Int) := of_decide_eq_true (by first | (with_reducible assumption) | assumption)
            have q308 : x9_1 < (t301.length : Int) := of_decide_eq_true (by first | (with_reducible assumption) | assumption)
            obtain ⟨ad308, e308, hx308_0⟩ := Kd.at_int (Kd.R_reads' HO_7.out).2.2 x9_1 p308 q308
            obtain rfl : ad307 = ad308 := (by injection e308)
            replace p308 := eq_true p308
            replace q308 := eq_true q308
            have p309 : 0 ≤ (x9_1 : Int) := of_decide_eq_true (by first | (with_reducible assumption) | assumption)
            have q309 : x9_1 < (l0.length : Int) := of_decide_eq_true (by first | (with_reducible assumption) | assumption)
            obtain ⟨ad309, e309, hx309_0⟩ := Kd.at_int HR0.out x9_1 p309 q309
            cases e309
            replace hx309_0 := (HB.out.cell (World.block_lt_of_cell? w _ hx309_0)).trans hx309_0
            replace p309 := eq_true p309
            replace q309 := eq_true q309
            have p18 : 0 ≤ (x9_1 : Int) := of_decide_eq_true (by first | (with_reducible assumption) | assumption)
            have q18 : (x9_1 : Int) < ((x8_1.length : Int) : Int) := of_decide_eq_true (by first | (with_reducible assumption) | assumption)
            obtain ⟨go18, co18, eo18, gb18, gl18, cl18, HG18⟩ := Kd.R_form HO_8.out (by omega)
            (first | cases eo18 | (injection eo18 with ea_ en_ ec_; (first | subst ea_ | (injection ea_ with ea_; subst ea_)); subst ec_; clear en_))
            have GB18 := Aside0.mk gb18
            have GG18 := Aside0.mk HG18
            clear gb18 gl18 HG18
            obtain ⟨hx18_0, hf18_0⟩ := Kd.R_celln false HO_8.out (x9_1 : Int) p18 q18
            replace p18 := eq_true p18
            replace q18 := eq_true q18
            have HP20 := Kd.R_putg HO_8.out (x9_1 : Int) (decide ((rd l0 x9_1) > 0))
            go_wp2_with (first | ((with_reducible refine gate_store (t := 4) (p := 45) rfl ?_); refine store_event (t := 4) (p := 45) (v := ?vo_w21) (w1 := (wr.setCell ⟨go18, (x9_1 : Int).toNat, none⟩ (.bool (decide ((rd l0 x9_1) > 0))))) ?hg ?ho ?hn ?hr ?_; (case ho => rfl); (case hg => rfl); (case hn => rfl); (case hr => first | (go_simp; done) | (go_simp; rfl)); intro w21 hw; have hg : wr.grownBy w21 (some go18) := (by rw [hw]; exact HP20.2); have hp_ : Kd.R Kd.bool 4 w21 w.heap.size (fun _ => True) (.slice (some ⟨go18, 0, none⟩) x8_1.length co18) y310 := (by rw [hw, Ny310.out]; exact HP20.1); clear HP20; have n0_ := Aside0.mk (Kd.R_over' (v := (.slice (some ⟨go18, 0, none⟩) x8_1.length co18)) (rU HO_7.out) (Kd.R_typed HO_8.out) (by decide) hg); have n1_ := Aside0.mk (hp_); have n2_ := Aside0.mk ((by rw [hw]; exact below_set (HB.out) GB18.out : Below w.heap.size w w21)); clear HO_7; clear HO_8; clear HB; have HO_7 := n0_; have HO_8 := n1_; have HB := n2_; clear n0_ n1_ n2_; clear hg hw hp_))
            go_roundg k1
            case measure => have := HK1.out; omega
            case rel => exact ⟨(y310), (wrap64 (x9_1 + 1)), (by first | rfl | (simp; done) | (simp [*]; done)), H', ⟨by have := HK1.out; omega⟩, ⟨rU HO_7.out⟩, ⟨rU HO_8.out⟩, ⟨bU HB.out⟩⟩
           ·
            rw [if_neg c17] at H
            exact absurd H (by simp)
          ·
           rw [if_neg c16] at H
           have c16b0 : ((rd t301 x9_1) == 0) = false := beq_eq_false_iff_ne.mpr c16
           have c16b1 : ((rd t301 x9_1) != 0) = true := bne_iff_ne.mpr c16
           by_cases c22 : x9_1 < (x8_1.length : Int)
           ·
            rw [if_pos c22] at H
            have c22b0 := decide_eq_true c22
            clear c22
            obtain ⟨y311, hy311⟩ : ∃ y_ : List Bool, y_ = (x8_1.set (x9_1 : Int).toNat false) := ⟨_, rfl⟩
            replace H : (tegularef34_Counts_Drop.l0 k1 l0 t301 y311 (wrap64 (x9_1 + 1))) = some (r1, r2, r3) := by first | (rw [hy311]; exact H) | exact H
            have Ny311 := Aside0.mk hy311
            clear hy311
            have H' := Aside0.mk H
            clear H
            obtain ⟨Ao24, co24, eo24⟩ := Kd.R_slice HO_7.out
            subst eo24
            have p307 : 0 ≤ (x9_1 : Int) := of_decide_eq_true (by first | (with_reducible assumption) | assumption)
            have q307 : x9_1 < (t301.length : Int) := of_decide_eq_true (by first | (with_reducible assumption) | assumption)
            obtain ⟨ad307, e307, hx307_0⟩ := Kd.at_int (Kd.R_reads' HO_7.out).2.2 x9_1 p307 q307
            cases e307
            replace p307 := eq_true p307
            replace q307 := eq_true q307
            have p308 : 0 ≤ (x9_1 : Int) := of_decide_eq_true (by first | (with_reducible assumption) | assumption)
            have q308 : x9_1 < (t301.length : Int) := of_decide_eq_true (by first | (with_reducible assumption) | assumption)
            obtain ⟨ad308, e308, hx308_0⟩ := Kd.at_int (Kd.R_reads' HO_7.out).2.2 x9_1 p308 q308
            obtain rfl : ad307 = ad308 := (by injection e308)
            replace p308 := eq_true p308
            replace q308 := eq_true q308
            have p23 : 0 ≤ (x9_1 : Int) := of_decide_eq_true (by first | (with_reducible assumption) | assumption)
            have q23 : (x9_1 : Int) < ((x8_1.length : Int) : Int) := of_decide_eq_true (by first | (with_reducible assumption) | assumption)
            obtain ⟨go23, co23, eo23, gb23, gl23, cl23, HG23⟩ := Kd.R_form HO_8.out (by omega)
            (first | cases eo23 | (injection eo23 with ea_ en_ ec_; (first | subst ea_ | (injection ea_ with ea_; subst ea_)); subst ec_; clear en_))
            have GB23 := Aside0.mk gb23
            have GG23 := Aside0.mk HG23
            clear gb23 gl23 HG23
            obtain ⟨hx23_0, hf23_0⟩ := Kd.R_celln false HO_8.out (x9_1 : Int) p23 q23
            replace p23 := eq_true p23
            replace q23 := eq_true q23
            have HP25 := Kd.R_putg HO_8.out (x9_1 : Int) false
            go_wp2_with (first | ((with_reducible refine gate_store (t := 4) (p := 45) rfl ?_); refine store_event (t := 4) (p := 45) (v := ?vo_w26) (w1 := (wr.setCell ⟨go23, (x9_1 : Int).toNat, none⟩ (.bool false))) ?hg ?ho ?hn ?hr ?_; (case ho => rfl); (case hg => rfl); (case hn => rfl); (case hr => first | (go_simp; done) | (go_simp; rfl)); intro w26 hw; have hg : wr.grownBy w26 (some go23) := (by rw [hw]; exact HP25.2); have hp_ : Kd.R Kd.bool 4 w26 w.heap.size (fun _ => True) (.slice (some ⟨go23, 0, none⟩) x8_1.length co23) y311 := (by rw [hw, Ny311.out]; exact HP25.1); clear HP25; have n0_ := Aside0.mk (Kd.R_over' (v := (.slice (some ⟨go23, 0, none⟩) x8_1.length co23)) (rU HO_7.out) (Kd.R_typed HO_8.out) (by decide) hg); have n1_ := Aside0.mk (hp_); have n2_ := Aside0.mk ((by rw [hw]; exact below_set (HB.out) GB23.out : Below w.heap.size w w26)); clear HO_7; clear HO_8; clear HB; have HO_7 := n0_; have HO_8 := n1_; have HB := n2_; clear n0_ n1_ n2_; clear hg hw hp_))
            go_roundg k1
            case measure => have := HK1.out; omega
            case rel => exact ⟨(y311), (wrap64 (x9_1 + 1)), (by first | rfl | (simp; done) | (simp [*]; done)), H', ⟨by have := HK1.out; omega⟩, ⟨rU HO_7.out⟩, ⟨rU HO_8.out⟩, ⟨bU HB.out⟩⟩
           ·
            rw [if_neg c22] at H
            exact absurd H (by simp)
        ·
         rw [if_neg c13] at H
         exact absurd H (by simp)
       ·
        rw [if_neg c12] at H
        exact absurd H (by simp)
      ·
       rw [if_neg c11] at H
       have c11b0 := decide_eq_false c11
       clear c11
       replace H := Option.bind_eq_some_iff.mp H
       obtain ⟨t312, A270, H⟩ := H
       replace H : (some (t301, t312, 0)) = some (r1, r2, r3) := H
       have A27 := Aside0.mk A270
       clear A270
       simp only [Option.some.injEq, Prod.mk.injEq] at H
       obtain ⟨rfl, rfl, rfl⟩ := H
       obtain ⟨Ao28, co28, eo28⟩ := Kd.R_slice HO_8.out
       subst eo28
       go_wp2_with (first | ((with_reducible refine gate_callee (f := 43) rfl ?_); refine goesL_ (some 48) rfl rfl Try.func43 (by kernel_rfl) rfl #[.slice Ao28 x8_1.length co28] rfl (by (try simp only [List.map_toArray, List.map_cons, List.map_nil]); first | done | rfl | (simp only [List.length_drop, List.length_take]; rfl)) ?_; (with_reducible refine (tegularef34_runs.calls k1 _ _ x8_1 t312 _ ?side1 ?side2 A27.out).mono ?_); (case side1 => repeat (first | exact (Kd.R_reads' HO_8.out).2.2 | (with_reducible refine Kd.C_alloc ?_ _) | (with_reducible refine Kd.C_drewN ?_ _) | (with_reducible refine Kd.C_drew ?_))); (case side2 => exact (Kd.R_reads' HO_8.out).2.1); rintro e w29 ⟨v313, rfl, ho0, hb⟩; refine ⟨_, rfl, ?_⟩; have n0_ := Aside0.mk (Kd.R_below (rU HO_7.out) hb); have n1_ := Aside0.mk (Kd.R_below (rU HO_8.out) hb); have n2_ := Aside0.mk (Kd.R_lower ho0 (below_size (bU HB.out))); have n3_ := Aside0.mk (below_step (bU HB.out) hb); clear HO_7; clear HO_8; clear HB; have HO_7 := n0_; have HO_8 := n1_; have HO314 := n2_; have HB := n3_; clear n0_ n1_ n2_ n3_; (try clear hb); (try clear hb2); (try clear hk); (try clear hi); (try clear ho0)))
       go_ret3
       exact ⟨_, _, by first | rfl | (simp [errW_none, errW_some] <;> rfl) | (simp [*, errW_none, errW_some] <;> rfl), rU HO_7.out, rU HO314.out, bU HB.out⟩
   ·
    rw [if_neg c7] at H
    exact absurd H (by simp)
  ·
   rw [if_neg c6] at H
   exact absurd H (by simp)
 ·
  replace c4 := Bool.eq_false_iff.mpr c4
  subst c4
  have H1 : (some (([] : List Int), ([] : List (S41)), 2)) = some (r1, r2, r3) := by rw [if_neg (show ¬ (false = true) by decide)] at H; exact H
  clear H
  have H := H1
  clear H1
  simp only [Option.some.injEq, Prod.mk.injEq] at H
  obtain ⟨rfl, rfl, rfl⟩ := H
  go_enter Try.func27, Try.ntmps27
  go_wp2_with (first | ((with_reducible refine gate_callee (f := 30) rfl ?_); refine goesL_ (some 12) rfl rfl Try.func30 (by kernel_rfl) rfl #[.slice A0 l0.length c0, .slice A1 l1.length c1] rfl (by (try simp only [List.map_toArray, List.map_cons, List.map_nil]); first | done | rfl | (simp only [List.length_drop, List.length_take]; rfl)) ?_; (with_reducible refine (tegularef34_Counts_permitted.calls k _ _ l0 _ _ l1 false _ ?side1 ?side2 ?side3 ?side4 A3.out).mono ?_); (case side1 => repeat (first | exact HR0.out | (with_reducible refine Kd.C_alloc ?_ _) | (with_reducible refine Kd.C_drewN ?_ _) | (with_reducible refine Kd.C_drew ?_))); (case side2 => exact HC0.out); (case side3 => repeat (first | exact HR1.out | (with_reducible refine Kd.C_alloc ?_ _) | (with_reducible refine Kd.C_drewN ?_ _) | (with_reducible refine Kd.C_drew ?_))); (case side4 => exact HC1.out); rintro e w' ⟨rfl, ⟨nd, rfl⟩⟩; refine ⟨_, rfl, ?_⟩))
  go_ret3
  exact ⟨_, _, by first | rfl | (simp [errW_none, errW_some] <;> rfl) | (simp [*, errW_none, errW_some] <;> rfl), by first | exact Kd.R_nil _ _ _ _ _ | exact Kd.N_nil _ _ _ _ _ | exact Kd.V_nil _ _ _ _ _ | exact Kd.Q_nil _ _ _ _ _ | exact Kd.S_nil _ _ _ _ _, by first | exact Kd.R_nil _ _ _ _ _ | exact Kd.N_nil _ _ _ _ _ | exact Kd.V_nil _ _ _ _ _ | exact Kd.Q_nil _ _ _ _ _ | exact Kd.S_nil _ _ _ _ _, bU HB.out⟩

/-! ### tegulalaw34_build: function 11 -/
mutual
def tegulalaw34_build.l0 : Nat → List (S57) → List Int → Int → List Int → Option (List Int × List Int × Bool)
 | 0, _, _, _, _ => none
 | k + 1, x1, x9, x11, x321000 => if x11 < (x1.length : Int) then ((some (([] : List (S41)) : List (S41))).bind fun y326 => (if 0 ≤ x11 then (if y326.length + ((rd_T57 x1 x11).f1).length < 5864062014805 then ((some (y326 ++ ((rd_T57 x1 x11).f1) : List (S41))).bind fun y330 => (if (rd_T57 x1 x11).f0 = true then ((refcount_Counts_Drop.f k x321000 y330).bind fun bt334 => ((tegularef34_Counts_Drop.f k x9 y330).bind fun bt342 => (if bt334.2.2 = bt342.2.2 then ((tegularef32_Same.f k bt334.2.1 bt342.2.1).bind fun t349 => (tegulalaw34_build.j1 k x1 x9 x11 bt334.2.2 bt342.1 (!t349) x321000 bt334.1)) else (tegulalaw34_build.j1 k x1 x9 x11 bt334.2.2 bt342.1 true x321000 bt334.1)))) else ((refcount_Counts_Add.f k x321000 y330).bind fun bt350 => ((tegularef34_Counts_Add.f k x9 y330).bind fun bt355 => (if bt350.2 = bt355.2 then (if bt350.2 = 0 then (tegulalaw34_build.l0 k x1 bt355.1 (wrap64 (x11 + 1)) bt350.1) else (tegulalaw34_build.l0 k x1 x9 (wrap64 (x11 + 1)) x321000)) else (some (x321000, x9, false))))))) else (none)) else (none))) else ((tegulalaw34_same.f k x321000 x9).bind fun t325 => (some (x321000, x9, t325)))
def tegulalaw34_build.j1 : Nat → List (S57) → List Int → Int → Int → List Int → Bool → List Int → List Int → Option (List Int × List Int × Bool)
 | 0, _, _, _, _, _, _, _, _ => none
 | k + 1, x1, x9, x11, x15, x16, x81, x321000, x342000 => if x81 = true then (some (x321000, x9, false)) else (if x15 = 0 then (tegulalaw34_build.l0 k x1 x16 (wrap64 (x11 + 1)) x342000) else (tegulalaw34_build.l0 k x1 x9 (wrap64 (x11 + 1)) x321000))
end
def tegulalaw34_build.f (k : Nat) (a0 : Int) (l1 : List (S57)) : Option (List Int × List Int × Bool) := (refcount_New.f (wrap64 (Int.tmod a0 100))).bind fun bt316 => ((tegularef34_New.f (wrap64 (Int.tmod a0 100))).bind fun bt321 => (if bt316.2 = 0 then (tegulalaw34_build.l0 k l1 bt321.1 0 bt316.1) else (some (bt316.1, bt321.1, false))))
theorem tegulalaw34_build.mono_l : ∀ k, (∀ y0 y1 y2 y3, LeO (tegulalaw34_build.l0 k y0 y1 y2 y3) (tegulalaw34_build.l0 (k + 1) y0 y1 y2 y3)) ∧ (∀ y0 y1 y2 y3 y4 y5 y6 y7, LeO (tegulalaw34_build.j1 k y0 y1 y2 y3 y4 y5 y6 y7) (tegulalaw34_build.j1 (k + 1) y0 y1 y2 y3 y4 y5 y6 y7))
 | 0 => ⟨fun _ _ _ _ r h => by simp [tegulalaw34_build.l0] at h, fun _ _ _ _ _ _ _ _ r h => by simp [tegulalaw34_build.j1] at h⟩
 | k + 1 => by
  obtain ⟨ih0, ih1⟩ := tegulalaw34_build.mono_l k
  refine ⟨?_, ?_⟩
  ·
   intro y0 y1 y2 y3
   unfold tegulalaw34_build.l0
   repeat' first
   | (with_reducible exact ih0 _ _ _ _)
   | (with_reducible exact ih1 _ _ _ _ _ _ _ _)
   | (with_reducible exact refcount_Counts_Add.mono _ _ _)
   | (with_reducible exact refcount_Counts_Drop.mono _ _ _)
   | (with_reducible exact tegulalaw34_same.mono _ _ _)
   | (with_reducible exact tegularef32_Same.mono _ _ _)
   | (with_reducible exact tegularef34_Counts_Add.mono _ _ _)
   | (with_reducible exact tegularef34_Counts_Drop.mono _ _ _)
   | (with_reducible exact LeO.refl _)
   | (with_reducible exact LeO.none _)
   | (with_reducible refine LeO.ite ?_ ?_)
   | (with_reducible refine LeO.bind ?_ (fun _ => ?_))
   | exact ih0 _ _ _ _
   | exact ih1 _ _ _ _ _ _ _ _
   | exact refcount_Counts_Add.mono _ _ _
   | exact refcount_Counts_Drop.mono _ _ _
   | exact tegulalaw34_same.mono _ _ _
   | exact tegularef32_Same.mono _ _ _
   | exact tegularef34_Counts_Add.mono _ _ _
   | exact tegularef34_Counts_Drop.mono _ _ _
   | exact LeO.none _
   | refine LeO.ite ?_ ?_
   | refine LeO.bind ?_ (fun _ => ?_)
  ·
   intro y0 y1 y2 y3 y4 y5 y6 y7
   unfold tegulalaw34_build.j1
   repeat' first
   | (with_reducible exact ih0 _ _ _ _)
   | (with_reducible exact ih1 _ _ _ _ _ _ _ _)
   | (with_reducible exact refcount_Counts_Add.mono _ _ _)
   | (with_reducible exact refcount_Counts_Drop.mono _ _ _)
   | (with_reducible exact tegulalaw34_same.mono _ _ _)
   | (with_reducible exact tegularef32_Same.mono _ _ _)
   | (with_reducible exact tegularef34_Counts_Add.mono _ _ _)
   | (with_reducible exact tegularef34_Counts_Drop.mono _ _ _)
   | (with_reducible exact LeO.refl _)
   | (with_reducible exact LeO.none _)
   | (with_reducible refine LeO.ite ?_ ?_)
   | (with_reducible refine LeO.bind ?_ (fun _ => ?_))
   | exact ih0 _ _ _ _
   | exact ih1 _ _ _ _ _ _ _ _
   | exact refcount_Counts_Add.mono _ _ _
   | exact refcount_Counts_Drop.mono _ _ _
   | exact tegulalaw34_same.mono _ _ _
   | exact tegularef32_Same.mono _ _ _
   | exact tegularef34_Counts_Add.mono _ _ _
   | exact tegularef34_Counts_Drop.mono _ _ _
   | exact LeO.none _
   | refine LeO.ite ?_ ?_
   | refine LeO.bind ?_ (fun _ => ?_)
theorem tegulalaw34_build.mono : ∀ a0 a1 k, LeO (tegulalaw34_build.f k a0 a1) (tegulalaw34_build.f (k + 1) a0 a1) := by
 intro a0 a1 k
 obtain ⟨ih0, ih1⟩ := tegulalaw34_build.mono_l k
 unfold tegulalaw34_build.f
 repeat' first
   | (with_reducible exact ih0 _ _ _ _)
   | (with_reducible exact ih1 _ _ _ _ _ _ _ _)
   | (with_reducible exact refcount_Counts_Add.mono _ _ _)
   | (with_reducible exact refcount_Counts_Drop.mono _ _ _)
   | (with_reducible exact tegulalaw34_same.mono _ _ _)
   | (with_reducible exact tegularef32_Same.mono _ _ _)
   | (with_reducible exact tegularef34_Counts_Add.mono _ _ _)
   | (with_reducible exact tegularef34_Counts_Drop.mono _ _ _)
   | (with_reducible exact LeO.refl _)
   | (with_reducible exact LeO.none _)
   | (with_reducible refine LeO.ite ?_ ?_)
   | (with_reducible refine LeO.bind ?_ (fun _ => ?_))
   | exact ih0 _ _ _ _
   | exact ih1 _ _ _ _ _ _ _ _
   | exact refcount_Counts_Add.mono _ _ _
   | exact refcount_Counts_Drop.mono _ _ _
   | exact tegulalaw34_same.mono _ _ _
   | exact tegularef32_Same.mono _ _ _
   | exact tegularef34_Counts_Add.mono _ _ _
   | exact tegularef34_Counts_Drop.mono _ _ _
   | exact LeO.none _
   | refine LeO.ite ?_ ?_
   | refine LeO.bind ?_ (fun _ => ?_)
def tegulalaw34_build.T22 : Bool × List (List Nat × List Nat) := (true, [([], []), ([], []), ([], []), ([], []), ([2, 3], [2, 3]), ([0, 4, 0], [0]), ([1, 5, 0, 1, 5], [1]), ([4, 6, 0, 1, 2, 3, 4, 5, 6], [4])])
def tegulalaw34_build.B22 : List Nat := [0, 0, 0, 0, 12, 29, 63, 127]
theorem tegulalaw34_build.tab22 : rtab .any (opsOf Try.f11 22) = tegulalaw34_build.T22 := by kernel_rfl
theorem tegulalaw34_build.bits22 : waitsOk tegulalaw34_build.T22.2 tegulalaw34_build.B22 = true := by kernel_rfl
set_option maxHeartbeats 8000000 in
set_option maxRecDepth 100000 in
theorem tegulalaw34_build.calls (k : Nat) (a0 : Int) (A1 : Option Addr) (c1 : Nat) (l1 : List (S57)) (r1 : List Int) (r2 : List Int) (r3 : Bool) (w : World) (hr1 : Kd.C k57 w A1 l1.length l1) (hc1 : l1.length ≤ c1) (h : tegulalaw34_build.f k a0 l1 = some (r1, r2, r3)) :
  Calls Try.prog 11 #[.int .u8 a0, .slice A1 l1.length c1] w fun e w' => ∃ v0_ v1_ : Value, e = .returned (.tuple #[.agg #[v0_], v1_, .bool r3]) ∧ Kd.R (Kd.int .i64) 3 w' w.heap.size (fun k_ => some k_ ≠ (v1_ : Value).ownBlock) v0_ r1 ∧ Kd.R (Kd.int .i64) 3 w' w.heap.size (fun k_ => some k_ ≠ (v0_ : Value).ownBlock) v1_ r2 ∧ Below w.heap.size w w' := by
 have hu27 := Try.underlying27
 have HR1 := Aside0.mk hr1
 have HC1 := Aside0.mk hc1
 clear hr1 hc1
 have HB := Aside0.mk (Below.refl w.heap.size w)
 have H : ((refcount_New.f (wrap64 (Int.tmod a0 100))).bind fun bt316 => ((tegularef34_New.f (wrap64 (Int.tmod a0 100))).bind fun bt321 => (if bt316.2 = 0 then (tegulalaw34_build.l0 k l1 bt321.1 0 bt316.1) else (some (bt316.1, bt321.1, false))))) = some (r1, r2, r3) := h
 clear h
 replace H := Option.bind_eq_some_iff.mp H
 obtain ⟨⟨t316, t319⟩, A30, H⟩ := H
 replace H : ((tegularef34_New.f (wrap64 (Int.tmod a0 100))).bind fun bt321 => (if t319 = 0 then (tegulalaw34_build.l0 k l1 bt321.1 0 t316) else (some (t316, bt321.1, false)))) = some (r1, r2, r3) := H
 have A3 := Aside0.mk A30
 clear A30
 replace H := Option.bind_eq_some_iff.mp H
 obtain ⟨⟨t321, t322⟩, A40, H⟩ := H
 replace H : (if t319 = 0 then (tegulalaw34_build.l0 k l1 t321 0 t316) else (some (t316, t321, false))) = some (r1, r2, r3) := H
 have A4 := Aside0.mk A40
 clear A40
 by_cases c5 : t319 = 0
 ·
  rw [if_pos c5] at H
  have c5b0 : (t319 == 0) = true := beq_iff_eq.mpr c5
  have c5b1 : (t319 != 0) = false := bne_eq_false_iff_eq.mpr c5
  clear c5
  have H' := Aside0.mk H
  clear H
  go_enter Try.func11, Try.ntmps11
  go_wp2_with (first | ((with_reducible refine gate_dst (N := 4) rfl ?_); refine box_event ?hg (N := 4) ?hd (cs := #[.slice none 0 0]) (t := 27) ?hr ?_; (case hd => rfl); (case hg => rfl); (case hr => first | (go_simp; done) | (go_simp; rfl)); intro gb315 hg w6 hbox hb; have n0_ := Aside0.mk (below_step (bU HB.out) hb); have n1_ := Aside0.mk (hbox); have n2_ := Aside0.mk ((by rw [hg]; exact (below_size (bU HB.out)) : w.heap.size ≤ gb315)); have n3_ := Aside0.mk ((by rw [hg]; exact (below_size (bU HB.out)) : w.heap.size ≤ gb315)); clear HB; have HB := n0_; have BK315 := n1_; have GW315 := n2_; have GE315 := n3_; clear n0_ n1_ n2_ n3_; clear hb hbox hg) | ((with_reducible refine gate_callee (f := 22) rfl ?_); refine goesL_ (some 27) rfl rfl Try.func22 (by kernel_rfl) rfl #[.int .i64 (wrap64 (Int.tmod a0 100))] rfl (by (try simp only [List.map_toArray, List.map_cons, List.map_nil]); first | done | rfl | (simp only [List.length_drop, List.length_take]; rfl)) ?_; (with_reducible refine (refcount_New.calls (wrap64 (Int.tmod a0 100)) t316 t319 _ A3.out).mono ?_); rintro e w7 ⟨v317, rfl, ho0, hb⟩; refine ⟨_, rfl, ?_⟩; have n0_ := Aside0.mk (Kd.R_lower ho0 (below_size (by repeat (first | (with_reducible first | exact HB.out | apply below_alloc | apply pw_below_drewN | apply below_drew1 | refine below_set ?_ GE315.out) | exact HB.out)))); have n1_ := Aside0.mk (blk_below (g := gb315) (o := .cells #[.slice none 0 0] 27 (0, 0)) (kU BK315.out) hb); have n2_ := Aside0.mk (below_step (by repeat (first | (with_reducible first | exact HB.out | apply below_alloc | apply pw_below_drewN | apply below_drew1 | refine below_set ?_ GE315.out) | exact HB.out)) hb); clear BK315; clear HB; have HO318 := n0_; have BK315 := n1_; have HB := n2_; clear n0_ n1_ n2_; (try clear hb); (try clear hb2); (try clear hk); (try clear hi); (try clear ho0)) | ((with_reducible refine gate_dst (N := 7) rfl ?_); refine box_event ?hg (N := 7) ?hd (cs := #[.slice none 0 0]) (t := 27) ?hr ?_; (case hd => rfl); (case hg => rfl); (case hr => first | (go_simp; done) | (go_simp; rfl)); intro gb320 hg w8 hbox hb; have n0_ := Aside0.mk (Kd.R_below (rU HO318.out) hb); have n1_ := Aside0.mk (blk_below (g := gb315) (o := .cells #[.slice none 0 0] 27 (0, 0)) (kU BK315.out) hb); have n2_ := Aside0.mk (below_step (by repeat (first | (with_reducible first | exact HB.out | apply below_alloc | apply pw_below_drewN | apply below_drew1 | refine below_set ?_ GE315.out) | exact HB.out)) hb); have n3_ := Aside0.mk (hbox); have n4_ := Aside0.mk ((by rw [hg]; exact (below_size (by repeat (first | (with_reducible first | exact HB.out | apply below_alloc | apply pw_below_drewN | apply below_drew1 | refine below_set ?_ GE315.out) | exact HB.out))) : w.heap.size ≤ gb320)); have n5_ := Aside0.mk ((by rw [hg]; exact (below_size (by repeat (first | (with_reducible first | exact HB.out | apply below_alloc | apply pw_below_drewN | apply below_drew1 | refine below_set ?_ GE315.out) | exact HB.out))) : w.heap.size ≤ gb320)); have n6_ := Aside0.mk ((by rw [hg]; exact Nat.ne_of_lt (blk_lt (g := gb315) (o := .cells #[.slice none 0 0] 27 (0, 0)) (kU BK315.out)) : gb315 ≠ gb320)); have n7_ := Aside0.mk ((by rw [hg]; exact Nat.ne_of_gt (blk_lt (g := gb315) (o := .cells #[.slice none 0 0] 27 (0, 0)) (kU BK315.out)) : gb320 ≠ gb315)); clear HO318; clear BK315; clear HB; have HO318 := n0_; have BK315 := n1_; have HB := n2_; have BK320 := n3_; have GW320 := n4_; have GE320 := n5_; have NB315_320 := n6_; have NB320_315 := n7_; clear n0_ n1_ n2_ n3_ n4_ n5_ n6_ n7_; clear hb hbox hg; obtain ⟨Ao9, co9, eo9⟩ := Kd.R_slice HO318.out; subst eo9; have hnb10 := NB320_315.out; have hnc10 := NB315_320.out; have hcz11_0 : w8.cell? ⟨gb320, 0, none⟩ = some (.slice none 0 0) := (blk_cell BK320.out 0).trans rfl; have hfz11_0 := blk_frozen BK320.out 0) | ((with_reducible refine gate_callee (f := 26) rfl ?_); refine goesL_ (some 34) rfl rfl Try.func26 (by kernel_rfl) rfl #[.int .i64 (wrap64 (Int.tmod a0 100))] rfl (by (try simp only [List.map_toArray, List.map_cons, List.map_nil]); first | done | rfl | (simp only [List.length_drop, List.length_take]; rfl)) ?_; (with_reducible refine (tegularef34_New.calls (wrap64 (Int.tmod a0 100)) t321 t322 _ A4.out).mono ?_); rintro e w12 ⟨v323, rfl, ho0, hb⟩; refine ⟨_, rfl, ?_⟩; have n0_ := Aside0.mk (Kd.R_elder' (rU (Kd.R_mono (Kd.R_far (p := ⟨gb320, 0, none⟩) (Kd.R_types HO318.out BK320.out (by decide)) (fun _ hk => hk.2) (.slice Ao9 t316.length co9)) (fun _ h_ => h_.1))) (Kd.R_base ho0) hb); have n1_ := Aside0.mk (Kd.R_lower (Kd.R_new' ho0 (Kd.R_lt (rU (Kd.R_mono (Kd.R_far (p := ⟨gb320, 0, none⟩) (Kd.R_types HO318.out BK320.out (by decide)) (fun _ hk => hk.2) (.slice Ao9 t316.length co9)) (fun _ h_ => h_.1))))) (below_size (by repeat (first | (with_reducible first | exact HB.out | apply below_alloc | apply pw_below_drewN | apply below_drew1 | refine below_set ?_ GE315.out | refine below_set ?_ GE320.out) | exact HB.out)))); have n2_ := Aside0.mk (blk_below (g := gb315) (o := .cells #[.slice none 0 0] 27 (0, 0)) (by (with_reducible repeat (first | refine blk_drewN ?_ _ | refine blk_drew ?_ | refine blk_alloc ?_ _)); refine blk_far ?_ NB315_320.out _; (with_reducible repeat (first | refine blk_drewN ?_ _ | refine blk_drew ?_ | refine blk_alloc ?_ _)); exact BK315.out) hb); have n3_ := Aside0.mk (blk_below (g := gb320) (o := .cells #[.slice Ao9 t316.length co9] 27 (0, 0)) (by (with_reducible repeat (first | refine blk_drewN ?_ _ | refine blk_drew ?_ | refine blk_alloc ?_ _)); refine blk_put (cs := #[.slice none 0 0]) ?_ 0 _ rfl; (with_reducible repeat (first | refine blk_drewN ?_ _ | refine blk_drew ?_ | refine blk_alloc ?_ _)); exact BK320.out) hb); have n4_ := Aside0.mk (below_step (by repeat (first | (with_reducible first | exact HB.out | apply below_alloc | apply pw_below_drewN | apply below_drew1 | refine below_set ?_ GE315.out | refine below_set ?_ GE320.out) | exact HB.out)) hb); clear HO318; clear BK315; clear BK320; clear HB; have HO318 := n0_; have HO324 := n1_; have BK315 := n2_; have BK320 := n3_; have HB := n4_; clear n0_ n1_ n2_ n3_ n4_; (try clear hb); (try clear hb2); (try clear hk); (try clear hi); (try clear ho0)))
  go_loopg [9, 11] k (fun kq v9 v11 w' => ∃ (x9_1 : List Int) (x11_1 : Int) (x321000_1 : List Int) (u321000 : Value), v11 = .int .i64 x11_1 ∧ Aside0 (tegulalaw34_build.l0 kq l1 x9_1 x11_1 x321000_1 = some (r1, r2, r3)) ∧ Aside0 (kq ≤ k) ∧ Aside0 (Kd.R (Kd.int .i64) 3 w' w.heap.size (fun k_ => some k_ ≠ (u321000 : Value).ownBlock) v9 x9_1) ∧ Aside0 (Kd.R (Kd.int .i64) 3 w' w.heap.size (fun k_ => some k_ ≠ (v9 : Value).ownBlock) u321000 x321000_1) ∧ Aside0 (w'.heap[gb315]? = some (.cells #[(.slice none 0 0)] 27 (0, 0))) ∧ Aside0 (w'.heap[gb320]? = some (.cells #[u321000] 27 (0, 0))) ∧ Aside0 (Below w.heap.size w w'))
  case atStart => exact ⟨(t321), (0), (t316), (.slice Ao9 t316.length co9), (by first | rfl | (simp; done) | (simp [*]; done)), H', ⟨Nat.le_refl _⟩, ⟨by (with_reducible repeat (first | apply Kd.R_alloc | apply Kd.R_drewN | apply Kd.R_drew)); exact Kd.R_mono HO324.out (fun _ hk => hk.2)⟩, ⟨by (with_reducible repeat (first | apply Kd.R_alloc | apply Kd.R_drewN | apply Kd.R_drew)); exact Kd.R_mono HO318.out (fun _ hk => hk.2)⟩, ⟨by (with_reducible repeat (first | refine blk_drewN ?_ _ | refine blk_drew ?_ | refine blk_alloc ?_ _)); exact BK315.out⟩, ⟨by (with_reducible repeat (first | refine blk_drewN ?_ _ | refine blk_drew ?_ | refine blk_alloc ?_ _)); exact BK320.out⟩, ⟨by repeat (first | (with_reducible first | exact HB.out | apply below_alloc | apply pw_below_drewN | apply below_drew1 | refine below_set ?_ GE315.out | refine below_set ?_ GE320.out) | exact HB.out)⟩⟩
  case round =>
   clear H'
   try clear c1
   try clear c2
   try clear p2
   try clear c5
   try clear c5b0
   try clear c5b1
   try clear p6
   try clear c10
   try clear c11
   try clear hcz11_0
   try clear hfz11_0
   obtain ⟨x9_1, x11_1, x321000_1, u321000, rfl, HA, HK1, HO_9, HO_321000, BK315, BK320, HB⟩ := hrel
   cases gk with
   | zero => exact absurd HA.out (by simp [tegulalaw34_build.l0])
   | succ k1 =>
    have H := HA.out
    clear HA
    simp only [tegulalaw34_build.l0] at H
    by_cases c13 : x11_1 < (l1.length : Int)
    ·
     rw [if_pos c13] at H
     have c13b0 := decide_eq_true c13
     clear c13
     obtain ⟨y326, hy326⟩ : ∃ y_ : List (S41), y_ = (([] : List (S41))) := ⟨_, rfl⟩
     replace H : (if 0 ≤ x11_1 then (if y326.length + ((rd_T57 l1 x11_1).f1).length < 5864062014805 then ((some (y326 ++ ((rd_T57 l1 x11_1).f1) : List (S41))).bind fun y330 => (if (rd_T57 l1 x11_1).f0 = true then ((refcount_Counts_Drop.f k1 x321000_1 y330).bind fun bt334 => ((tegularef34_Counts_Drop.f k1 x9_1 y330).bind fun bt342 => (if bt334.2.2 = bt342.2.2 then ((tegularef32_Same.f k1 bt334.2.1 bt342.2.1).bind fun t349 => (tegulalaw34_build.j1 k1 l1 x9_1 x11_1 bt334.2.2 bt342.1 (!t349) x321000_1 bt334.1)) else (tegulalaw34_build.j1 k1 l1 x9_1 x11_1 bt334.2.2 bt342.1 true x321000_1 bt334.1)))) else ((refcount_Counts_Add.f k1 x321000_1 y330).bind fun bt350 => ((tegularef34_Counts_Add.f k1 x9_1 y330).bind fun bt355 => (if bt350.2 = bt355.2 then (if bt350.2 = 0 then (tegulalaw34_build.l0 k1 l1 bt355.1 (wrap64 (x11_1 + 1)) bt350.1) else (tegulalaw34_build.l0 k1 l1 x9_1 (wrap64 (x11_1 + 1)) x321000_1)) else (some (x321000_1, x9_1, false))))))) else (none)) else (none)) = some (r1, r2, r3) := by first | (rw [hy326]; exact H) | exact H
     have Ny326 := Aside0.mk hy326
     clear hy326
     by_cases c14 : 0 ≤ x11_1
     ·
      rw [if_pos c14] at H
      have c14b0 := decide_eq_true c14
      clear c14
      by_cases c15 : y326.length + ((rd_T57 l1 x11_1).f1).length < 5864062014805
      ·
       rw [if_pos c15] at H
       have LMc15 := Aside0.mk c15
       clear c15
       obtain ⟨y330, hy330⟩ : ∃ y_ : List (S41), y_ = (y326 ++ ((rd_T57 l1 x11_1).f1)) := ⟨_, rfl⟩
       replace H : (if (rd_T57 l1 x11_1).f0 = true then ((refcount_Counts_Drop.f k1 x321000_1 y330).bind fun bt334 => ((tegularef34_Counts_Drop.f k1 x9_1 y330).bind fun bt342 => (if bt334.2.2 = bt342.2.2 then ((tegularef32_Same.f k1 bt334.2.1 bt342.2.1).bind fun t349 => (tegulalaw34_build.j1 k1 l1 x9_1 x11_1 bt334.2.2 bt342.1 (!t349) x321000_1 bt334.1)) else (tegulalaw34_build.j1 k1 l1 x9_1 x11_1 bt334.2.2 bt342.1 true x321000_1 bt334.1)))) else ((refcount_Counts_Add.f k1 x321000_1 y330).bind fun bt350 => ((tegularef34_Counts_Add.f k1 x9_1 y330).bind fun bt355 => (if bt350.2 = bt355.2 then (if bt350.2 = 0 then (tegulalaw34_build.l0 k1 l1 bt355.1 (wrap64 (x11_1 + 1)) bt350.1) else (tegulalaw34_build.l0 k1 l1 x9_1 (wrap64 (x11_1 + 1)) x321000_1)) else (some (x321000_1, x9_1, false)))))) = some (r1, r2, r3) := by first | (rw [hy330]; exact H) | exact H
       have Ny330 := Aside0.mk hy330
       clear hy330
       obtain ⟨bq16, hbq16⟩ : ∃ b_ : Bool, b_ = ((rd_T57 l1 x11_1).f0) := ⟨_, rfl⟩
       replace H : (if bq16 = true then ((refcount_Counts_Drop.f k1 x321000_1 y330).bind fun bt334 => ((tegularef34_Counts_Drop.f k1 x9_1 y330).bind fun bt342 => (if bt334.2.2 = bt342.2.2 then ((tegularef32_Same.f k1 bt334.2.1 bt342.2.1).bind fun t349 => (tegulalaw34_build.j1 k1 l1 x9_1 x11_1 bt334.2.2 bt342.1 (!t349) x321000_1 bt334.1)) else (tegulalaw34_build.j1 k1 l1 x9_1 x11_1 bt334.2.2 bt342.1 true x321000_1 bt334.1)))) else ((refcount_Counts_Add.f k1 x321000_1 y330).bind fun bt350 => ((tegularef34_Counts_Add.f k1 x9_1 y330).bind fun bt355 => (if bt350.2 = bt355.2 then (if bt350.2 = 0 then (tegulalaw34_build.l0 k1 l1 bt355.1 (wrap64 (x11_1 + 1)) bt350.1) else (tegulalaw34_build.l0 k1 l1 x9_1 (wrap64 (x11_1 + 1)) x321000_1)) else (some (x321000_1, x9_1, false)))))) = some (r1, r2, r3) := by rw [← hbq16] at H; exact H
       have Nbq16 := Aside0.mk hbq16
       clear hbq16
       by_cases c17 : bq16 = true
       ·
        subst c17
        have H1 : ((refcount_Counts_Drop.f k1 x321000_1 y330).bind fun bt334 => ((tegularef34_Counts_Drop.f k1 x9_1 y330).bind fun bt342 => (if bt334.2.2 = bt342.2.2 then ((tegularef32_Same.f k1 bt334.2.1 bt342.2.1).bind fun t349 => (tegulalaw34_build.j1 k1 l1 x9_1 x11_1 bt334.2.2 bt342.1 (!t349) x321000_1 bt334.1)) else (tegulalaw34_build.j1 k1 l1 x9_1 x11_1 bt334.2.2 bt342.1 true x321000_1 bt334.1)))) = some (r1, r2, r3) := by rw [if_pos rfl] at H; exact H
        clear H
        have H := H1
        clear H1
        replace H := Option.bind_eq_some_iff.mp H
        obtain ⟨⟨t334, t337, t340⟩, A180, H⟩ := H
        replace H : ((tegularef34_Counts_Drop.f k1 x9_1 y330).bind fun bt342 => (if t340 = bt342.2.2 then ((tegularef32_Same.f k1 t337 bt342.2.1).bind fun t349 => (tegulalaw34_build.j1 k1 l1 x9_1 x11_1 t340 bt342.1 (!t349) x321000_1 t334)) else (tegulalaw34_build.j1 k1 l1 x9_1 x11_1 t340 bt342.1 true x321000_1 t334))) = some (r1, r2, r3) := H
        have A18 := Aside0.mk A180
        clear A180
        replace H := Option.bind_eq_some_iff.mp H
        obtain ⟨⟨t342, t343, t344⟩, A190, H⟩ := H
        replace H : (if t340 = t344 then ((tegularef32_Same.f k1 t337 t343).bind fun t349 => (tegulalaw34_build.j1 k1 l1 x9_1 x11_1 t340 t342 (!t349) x321000_1 t334)) else (tegulalaw34_build.j1 k1 l1 x9_1 x11_1 t340 t342 true x321000_1 t334)) = some (r1, r2, r3) := H
        have A19 := Aside0.mk A190
        clear A190
        have HC20 := Aside0.mk H
        clear H
        go_upto_region 12 with (first | ((with_reducible refine gate_dst (N := 47) rfl ?_); refine Kd.R_lit k41 _ 41 ?hg (N := 47) ?hd (xs := ([] : List (S41))) (inner := []) (ok := fun _ => True) (okp := fun _ => True) ?hr ?hp (fun _ hk => hk) trivial (Below.refl _ _) (Nat.le_refl _) (by simp) ?_; (case hd => rfl); (case hg => rfl); (case hr => first | (go_simp; done) | (go_simp; rfl)); (case hp => exact (Reps.none _ _)); intro v327 w21 ho22 hb hg_ hnew_; clear hg_ hnew_; (first | rw [← Ny326.out] at ho22 | (simp only [Int.reduceToNat] at ho22; rw [← Ny326.out] at ho22)); have n0_ := Aside0.mk (Kd.R_below (rU HO_9.out) hb); have n1_ := Aside0.mk (Kd.R_below (rU HO_321000.out) hb); have n2_ := Aside0.mk (Kd.R_lower ho22 (below_size (by repeat (first | (with_reducible first | exact HB.out | apply below_alloc | apply pw_below_drewN | apply below_drew1 | refine below_set ?_ GE315.out | refine below_set ?_ GE320.out) | exact HB.out)))); have n3_ := Aside0.mk (blk_below (g := gb315) (o := .cells #[.slice none 0 0] 27 (0, 0)) (kU BK315.out) hb); have n4_ := Aside0.mk (blk_below (g := gb320) (o := .cells #[u321000] 27 (0, 0)) (kU BK320.out) hb); have n5_ := Aside0.mk (below_step (by repeat (first | (with_reducible first | exact HB.out | apply below_alloc | apply pw_below_drewN | apply below_drew1 | refine below_set ?_ GE315.out | refine below_set ?_ GE320.out) | exact HB.out)) hb); clear HO_9; clear HO_321000; clear BK315; clear BK320; clear HB; have HO_9 := n0_; have HO_321000 := n1_; have HO328 := n2_; have BK315 := n3_; have BK320 := n4_; have HB := n5_; clear n0_ n1_ n2_ n3_ n4_ n5_; clear hb ho22; have p329 : 0 ≤ (x11_1 : Int) := of_decide_eq_true (by first | (with_reducible assumption) | assumption); have q329 : x11_1 < (l1.length : Int) := of_decide_eq_true (by first | (with_reducible assumption) | assumption); obtain ⟨ad329, A329_1, c329_1, e329, hx329_0, hx329_1, hl329_1, hi329_1⟩ := at_T57 HR1.out x11_1 p329 q329; (try rw [← Nbq16.out] at hx329_0); cases e329; replace hx329_0 := (HB.out.cell (World.block_lt_of_cell? w _ hx329_0)).trans hx329_0; replace hx329_1 := (HB.out.cell (World.block_lt_of_cell? w _ hx329_1)).trans hx329_1; have HR329_1 := Aside0.mk hi329_1; have HC329_1 := Aside0.mk hl329_1; clear hi329_1 hl329_1; replace p329 := eq_true p329; replace q329 := eq_true q329) | ((with_reducible refine gate_builtin (b := .append) (xs := #[.tmp 47, .tmp 52]) rfl ?_); at_builtin; refine Kd.R_append_rows k41 (w0 := w) w.heap.size rfl (.tmp 47) (.tmp 52) 32 41 (.agg #[(.int .i64 0), (.int .i64 0), (.int .i64 0)]) 24 rfl Try.underlying32 info41 rfl (by decide) (by omega) v327 y326 ((rd_T57 l1 x11_1).f1) _ _ _ (fun _ => True) (fun _ => False) rfl rfl ?aO ?aR (fun _ _ h => h) (fun _ h => h.elim) ?aF ?aB ?aS ?aL ?_; (case aR => repeat (first | exact (Kd.C_below HR329_1.out HB.out) | (with_reducible refine Kd.C_alloc ?_ _) | (with_reducible refine Kd.C_drewN ?_ _) | (with_reducible refine Kd.C_drew ?_))); (case aB => exact (by repeat (first | (with_reducible first | exact HB.out | apply below_alloc | apply pw_below_drewN | apply below_drew1 | refine below_set ?_ GE315.out | refine below_set ?_ GE320.out) | exact HB.out))); (case aF => exact (fun _ _ => trivial)); (case aO => exact (rU HO328.out)); (case aS => exact (below_size (by repeat (first | (with_reducible first | exact HB.out | apply below_alloc | apply pw_below_drewN | apply below_drew1 | refine below_set ?_ GE315.out | refine below_set ?_ GE320.out) | exact HB.out)))); (case aL => have := LMc15.out; omega); intro v331 w23 ho hb hg hat; rw [← Ny330.out] at ho; have n0_ := Aside0.mk (Kd.R_over' (rU HO_9.out) (Kd.R_typed (rU HO328.out)) (by decide) hg); have n1_ := Aside0.mk (Kd.R_over' (rU HO_321000.out) (Kd.R_typed (rU HO328.out)) (by decide) hg); have n2_ := Aside0.mk (blk_grown (g := gb315) (o := .cells #[.slice none 0 0] 27 (0, 0)) (kU BK315.out) hg (Kd.R_ne HO328.out BK315.out (by decide))); have n3_ := Aside0.mk (blk_grown (g := gb320) (o := .cells #[u321000] 27 (0, 0)) (kU BK320.out) hg (Kd.R_ne HO328.out BK320.out (by decide))); have n4_ := Aside0.mk (hb); have n5_ := Aside0.mk (ho); clear HO_9; clear HO_321000; clear BK315; clear BK320; clear HB; clear HO328; have HO_9 := n0_; have HO_321000 := n1_; have BK315 := n2_; have BK320 := n3_; have HB := n4_; have HO332 := n5_; clear n0_ n1_ n2_ n3_ n4_ n5_; clear ho hb hg hat; have p333 : 0 ≤ (x11_1 : Int) := of_decide_eq_true (by first | (with_reducible assumption) | assumption); have q333 : x11_1 < (l1.length : Int) := of_decide_eq_true (by first | (with_reducible assumption) | assumption); obtain ⟨ad333, A333_1, c333_1, e333, hx333_0, hx333_1, hl333_1, hi333_1⟩ := at_T57 HR1.out x11_1 p333 q333; (try rw [← Nbq16.out] at hx333_0); obtain rfl : ad329 = ad333 := (by injection e333); replace hx333_0 := (HB.out.cell (World.block_lt_of_cell? w _ hx333_0)).trans hx333_0; replace hx333_1 := (HB.out.cell (World.block_lt_of_cell? w _ hx333_1)).trans hx333_1; have HR333_1 := Aside0.mk hi333_1; have HC333_1 := Aside0.mk hl333_1; clear hi333_1 hl333_1; replace p333 := eq_true p333; replace q333 := eq_true q333; have hnb24 := NB320_315.out; have hnc24 := NB315_320.out; have hcz25_0 : w23.cell? ⟨gb320, 0, none⟩ = some (u321000) := (blk_cell BK320.out 0).trans rfl; have hfz25_0 := blk_frozen BK320.out 0; obtain ⟨Ao26, co26, eo26⟩ := Kd.R_slice HO_321000.out; subst eo26; obtain ⟨Ao27, co27, eo27⟩ := Kd.R_slice HO332.out; subst eo27) | ((with_reducible refine gate_callee (f := 14) rfl ?_); refine goesL_ (some 62) rfl rfl Try.func14 (by kernel_rfl) rfl #[.agg #[.slice Ao26 x321000_1.length co26], .slice Ao27 y330.length co27] rfl (by (try simp only [List.map_toArray, List.map_cons, List.map_nil]); first | done | rfl | (simp only [List.length_drop, List.length_take]; rfl)) ?_; (with_reducible refine (refcount_Counts_Drop.calls k1 _ _ x321000_1 _ _ y330 t334 t337 t340 _ ?side1 ?side2 ?side3 ?side4 A18.out).mono ?_); (case side1 => repeat (first | exact (Kd.R_reads' HO_321000.out).2.2 | (with_reducible refine Kd.C_alloc ?_ _) | (with_reducible refine Kd.C_drewN ?_ _) | (with_reducible refine Kd.C_drew ?_))); (case side2 => exact (Kd.R_reads' HO_321000.out).2.1); (case side3 => repeat (first | exact (Kd.R_reads' HO332.out).2.2 | (with_reducible refine Kd.C_alloc ?_ _) | (with_reducible refine Kd.C_drewN ?_ _) | (with_reducible refine Kd.C_drew ?_))); (case side4 => exact (Kd.R_reads' HO332.out).2.1); rintro e w28 ⟨v335, v338, rfl, ho0, ho1, hb⟩; refine ⟨_, rfl, ?_⟩; have n0_ := Aside0.mk (Kd.R_elder' (rU HO_9.out) (Kd.R_base ho0) hb); have n1_ := Aside0.mk (Kd.R_elder' (rU HO_321000.out) (Kd.R_base ho0) hb); have n2_ := Aside0.mk (Kd.R_elder' (rU HO332.out) (Kd.R_base ho1) hb); have n3_ := Aside0.mk (Kd.R_lower (Kd.R_new' (Kd.R_new' ho0 (Kd.R_lt (rU HO_9.out))) (Kd.R_lt (rU HO_321000.out))) (below_size (by repeat (first | (with_reducible first | exact HB.out | apply below_alloc | apply pw_below_drewN | apply below_drew1 | refine below_set ?_ GE315.out | refine below_set ?_ GE320.out) | exact HB.out)))); have n4_ := Aside0.mk (Kd.R_lower (Kd.R_new' ho1 (Kd.R_lt (rU HO332.out))) (below_size (by repeat (first | (with_reducible first | exact HB.out | apply below_alloc | apply pw_below_drewN | apply below_drew1 | refine below_set ?_ GE315.out | refine below_set ?_ GE320.out) | exact HB.out)))); have n5_ := Aside0.mk (blk_below (g := gb315) (o := .cells #[.slice none 0 0] 27 (0, 0)) (kU BK315.out) hb); have n6_ := Aside0.mk (blk_below (g := gb320) (o := .cells #[.slice Ao26 x321000_1.length co26] 27 (0, 0)) (kU BK320.out) hb); have n7_ := Aside0.mk (below_step (by repeat (first | (with_reducible first | exact HB.out | apply below_alloc | apply pw_below_drewN | apply below_drew1 | refine below_set ?_ GE315.out | refine below_set ?_ GE320.out) | exact HB.out)) hb); clear HO_9; clear HO_321000; clear HO332; clear BK315; clear BK320; clear HB; have HO_9 := n0_; have HO_321000 := n1_; have HO332 := n2_; have HO336 := n3_; have HO339 := n4_; have BK315 := n5_; have BK320 := n6_; have HB := n7_; clear n0_ n1_ n2_ n3_ n4_ n5_ n6_ n7_; (try clear hb); (try clear hb2); (try clear hk); (try clear hi); (try clear ho0); (try clear ho1)) | ((with_reducible refine gate_dst (N := 13) rfl ?_); refine box_event ?hg (N := 13) ?hd (cs := #[.slice none 0 0]) (t := 27) ?hr ?_; (case hd => rfl); (case hg => rfl); (case hr => first | (go_simp; done) | (go_simp; rfl)); intro gb341 hg w29 hbox hb; have n0_ := Aside0.mk (Kd.R_below (rU HO_9.out) hb); have n1_ := Aside0.mk (Kd.R_below (rU HO_321000.out) hb); have n2_ := Aside0.mk (Kd.R_below (rU HO332.out) hb); have n3_ := Aside0.mk (Kd.R_below (rU HO336.out) hb); have n4_ := Aside0.mk (Kd.R_below (rU HO339.out) hb); have n5_ := Aside0.mk (blk_below (g := gb315) (o := .cells #[.slice none 0 0] 27 (0, 0)) (kU BK315.out) hb); have n6_ := Aside0.mk (blk_below (g := gb320) (o := .cells #[.slice Ao26 x321000_1.length co26] 27 (0, 0)) (kU BK320.out) hb); have n7_ := Aside0.mk (below_step (by repeat (first | (with_reducible first | exact HB.out | apply below_alloc | apply pw_below_drewN | apply below_drew1 | refine below_set ?_ GE315.out | refine below_set ?_ GE320.out) | exact HB.out)) hb); have n8_ := Aside0.mk (hbox); have n9_ := Aside0.mk ((by rw [hg]; exact (below_size (by repeat (first | (with_reducible first | exact HB.out | apply below_alloc | apply pw_below_drewN | apply below_drew1 | refine below_set ?_ GE315.out | refine below_set ?_ GE320.out) | exact HB.out))) : w.heap.size ≤ gb341)); have n10_ := Aside0.mk ((by rw [hg]; exact (below_size (by repeat (first | (with_reducible first | exact HB.out | apply below_alloc | apply pw_below_drewN | apply below_drew1 | refine below_set ?_ GE315.out | refine below_set ?_ GE320.out) | exact HB.out))) : w.heap.size ≤ gb341)); have n11_ := Aside0.mk ((by rw [hg]; exact Nat.ne_of_lt (blk_lt (g := gb315) (o := .cells #[.slice none 0 0] 27 (0, 0)) (kU BK315.out)) : gb315 ≠ gb341)); have n12_ := Aside0.mk ((by rw [hg]; exact Nat.ne_of_gt (blk_lt (g := gb315) (o := .cells #[.slice none 0 0] 27 (0, 0)) (kU BK315.out)) : gb341 ≠ gb315)); have n13_ := Aside0.mk ((by rw [hg]; exact Nat.ne_of_lt (blk_lt (g := gb320) (o := .cells #[.slice Ao26 x321000_1.length co26] 27 (0, 0)) (kU BK320.out)) : gb320 ≠ gb341)); have n14_ := Aside0.mk ((by rw [hg]; exact Nat.ne_of_gt (blk_lt (g := gb320) (o := .cells #[.slice Ao26 x321000_1.length co26] 27 (0, 0)) (kU BK320.out)) : gb341 ≠ gb320)); clear HO_9; clear HO_321000; clear HO332; clear HO336; clear HO339; clear BK315; clear BK320; clear HB; have HO_9 := n0_; have HO_321000 := n1_; have HO332 := n2_; have HO336 := n3_; have HO339 := n4_; have BK315 := n5_; have BK320 := n6_; have HB := n7_; have BK341 := n8_; have GW341 := n9_; have GE341 := n10_; have NB315_341 := n11_; have NB341_315 := n12_; have NB320_341 := n13_; have NB341_320 := n14_; clear n0_ n1_ n2_ n3_ n4_ n5_ n6_ n7_ n8_ n9_ n10_ n11_ n12_ n13_ n14_; clear hb hbox hg; obtain ⟨Ao30, co30, eo30⟩ := Kd.R_slice HO336.out; subst eo30; have hnb31 := NB341_315.out; have hnc31 := NB315_341.out; have hnb32 := NB341_320.out; have hnc32 := NB320_341.out; have hcz33_0 : w29.cell? ⟨gb341, 0, none⟩ = some (.slice none 0 0) := (blk_cell BK341.out 0).trans rfl; have hfz33_0 := blk_frozen BK341.out 0; obtain ⟨Ao34, co34, eo34⟩ := Kd.R_slice HO_9.out; subst eo34) | ((with_reducible refine gate_callee (f := 27) rfl ?_); refine goesL_ (some 69) rfl rfl Try.func27 (by kernel_rfl) rfl #[.slice Ao34 x9_1.length co34, .slice Ao27 y330.length co27] rfl (by (try simp only [List.map_toArray, List.map_cons, List.map_nil]); first | done | rfl | (simp only [List.length_drop, List.length_take]; rfl)) ?_; (with_reducible refine (tegularef34_Counts_Drop.calls k1 _ _ x9_1 _ _ y330 t342 t343 t344 _ ?side1 ?side2 ?side3 ?side4 A19.out).mono ?_); (case side1 => refine (Kd.R_reads' (e := 3) (base := w.heap.size) (ok := fun k_ => (some k_ ≠ (.slice Ao26 x321000_1.length co26 : Value).ownBlock ∧ some k_ ≠ (.slice Ao30 t334.length co30 : Value).ownBlock)) (n := x9_1.length) (c := co34) ?_).2.2; exact (rU (Kd.R_mono (Kd.R_far (p := ⟨gb341, 0, none⟩) (Kd.R_types HO_9.out BK341.out (by decide)) (fun _ hk => hk.2) (.slice Ao30 t334.length co30)) (fun _ h_ => h_.1)))); (case side2 => exact (Kd.R_reads' HO_9.out).2.1); (case side3 => refine (Kd.R_reads' (e := 41) (base := w.heap.size) (ok := fun k_ => (True ∧ some k_ ≠ (v338 : Value).ownBlock)) (n := y330.length) (c := co27) ?_).2.2; exact (rU (Kd.R_mono (Kd.R_far (p := ⟨gb341, 0, none⟩) (Kd.R_types HO332.out BK341.out (by decide)) (fun _ hk => hk.2) (.slice Ao30 t334.length co30)) (fun _ h_ => h_.1)))); (case side4 => exact (Kd.R_reads' HO332.out).2.1); rintro e w35 ⟨v345, v347, rfl, ho0, ho1, hb⟩; refine ⟨_, rfl, ?_⟩; have n0_ := Aside0.mk (Kd.R_elder' (rU (Kd.R_mono (Kd.R_far (p := ⟨gb341, 0, none⟩) (Kd.R_types HO_9.out BK341.out (by decide)) (fun _ hk => hk.2) (.slice Ao30 t334.length co30)) (fun _ h_ => h_.1))) (Kd.R_base ho0) hb); have n1_ := Aside0.mk (Kd.R_elder' (rU (Kd.R_mono (Kd.R_far (p := ⟨gb341, 0, none⟩) (Kd.R_types HO_321000.out BK341.out (by decide)) (fun _ hk => hk.2) (.slice Ao30 t334.length co30)) (fun _ h_ => h_.1))) (Kd.R_base ho0) hb); have n2_ := Aside0.mk (Kd.R_elder' (rU (Kd.R_mono (Kd.R_far (p := ⟨gb341, 0, none⟩) (Kd.R_types HO332.out BK341.out (by decide)) (fun _ hk => hk.2) (.slice Ao30 t334.length co30)) (fun _ h_ => h_.1))) (Kd.R_base ho1) hb); have n3_ := Aside0.mk (Kd.R_elder' (rU (Kd.R_mono (Kd.R_far (p := ⟨gb341, 0, none⟩) (Kd.R_types HO336.out BK341.out (by decide)) (fun _ hk => hk.2) (.slice Ao30 t334.length co30)) (fun _ h_ => h_.1))) (Kd.R_base ho0) hb); have n4_ := Aside0.mk (Kd.R_elder' (rU (Kd.R_mono (Kd.R_far (p := ⟨gb341, 0, none⟩) (Kd.R_types HO339.out BK341.out (by decide)) (fun _ hk => hk.2) (.slice Ao30 t334.length co30)) (fun _ h_ => h_.1))) (Kd.R_base ho1) hb); have n5_ := Aside0.mk (Kd.R_lower (Kd.R_new' (Kd.R_new' (Kd.R_new' ho0 (Kd.R_lt (rU (Kd.R_mono (Kd.R_far (p := ⟨gb341, 0, none⟩) (Kd.R_types HO_9.out BK341.out (by decide)) (fun _ hk => hk.2) (.slice Ao30 t334.length co30)) (fun _ h_ => h_.1))))) (Kd.R_lt (rU (Kd.R_mono (Kd.R_far (p := ⟨gb341, 0, none⟩) (Kd.R_types HO_321000.out BK341.out (by decide)) (fun _ hk => hk.2) (.slice Ao30 t334.length co30)) (fun _ h_ => h_.1))))) (Kd.R_lt (rU (Kd.R_mono (Kd.R_far (p := ⟨gb341, 0, none⟩) (Kd.R_types HO336.out BK341.out (by decide)) (fun _ hk => hk.2) (.slice Ao30 t334.length co30)) (fun _ h_ => h_.1))))) (below_size (by repeat (first | (with_reducible first | exact HB.out | apply below_alloc | apply pw_below_drewN | apply below_drew1 | refine below_set ?_ GE315.out | refine below_set ?_ GE320.out | refine below_set ?_ GE341.out) | exact HB.out)))); have n6_ := Aside0.mk (Kd.R_lower (Kd.R_new' (Kd.R_new' ho1 (Kd.R_lt (rU (Kd.R_mono (Kd.R_far (p := ⟨gb341, 0, none⟩) (Kd.R_types HO332.out BK341.out (by decide)) (fun _ hk => hk.2) (.slice Ao30 t334.length co30)) (fun _ h_ => h_.1))))) (Kd.R_lt (rU (Kd.R_mono (Kd.R_far (p := ⟨gb341, 0, none⟩) (Kd.R_types HO339.out BK341.out (by decide)) (fun _ hk => hk.2) (.slice Ao30 t334.length co30)) (fun _ h_ => h_.1))))) (below_size (by repeat (first | (with_reducible first | exact HB.out | apply below_alloc | apply pw_below_drewN | apply below_drew1 | refine below_set ?_ GE315.out | refine below_set ?_ GE320.out | refine below_set ?_ GE341.out) | exact HB.out)))); have n7_ := Aside0.mk (blk_below (g := gb315) (o := .cells #[.slice none 0 0] 27 (0, 0)) (by (with_reducible repeat (first | refine blk_drewN ?_ _ | refine blk_drew ?_ | refine blk_alloc ?_ _)); refine blk_far ?_ NB315_341.out _; (with_reducible repeat (first | refine blk_drewN ?_ _ | refine blk_drew ?_ | refine blk_alloc ?_ _)); exact BK315.out) hb); have n8_ := Aside0.mk (blk_below (g := gb320) (o := .cells #[.slice Ao26 x321000_1.length co26] 27 (0, 0)) (by (with_reducible repeat (first | refine blk_drewN ?_ _ | refine blk_drew ?_ | refine blk_alloc ?_ _)); refine blk_far ?_ NB320_341.out _; (with_reducible repeat (first | refine blk_drewN ?_ _ | refine blk_drew ?_ | refine blk_alloc ?_ _)); exact BK320.out) hb); have n9_ := Aside0.mk (blk_below (g := gb341) (o := .cells #[.slice Ao30 t334.length co30] 27 (0, 0)) (by (with_reducible repeat (first | refine blk_drewN ?_ _ | refine blk_drew ?_ | refine blk_alloc ?_ _)); refine blk_put (cs := #[.slice none 0 0]) ?_ 0 _ rfl; (with_reducible repeat (first | refine blk_drewN ?_ _ | refine blk_drew ?_ | refine blk_alloc ?_ _)); exact BK341.out) hb); have n10_ := Aside0.mk (below_step (by repeat (first | (with_reducible first | exact HB.out | apply below_alloc | apply pw_below_drewN | apply below_drew1 | refine below_set ?_ GE315.out | refine below_set ?_ GE320.out | refine below_set ?_ GE341.out) | exact HB.out)) hb); clear HO_9; clear HO_321000; clear HO332; clear HO336; clear HO339; clear BK315; clear BK320; clear BK341; clear HB; have HO_9 := n0_; have HO_321000 := n1_; have HO332 := n2_; have HO336 := n3_; have HO339 := n4_; have HO346 := n5_; have HO348 := n6_; have BK315 := n7_; have BK320 := n8_; have BK341 := n9_; have HB := n10_; clear n0_ n1_ n2_ n3_ n4_ n5_ n6_ n7_ n8_ n9_ n10_; (try clear hb); (try clear hb2); (try clear hk); (try clear hi); (try clear ho0); (try clear ho1)))
        (try simp only [Act.put, List.setIfInBounds_toArray, List.set_cons_zero, List.set_cons_succ])
        go_cut [81] (fun v81 wc => ∃ (kq : Nat) (x81_19 : Bool), v81 = .bool x81_19 ∧ Aside0 (tegulalaw34_build.j1 kq l1 x9_1 x11_1 t340 t342 x81_19 x321000_1 t334 = some (r1, r2, r3)) ∧ Aside0 (kq ≤ k1) ∧ Aside0 (Kd.R (Kd.int .i64) 3 wc w.heap.size (fun k_ => some k_ ≠ (v345 : Value).ownBlock ∧ some k_ ≠ ((.slice Ao26 x321000_1.length co26) : Value).ownBlock ∧ some k_ ≠ ((.slice Ao30 t334.length co30) : Value).ownBlock) (.slice Ao34 x9_1.length co34) x9_1) ∧ Aside0 (Kd.R (Kd.int .i64) 3 wc w.heap.size (fun k_ => some k_ ≠ ((.slice Ao34 x9_1.length co34) : Value).ownBlock ∧ some k_ ≠ ((.slice Ao26 x321000_1.length co26) : Value).ownBlock ∧ some k_ ≠ ((.slice Ao30 t334.length co30) : Value).ownBlock) v345 t342) ∧ Aside0 (Kd.R (Kd.int .i64) 3 wc w.heap.size (fun k_ => some k_ ≠ ((.slice Ao34 x9_1.length co34) : Value).ownBlock ∧ some k_ ≠ (v345 : Value).ownBlock ∧ some k_ ≠ ((.slice Ao30 t334.length co30) : Value).ownBlock) (.slice Ao26 x321000_1.length co26) x321000_1) ∧ Aside0 (Kd.R (Kd.int .i64) 3 wc w.heap.size (fun k_ => some k_ ≠ ((.slice Ao34 x9_1.length co34) : Value).ownBlock ∧ some k_ ≠ (v345 : Value).ownBlock ∧ some k_ ≠ ((.slice Ao26 x321000_1.length co26) : Value).ownBlock) (.slice Ao30 t334.length co30) t334) ∧ Aside0 (wc.heap[gb315]? = some (.cells #[(.slice none 0 0)] 27 (0, 0))) ∧ Aside0 (wc.heap[gb320]? = some (.cells #[(.slice Ao26 x321000_1.length co26)] 27 (0, 0))) ∧ Aside0 (wc.heap[gb341]? = some (.cells #[(.slice Ao30 t334.length co30)] 27 (0, 0))) ∧ Aside0 (Below w.heap.size w wc))
        case first =>
         have H := HC20.out
         clear HC20
         by_cases c36 : t340 = t344
         ·
          rw [if_pos c36] at H
          have c36b0 : (t340 == t344) = true := beq_iff_eq.mpr c36
          have c36b1 : (t340 != t344) = false := bne_eq_false_iff_eq.mpr c36
          clear c36
          (first | rw [c36b0] | (simp only [i64_w, i32_w]; rw [c36b0]) | skip)
          replace H := Option.bind_eq_some_iff.mp H
          obtain ⟨t349, A370, H⟩ := H
          replace H : (tegulalaw34_build.j1 k1 l1 x9_1 x11_1 t340 t342 (!t349) x321000_1 t334) = some (r1, r2, r3) := H
          have A37 := Aside0.mk A370
          clear A370
          have H' := Aside0.mk H
          clear H
          obtain ⟨Ao38, co38, eo38⟩ := Kd.R_slice HO339.out
          subst eo38
          obtain ⟨Ao39, co39, eo39⟩ := Kd.R_slice HO348.out
          subst eo39
          go_wp2_with (first | (go_at_call 16; (with_reducible refine (tegularef32_Same.calls k1 _ _ t337 _ _ t343 t349 _ ?side1 ?side2 ?side3 ?side4 A37.out).mono ?_); (case side1 => repeat (first | exact (Kd.R_reads' HO339.out).2.2 | (with_reducible refine Kd.C_alloc ?_ _) | (with_reducible refine Kd.C_drewN ?_ _) | (with_reducible refine Kd.C_drew ?_))); (case side2 => exact (Kd.R_reads' HO339.out).2.1); (case side3 => repeat (first | exact (Kd.R_reads' HO348.out).2.2 | (with_reducible refine Kd.C_alloc ?_ _) | (with_reducible refine Kd.C_drewN ?_ _) | (with_reducible refine Kd.C_drew ?_))); (case side4 => exact (Kd.R_reads' HO348.out).2.1); rintro e w' ⟨rfl, ⟨nd, rfl⟩⟩))
          go_meet
          case rel => exact ⟨_, (!t349), (by first | rfl | (simp; done) | (simp [*]; done)), H', ⟨by have := HK1.out; first | omega | exact Nat.le_refl _⟩, ⟨by (with_reducible repeat (first | apply Kd.R_alloc | apply Kd.R_drewN | apply Kd.R_drew)); exact Kd.R_mono HO_9.out (fun _ hk => ⟨hk.2, ⟨hk.1.1, hk.1.2⟩⟩)⟩, ⟨by (with_reducible repeat (first | apply Kd.R_alloc | apply Kd.R_drewN | apply Kd.R_drew)); exact Kd.R_mono HO346.out (fun _ hk => ⟨hk.1.1.2, ⟨hk.1.2, hk.2⟩⟩)⟩, ⟨by (with_reducible repeat (first | apply Kd.R_alloc | apply Kd.R_drewN | apply Kd.R_drew)); exact Kd.R_mono HO_321000.out (fun _ hk => ⟨hk.1.1, ⟨hk.2, hk.1.2⟩⟩)⟩, ⟨by (with_reducible repeat (first | apply Kd.R_alloc | apply Kd.R_drewN | apply Kd.R_drew)); exact Kd.R_mono HO336.out (fun _ hk => ⟨hk.1.1.2, ⟨hk.2, hk.1.2⟩⟩)⟩, ⟨by (with_reducible repeat (first | refine blk_drewN ?_ _ | refine blk_drew ?_ | refine blk_alloc ?_ _)); exact BK315.out⟩, ⟨by (with_reducible repeat (first | refine blk_drewN ?_ _ | refine blk_drew ?_ | refine blk_alloc ?_ _)); exact BK320.out⟩, ⟨by (with_reducible repeat (first | refine blk_drewN ?_ _ | refine blk_drew ?_ | refine blk_alloc ?_ _)); exact BK341.out⟩, ⟨by repeat (first | (with_reducible first | exact HB.out | apply below_alloc | apply pw_below_drewN | apply below_drew1 | refine below_set ?_ GE315.out | refine below_set ?_ GE320.out | refine below_set ?_ GE341.out) | exact HB.out)⟩⟩
         ·
          rw [if_neg c36] at H
          have c36b0 : (t340 == t344) = false := beq_eq_false_iff_ne.mpr c36
          have c36b1 : (t340 != t344) = true := bne_iff_ne.mpr c36
          (first | rw [c36b0] | (simp only [i64_w, i32_w]; rw [c36b0]) | skip)
          have H' := Aside0.mk H
          clear H
          go_wp2
          go_meet
          case rel => exact ⟨_, (true), (by first | rfl | (simp; done) | (simp [*]; done)), H', ⟨by have := HK1.out; first | omega | exact Nat.le_refl _⟩, ⟨by (with_reducible repeat (first | apply Kd.R_alloc | apply Kd.R_drewN | apply Kd.R_drew)); exact Kd.R_mono HO_9.out (fun _ hk => ⟨hk.2, ⟨hk.1.1, hk.1.2⟩⟩)⟩, ⟨by (with_reducible repeat (first | apply Kd.R_alloc | apply Kd.R_drewN | apply Kd.R_drew)); exact Kd.R_mono HO346.out (fun _ hk => ⟨hk.1.1.2, ⟨hk.1.2, hk.2⟩⟩)⟩, ⟨by (with_reducible repeat (first | apply Kd.R_alloc | apply Kd.R_drewN | apply Kd.R_drew)); exact Kd.R_mono HO_321000.out (fun _ hk => ⟨hk.1.1, ⟨hk.2, hk.1.2⟩⟩)⟩, ⟨by (with_reducible repeat (first | apply Kd.R_alloc | apply Kd.R_drewN | apply Kd.R_drew)); exact Kd.R_mono HO336.out (fun _ hk => ⟨hk.1.1.2, ⟨hk.2, hk.1.2⟩⟩)⟩, ⟨by (with_reducible repeat (first | refine blk_drewN ?_ _ | refine blk_drew ?_ | refine blk_alloc ?_ _)); exact BK315.out⟩, ⟨by (with_reducible repeat (first | refine blk_drewN ?_ _ | refine blk_drew ?_ | refine blk_alloc ?_ _)); exact BK320.out⟩, ⟨by (with_reducible repeat (first | refine blk_drewN ?_ _ | refine blk_drew ?_ | refine blk_alloc ?_ _)); exact BK341.out⟩, ⟨by repeat (first | (with_reducible first | exact HB.out | apply below_alloc | apply pw_below_drewN | apply below_drew1 | refine below_set ?_ GE315.out | refine below_set ?_ GE320.out | refine below_set ?_ GE341.out) | exact HB.out)⟩⟩
        case rest =>
         clear HC20
         try clear c1
         try clear q1
         try clear c2
         try clear p2
         try clear c3
         try clear p3
         try clear q3
         try clear hx3
         try clear c5
         try clear c5b0
         try clear c5b1
         try clear p6
         try clear c10
         try clear c11
         try clear c13
         try clear c13b0
         try clear c14
         try clear c14b0
         try clear c15
         try clear q16
         try clear c17
         try clear c22
         try clear c24
         try clear c26
         try clear c27
         try clear c31
         try clear c32
         try clear p32
         try clear q32
         try clear hx32
         try clear c33
         try clear p33
         try clear q33
         try clear hx33
         try clear c36
         try clear c36b0
         try clear c36b1
         try clear hcz11_0
         try clear hcz25_0
         try clear hcz33_0
         try clear hfz11_0
         try clear hfz25_0
         try clear hfz33_0
         try clear hx329_0
         try clear hx329_1
         try clear hx333_0
         try clear hx333_1
         try clear p2
         try clear p329
         try clear p333
         try clear p6
         try clear q329
         try clear q333
         obtain ⟨kq, x81_19, rfl, HA, HJ19, HO_9, HO_16, HO_321000, HO_342000, BK315, BK320, BK341, HB⟩ := hcut
         cases kq with
         | zero => exact absurd HA.out (by simp [tegulalaw34_build.j1])
         | succ kj19 =>
          have H := HA.out
          clear HA
          simp only [tegulalaw34_build.j1] at H
          by_cases c40 : x81_19 = true
          ·
           subst c40
           have H1 : (some (x321000_1, x9_1, false)) = some (r1, r2, r3) := by rw [if_pos rfl] at H; exact H
           clear H
           have H := H1
           clear H1
           simp only [Option.some.injEq, Prod.mk.injEq] at H
           obtain ⟨rfl, rfl, rfl⟩ := H
           have hnb41 := NB320_315.out
           have hnc41 := NB315_320.out
           have hnb42 := NB320_341.out
           have hnc42 := NB341_320.out
           have hcz43_0 : wc.cell? ⟨gb320, 0, none⟩ = some (.slice Ao26 x321000_1.length co26) := (blk_cell BK320.out 0).trans rfl
           have hfz43_0 := blk_frozen BK320.out 0
           have hnb44 := NB315_341.out
           have hnc44 := NB341_315.out
           have hcz45_0 : wc.cell? ⟨gb315, 0, none⟩ = some (.slice none 0 0) := (blk_cell BK315.out 0).trans rfl
           have hfz45_0 := blk_frozen BK315.out 0
           go_wp2
           refine bodyPost_ret (results_ctt rfl _ _ gb315 27 #[.slice Ao26 x321000_1.length co26] (0, 0) _ rfl (by (with_reducible repeat (first | refine blk_drewN ?_ _ | refine blk_drew ?_ | refine blk_alloc ?_ _)); refine blk_put (cs := #[.slice none 0 0]) ?_ 0 _ rfl; (with_reducible repeat (first | refine blk_drewN ?_ _ | refine blk_drew ?_ | refine blk_alloc ?_ _)); exact BK315.out) Try.underlying27 rfl (by kernel_rfl)) rfl ?_
           exact ⟨_, _, by first | rfl | (simp [errW_none, errW_some] <;> rfl) | (simp [*, errW_none, errW_some] <;> rfl), by (with_reducible repeat (first | apply Kd.R_alloc | apply Kd.R_drewN | apply Kd.R_drew)); exact Kd.R_mono (Kd.R_far (p := ⟨gb315, 0, none⟩) (Kd.R_types HO_321000.out BK315.out (by decide)) (fun _ hk => hk.2) (.slice Ao26 x321000_1.length co26)) (fun _ hk => hk.1.1), by (with_reducible repeat (first | apply Kd.R_alloc | apply Kd.R_drewN | apply Kd.R_drew)); exact Kd.R_mono (Kd.R_far (p := ⟨gb315, 0, none⟩) (Kd.R_types HO_9.out BK315.out (by decide)) (fun _ hk => hk.2) (.slice Ao26 x321000_1.length co26)) (fun _ hk => hk.1.2.1), by repeat (first | (with_reducible first | exact HB.out | apply below_alloc | apply pw_below_drewN | apply below_drew1 | refine below_set ?_ GE315.out | refine below_set ?_ GE320.out | refine below_set ?_ GE341.out) | exact HB.out)⟩
          ·
           replace c40 := Bool.eq_false_iff.mpr c40
           subst c40
           have H1 : (if t340 = 0 then (tegulalaw34_build.l0 kj19 l1 t342 (wrap64 (x11_1 + 1)) t334) else (tegulalaw34_build.l0 kj19 l1 x9_1 (wrap64 (x11_1 + 1)) x321000_1)) = some (r1, r2, r3) := by rw [if_neg (show ¬ (false = true) by decide)] at H; exact H
           clear H
           have H := H1
           clear H1
           by_cases c46 : t340 = 0
           ·
            rw [if_pos c46] at H
            have c46b0 : (t340 == 0) = true := beq_iff_eq.mpr c46
            have c46b1 : (t340 != 0) = false := bne_eq_false_iff_eq.mpr c46
            clear c46
            have H' := Aside0.mk H
            clear H
            have hnb47 := NB341_315.out
            have hnc47 := NB315_341.out
            have hnb48 := NB341_320.out
            have hnc48 := NB320_341.out
            have hcz49_0 : wc.cell? ⟨gb341, 0, none⟩ = some (.slice Ao30 t334.length co30) := (blk_cell BK341.out 0).trans rfl
            have hfz49_0 := blk_frozen BK341.out 0
            have hnb50 := NB320_315.out
            have hnc50 := NB315_320.out
            have hcz51_0 : wc.cell? ⟨gb320, 0, none⟩ = some (.slice Ao26 x321000_1.length co26) := (blk_cell BK320.out 0).trans rfl
            have hfz51_0 := blk_frozen BK320.out 0
            go_wp2
            go_roundg kj19
            case measure => have := HK1.out; have := HJ19.out; omega
            case rel => exact ⟨(t342), (wrap64 (x11_1 + 1)), (t334), (.slice Ao30 t334.length co30), (by first | rfl | (simp; done) | (simp [*]; done)), H', ⟨by have := HK1.out; have := HJ19.out; omega⟩, ⟨by (with_reducible repeat (first | apply Kd.R_alloc | apply Kd.R_drewN | apply Kd.R_drew)); exact Kd.R_mono (Kd.R_far (p := ⟨gb320, 0, none⟩) (Kd.R_types HO_16.out BK320.out (by decide)) (fun _ hk => hk.2) (.slice Ao30 t334.length co30)) (fun _ hk => hk.1.2.2)⟩, ⟨by (with_reducible repeat (first | apply Kd.R_alloc | apply Kd.R_drewN | apply Kd.R_drew)); exact Kd.R_mono (Kd.R_far (p := ⟨gb320, 0, none⟩) (Kd.R_types HO_342000.out BK320.out (by decide)) (fun _ hk => hk.2) (.slice Ao30 t334.length co30)) (fun _ hk => hk.1.2.1)⟩, ⟨by (with_reducible repeat (first | refine blk_drewN ?_ _ | refine blk_drew ?_ | refine blk_alloc ?_ _)); refine blk_far ?_ NB315_320.out _; (with_reducible repeat (first | refine blk_drewN ?_ _ | refine blk_drew ?_ | refine blk_alloc ?_ _)); exact BK315.out⟩, ⟨by (with_reducible repeat (first | refine blk_drewN ?_ _ | refine blk_drew ?_ | refine blk_alloc ?_ _)); refine blk_put (cs := #[.slice Ao26 x321000_1.length co26]) ?_ 0 _ rfl; (with_reducible repeat (first | refine blk_drewN ?_ _ | refine blk_drew ?_ | refine blk_alloc ?_ _)); exact BK320.out⟩, ⟨by repeat (first | (with_reducible first | exact HB.out | apply below_alloc | apply pw_below_drewN | apply below_drew1 | refine below_set ?_ GE315.out | refine below_set ?_ GE320.out | refine below_set ?_ GE341.out) | exact HB.out)⟩⟩
           ·
            rw [if_neg c46] at H
            have c46b0 : (t340 == 0) = false := beq_eq_false_iff_ne.mpr c46
            have c46b1 : (t340 != 0) = true := bne_iff_ne.mpr c46
            have H' := Aside0.mk H
            clear H
            go_wp2
            go_roundg kj19
            case measure => have := HK1.out; have := HJ19.out; omega
            case rel => exact ⟨(x9_1), (wrap64 (x11_1 + 1)), (x321000_1), (.slice Ao26 x321000_1.length co26), (by first | rfl | (simp; done) | (simp [*]; done)), H', ⟨by have := HK1.out; have := HJ19.out; omega⟩, ⟨by (with_reducible repeat (first | apply Kd.R_alloc | apply Kd.R_drewN | apply Kd.R_drew)); exact Kd.R_mono HO_9.out (fun _ hk => hk.2.1)⟩, ⟨by (with_reducible repeat (first | apply Kd.R_alloc | apply Kd.R_drewN | apply Kd.R_drew)); exact Kd.R_mono HO_321000.out (fun _ hk => hk.1)⟩, ⟨by (with_reducible repeat (first | refine blk_drewN ?_ _ | refine blk_drew ?_ | refine blk_alloc ?_ _)); exact BK315.out⟩, ⟨by (with_reducible repeat (first | refine blk_drewN ?_ _ | refine blk_drew ?_ | refine blk_alloc ?_ _)); exact BK320.out⟩, ⟨by repeat (first | (with_reducible first | exact HB.out | apply below_alloc | apply pw_below_drewN | apply below_drew1 | refine below_set ?_ GE315.out | refine below_set ?_ GE320.out | refine below_set ?_ GE341.out) | exact HB.out)⟩⟩
       ·
        replace c17 := Bool.eq_false_iff.mpr c17
        subst c17
        have H1 : ((refcount_Counts_Add.f k1 x321000_1 y330).bind fun bt350 => ((tegularef34_Counts_Add.f k1 x9_1 y330).bind fun bt355 => (if bt350.2 = bt355.2 then (if bt350.2 = 0 then (tegulalaw34_build.l0 k1 l1 bt355.1 (wrap64 (x11_1 + 1)) bt350.1) else (tegulalaw34_build.l0 k1 l1 x9_1 (wrap64 (x11_1 + 1)) x321000_1)) else (some (x321000_1, x9_1, false))))) = some (r1, r2, r3) := by rw [if_neg (show ¬ (false = true) by decide)] at H; exact H
        clear H
        have H := H1
        clear H1
        replace H := Option.bind_eq_some_iff.mp H
        obtain ⟨⟨t350, t353⟩, A520, H⟩ := H
        replace H : ((tegularef34_Counts_Add.f k1 x9_1 y330).bind fun bt355 => (if t353 = bt355.2 then (if t353 = 0 then (tegulalaw34_build.l0 k1 l1 bt355.1 (wrap64 (x11_1 + 1)) t350) else (tegulalaw34_build.l0 k1 l1 x9_1 (wrap64 (x11_1 + 1)) x321000_1)) else (some (x321000_1, x9_1, false)))) = some (r1, r2, r3) := H
        have A52 := Aside0.mk A520
        clear A520
        replace H := Option.bind_eq_some_iff.mp H
        obtain ⟨⟨t355, t356⟩, A530, H⟩ := H
        replace H : (if t353 = t356 then (if t353 = 0 then (tegulalaw34_build.l0 k1 l1 t355 (wrap64 (x11_1 + 1)) t350) else (tegulalaw34_build.l0 k1 l1 x9_1 (wrap64 (x11_1 + 1)) x321000_1)) else (some (x321000_1, x9_1, false))) = some (r1, r2, r3) := H
        have A53 := Aside0.mk A530
        clear A530
        by_cases c54 : t353 = t356
        ·
         rw [if_pos c54] at H
         have c54b0 : (t353 == t356) = true := beq_iff_eq.mpr c54
         have c54b1 : (t353 != t356) = false := bne_eq_false_iff_eq.mpr c54
         clear c54
         by_cases c55 : t353 = 0
         ·
          rw [if_pos c55] at H
          have c55b0 : (t353 == 0) = true := beq_iff_eq.mpr c55
          have c55b1 : (t353 != 0) = false := bne_eq_false_iff_eq.mpr c55
          clear c55
          have H' := Aside0.mk H
          clear H
          go_wp2_with (first | ((with_reducible refine gate_dst (N := 47) rfl ?_); refine Kd.R_lit k41 _ 41 ?hg (N := 47) ?hd (xs := ([] : List (S41))) (inner := []) (ok := fun _ => True) (okp := fun _ => True) ?hr ?hp (fun _ hk => hk) trivial (Below.refl _ _) (Nat.le_refl _) (by simp) ?_; (case hd => rfl); (case hg => rfl); (case hr => first | (go_simp; done) | (go_simp; rfl)); (case hp => exact (Reps.none _ _)); intro v327 w56 ho57 hb hg_ hnew_; clear hg_ hnew_; (first | rw [← Ny326.out] at ho57 | (simp only [Int.reduceToNat] at ho57; rw [← Ny326.out] at ho57)); have n0_ := Aside0.mk (Kd.R_below (rU HO_9.out) hb); have n1_ := Aside0.mk (Kd.R_below (rU HO_321000.out) hb); have n2_ := Aside0.mk (Kd.R_lower ho57 (below_size (by repeat (first | (with_reducible first | exact HB.out | apply below_alloc | apply pw_below_drewN | apply below_drew1 | refine below_set ?_ GE315.out | refine below_set ?_ GE320.out) | exact HB.out)))); have n3_ := Aside0.mk (blk_below (g := gb315) (o := .cells #[.slice none 0 0] 27 (0, 0)) (kU BK315.out) hb); have n4_ := Aside0.mk (blk_below (g := gb320) (o := .cells #[u321000] 27 (0, 0)) (kU BK320.out) hb); have n5_ := Aside0.mk (below_step (by repeat (first | (with_reducible first | exact HB.out | apply below_alloc | apply pw_below_drewN | apply below_drew1 | refine below_set ?_ GE315.out | refine below_set ?_ GE320.out) | exact HB.out)) hb); clear HO_9; clear HO_321000; clear BK315; clear BK320; clear HB; have HO_9 := n0_; have HO_321000 := n1_; have HO328 := n2_; have BK315 := n3_; have BK320 := n4_; have HB := n5_; clear n0_ n1_ n2_ n3_ n4_ n5_; clear hb ho57; have p329 : 0 ≤ (x11_1 : Int) := of_decide_eq_true (by first | (with_reducible assumption) | assumption); have q329 : x11_1 < (l1.length : Int) := of_decide_eq_true (by first | (with_reducible assumption) | assumption); obtain ⟨ad329, A329_1, c329_1, e329, hx329_0, hx329_1, hl329_1, hi329_1⟩ := at_T57 HR1.out x11_1 p329 q329; (try rw [← Nbq16.out] at hx329_0); cases e329; replace hx329_0 := (HB.out.cell (World.block_lt_of_cell? w _ hx329_0)).trans hx329_0; replace hx329_1 := (HB.out.cell (World.block_lt_of_cell? w _ hx329_1)).trans hx329_1; have HR329_1 := Aside0.mk hi329_1; have HC329_1 := Aside0.mk hl329_1; clear hi329_1 hl329_1; replace p329 := eq_true p329; replace q329 := eq_true q329) | ((with_reducible refine gate_builtin (b := .append) (xs := #[.tmp 47, .tmp 52]) rfl ?_); at_builtin; refine Kd.R_append_rows k41 (w0 := w) w.heap.size rfl (.tmp 47) (.tmp 52) 32 41 (.agg #[(.int .i64 0), (.int .i64 0), (.int .i64 0)]) 24 rfl Try.underlying32 info41 rfl (by decide) (by omega) v327 y326 ((rd_T57 l1 x11_1).f1) _ _ _ (fun _ => True) (fun _ => False) rfl rfl ?aO ?aR (fun _ _ h => h) (fun _ h => h.elim) ?aF ?aB ?aS ?aL ?_; (case aR => repeat (first | exact (Kd.C_below HR329_1.out HB.out) | (with_reducible refine Kd.C_alloc ?_ _) | (with_reducible refine Kd.C_drewN ?_ _) | (with_reducible refine Kd.C_drew ?_))); (case aB => exact (by repeat (first | (with_reducible first | exact HB.out | apply below_alloc | apply pw_below_drewN | apply below_drew1 | refine below_set ?_ GE315.out | refine below_set ?_ GE320.out) | exact HB.out))); (case aF => exact (fun _ _ => trivial)); (case aO => exact (rU HO328.out)); (case aS => exact (below_size (by repeat (first | (with_reducible first | exact HB.out | apply below_alloc | apply pw_below_drewN | apply below_drew1 | refine below_set ?_ GE315.out | refine below_set ?_ GE320.out) | exact HB.out)))); (case aL => have := LMc15.out; omega); intro v331 w58 ho hb hg hat; rw [← Ny330.out] at ho; have n0_ := Aside0.mk (Kd.R_over' (rU HO_9.out) (Kd.R_typed (rU HO328.out)) (by decide) hg); have n1_ := Aside0.mk (Kd.R_over' (rU HO_321000.out) (Kd.R_typed (rU HO328.out)) (by decide) hg); have n2_ := Aside0.mk (blk_grown (g := gb315) (o := .cells #[.slice none 0 0] 27 (0, 0)) (kU BK315.out) hg (Kd.R_ne HO328.out BK315.out (by decide))); have n3_ := Aside0.mk (blk_grown (g := gb320) (o := .cells #[u321000] 27 (0, 0)) (kU BK320.out) hg (Kd.R_ne HO328.out BK320.out (by decide))); have n4_ := Aside0.mk (hb); have n5_ := Aside0.mk (ho); clear HO_9; clear HO_321000; clear BK315; clear BK320; clear HB; clear HO328; have HO_9 := n0_; have HO_321000 := n1_; have BK315 := n2_; have BK320 := n3_; have HB := n4_; have HO332 := n5_; clear n0_ n1_ n2_ n3_ n4_ n5_; clear ho hb hg hat; have p333 : 0 ≤ (x11_1 : Int) := of_decide_eq_true (by first | (with_reducible assumption) | assumption); have q333 : x11_1 < (l1.length : Int) := of_decide_eq_true (by first | (with_reducible assumption) | assumption); obtain ⟨ad333, A333_1, c333_1, e333, hx333_0, hx333_1, hl333_1, hi333_1⟩ := at_T57 HR1.out x11_1 p333 q333; (try rw [← Nbq16.out] at hx333_0); obtain rfl : ad329 = ad333 := (by injection e333); replace hx333_0 := (HB.out.cell (World.block_lt_of_cell? w _ hx333_0)).trans hx333_0; replace hx333_1 := (HB.out.cell (World.block_lt_of_cell? w _ hx333_1)).trans hx333_1; have HR333_1 := Aside0.mk hi333_1; have HC333_1 := Aside0.mk hl333_1; clear hi333_1 hl333_1; replace p333 := eq_true p333; replace q333 := eq_true q333; have hnb59 := NB320_315.out; have hnc59 := NB315_320.out; have hcz60_0 : w58.cell? ⟨gb320, 0, none⟩ = some (u321000) := (blk_cell BK320.out 0).trans rfl; have hfz60_0 := blk_frozen BK320.out 0; obtain ⟨Ao61, co61, eo61⟩ := Kd.R_slice HO_321000.out; subst eo61; obtain ⟨Ao62, co62, eo62⟩ := Kd.R_slice HO332.out; subst eo62) | ((with_reducible refine gate_callee (f := 12) rfl ?_); refine goesL_ (some 91) rfl rfl Try.func12 (by kernel_rfl) rfl #[.agg #[.slice Ao61 x321000_1.length co61], .slice Ao62 y330.length co62] rfl (by (try simp only [List.map_toArray, List.map_cons, List.map_nil]); first | done | rfl | (simp only [List.length_drop, List.length_take]; rfl)) ?_; (with_reducible refine (refcount_Counts_Add.calls k1 _ _ x321000_1 _ _ y330 t350 t353 _ ?side1 ?side2 ?side3 ?side4 A52.out).mono ?_); (case side1 => repeat (first | exact (Kd.R_reads' HO_321000.out).2.2 | (with_reducible refine Kd.C_alloc ?_ _) | (with_reducible refine Kd.C_drewN ?_ _) | (with_reducible refine Kd.C_drew ?_))); (case side2 => exact (Kd.R_reads' HO_321000.out).2.1); (case side3 => repeat (first | exact (Kd.R_reads' HO332.out).2.2 | (with_reducible refine Kd.C_alloc ?_ _) | (with_reducible refine Kd.C_drewN ?_ _) | (with_reducible refine Kd.C_drew ?_))); (case side4 => exact (Kd.R_reads' HO332.out).2.1); rintro e w63 ⟨v351, rfl, ho0, hb⟩; refine ⟨_, rfl, ?_⟩; have n0_ := Aside0.mk (Kd.R_elder' (rU HO_9.out) (Kd.R_base ho0) hb); have n1_ := Aside0.mk (Kd.R_elder' (rU HO_321000.out) (Kd.R_base ho0) hb); have n2_ := Aside0.mk (Kd.R_below (rU HO332.out) hb); have n3_ := Aside0.mk (Kd.R_lower (Kd.R_new' (Kd.R_new' ho0 (Kd.R_lt (rU HO_9.out))) (Kd.R_lt (rU HO_321000.out))) (below_size (by repeat (first | (with_reducible first | exact HB.out | apply below_alloc | apply pw_below_drewN | apply below_drew1 | refine below_set ?_ GE315.out | refine below_set ?_ GE320.out) | exact HB.out)))); have n4_ := Aside0.mk (blk_below (g := gb315) (o := .cells #[.slice none 0 0] 27 (0, 0)) (kU BK315.out) hb); have n5_ := Aside0.mk (blk_below (g := gb320) (o := .cells #[.slice Ao61 x321000_1.length co61] 27 (0, 0)) (kU BK320.out) hb); have n6_ := Aside0.mk (below_step (by repeat (first | (with_reducible first | exact HB.out | apply below_alloc | apply pw_below_drewN | apply below_drew1 | refine below_set ?_ GE315.out | refine below_set ?_ GE320.out) | exact HB.out)) hb); clear HO_9; clear HO_321000; clear HO332; clear BK315; clear BK320; clear HB; have HO_9 := n0_; have HO_321000 := n1_; have HO332 := n2_; have HO352 := n3_; have BK315 := n4_; have BK320 := n5_; have HB := n6_; clear n0_ n1_ n2_ n3_ n4_ n5_ n6_; (try clear hb); (try clear hb2); (try clear hk); (try clear hi); (try clear ho0)) | ((with_reducible refine gate_dst (N := 19) rfl ?_); refine box_event ?hg (N := 19) ?hd (cs := #[.slice none 0 0]) (t := 27) ?hr ?_; (case hd => rfl); (case hg => rfl); (case hr => first | (go_simp; done) | (go_simp; rfl)); intro gb354 hg w64 hbox hb; have n0_ := Aside0.mk (Kd.R_below (rU HO_9.out) hb); have n1_ := Aside0.mk (Kd.R_below (rU HO_321000.out) hb); have n2_ := Aside0.mk (Kd.R_below (rU HO332.out) hb); have n3_ := Aside0.mk (Kd.R_below (rU HO352.out) hb); have n4_ := Aside0.mk (blk_below (g := gb315) (o := .cells #[.slice none 0 0] 27 (0, 0)) (kU BK315.out) hb); have n5_ := Aside0.mk (blk_below (g := gb320) (o := .cells #[.slice Ao61 x321000_1.length co61] 27 (0, 0)) (kU BK320.out) hb); have n6_ := Aside0.mk (below_step (by repeat (first | (with_reducible first | exact HB.out | apply below_alloc | apply pw_below_drewN | apply below_drew1 | refine below_set ?_ GE315.out | refine below_set ?_ GE320.out) | exact HB.out)) hb); have n7_ := Aside0.mk (hbox); have n8_ := Aside0.mk ((by rw [hg]; exact (below_size (by repeat (first | (with_reducible first | exact HB.out | apply below_alloc | apply pw_below_drewN | apply below_drew1 | refine below_set ?_ GE315.out | refine below_set ?_ GE320.out) | exact HB.out))) : w.heap.size ≤ gb354)); have n9_ := Aside0.mk ((by rw [hg]; exact (below_size (by repeat (first | (with_reducible first | exact HB.out | apply below_alloc | apply pw_below_drewN | apply below_drew1 | refine below_set ?_ GE315.out | refine below_set ?_ GE320.out) | exact HB.out))) : w.heap.size ≤ gb354)); have n10_ := Aside0.mk ((by rw [hg]; exact Nat.ne_of_lt (blk_lt (g := gb315) (o := .cells #[.slice none 0 0] 27 (0, 0)) (kU BK315.out)) : gb315 ≠ gb354)); have n11_ := Aside0.mk ((by rw [hg]; exact Nat.ne_of_gt (blk_lt (g := gb315) (o := .cells #[.slice none 0 0] 27 (0, 0)) (kU BK315.out)) : gb354 ≠ gb315)); have n12_ := Aside0.mk ((by rw [hg]; exact Nat.ne_of_lt (blk_lt (g := gb320) (o := .cells #[.slice Ao61 x321000_1.length co61] 27 (0, 0)) (kU BK320.out)) : gb320 ≠ gb354)); have n13_ := Aside0.mk ((by rw [hg]; exact Nat.ne_of_gt (blk_lt (g := gb320) (o := .cells #[.slice Ao61 x321000_1.length co61] 27 (0, 0)) (kU BK320.out)) : gb354 ≠ gb320)); clear HO_9; clear HO_321000; clear HO332; clear HO352; clear BK315; clear BK320; clear HB; have HO_9 := n0_; have HO_321000 := n1_; have HO332 := n2_; have HO352 := n3_; have BK315 := n4_; have BK320 := n5_; have HB := n6_; have BK354 := n7_; have GW354 := n8_; have GE354 := n9_; have NB315_354 := n10_; have NB354_315 := n11_; have NB320_354 := n12_; have NB354_320 := n13_; clear n0_ n1_ n2_ n3_ n4_ n5_ n6_ n7_ n8_ n9_ n10_ n11_ n12_ n13_; clear hb hbox hg; obtain ⟨Ao65, co65, eo65⟩ := Kd.R_slice HO352.out; subst eo65; have hnb66 := NB354_315.out; have hnc66 := NB315_354.out; have hnb67 := NB354_320.out; have hnc67 := NB320_354.out; have hcz68_0 : w64.cell? ⟨gb354, 0, none⟩ = some (.slice none 0 0) := (blk_cell BK354.out 0).trans rfl; have hfz68_0 := blk_frozen BK354.out 0; obtain ⟨Ao69, co69, eo69⟩ := Kd.R_slice HO_9.out; subst eo69) | ((with_reducible refine gate_callee (f := 13) rfl ?_); refine goesL_ (some 97) rfl rfl Try.func13 (by kernel_rfl) rfl #[.slice Ao69 x9_1.length co69, .slice Ao62 y330.length co62] rfl (by (try simp only [List.map_toArray, List.map_cons, List.map_nil]); first | done | rfl | (simp only [List.length_drop, List.length_take]; rfl)) ?_; (with_reducible refine (tegularef34_Counts_Add.calls k1 _ _ x9_1 _ _ y330 t355 t356 _ ?side1 ?side2 ?side3 ?side4 A53.out).mono ?_); (case side1 => refine (Kd.R_reads' (e := 3) (base := w.heap.size) (ok := fun k_ => (some k_ ≠ (.slice Ao61 x321000_1.length co61 : Value).ownBlock ∧ some k_ ≠ (.slice Ao65 t350.length co65 : Value).ownBlock)) (n := x9_1.length) (c := co69) ?_).2.2; exact (rU (Kd.R_mono (Kd.R_far (p := ⟨gb354, 0, none⟩) (Kd.R_types HO_9.out BK354.out (by decide)) (fun _ hk => hk.2) (.slice Ao65 t350.length co65)) (fun _ h_ => h_.1)))); (case side2 => exact (Kd.R_reads' HO_9.out).2.1); (case side3 => refine (Kd.R_reads' (e := 41) (base := w.heap.size) (ok := fun k_ => True) (n := y330.length) (c := co62) ?_).2.2; exact (rU (Kd.R_mono (Kd.R_far (p := ⟨gb354, 0, none⟩) (Kd.R_types HO332.out BK354.out (by decide)) (fun _ hk => hk.2) (.slice Ao65 t350.length co65)) (fun _ h_ => h_.1)))); (case side4 => exact (Kd.R_reads' HO332.out).2.1); rintro e w70 ⟨v357, rfl, ho0, hb⟩; refine ⟨_, rfl, ?_⟩; have n0_ := Aside0.mk (Kd.R_elder' (rU (Kd.R_mono (Kd.R_far (p := ⟨gb354, 0, none⟩) (Kd.R_types HO_9.out BK354.out (by decide)) (fun _ hk => hk.2) (.slice Ao65 t350.length co65)) (fun _ h_ => h_.1))) (Kd.R_base ho0) hb); have n1_ := Aside0.mk (Kd.R_elder' (rU (Kd.R_mono (Kd.R_far (p := ⟨gb354, 0, none⟩) (Kd.R_types HO_321000.out BK354.out (by decide)) (fun _ hk => hk.2) (.slice Ao65 t350.length co65)) (fun _ h_ => h_.1))) (Kd.R_base ho0) hb); have n2_ := Aside0.mk (Kd.R_below (rU (Kd.R_mono (Kd.R_far (p := ⟨gb354, 0, none⟩) (Kd.R_types HO332.out BK354.out (by decide)) (fun _ hk => hk.2) (.slice Ao65 t350.length co65)) (fun _ h_ => h_.1))) hb); have n3_ := Aside0.mk (Kd.R_elder' (rU (Kd.R_mono (Kd.R_far (p := ⟨gb354, 0, none⟩) (Kd.R_types HO352.out BK354.out (by decide)) (fun _ hk => hk.2) (.slice Ao65 t350.length co65)) (fun _ h_ => h_.1))) (Kd.R_base ho0) hb); have n4_ := Aside0.mk (Kd.R_lower (Kd.R_new' (Kd.R_new' (Kd.R_new' ho0 (Kd.R_lt (rU (Kd.R_mono (Kd.R_far (p := ⟨gb354, 0, none⟩) (Kd.R_types HO_9.out BK354.out (by decide)) (fun _ hk => hk.2) (.slice Ao65 t350.length co65)) (fun _ h_ => h_.1))))) (Kd.R_lt (rU (Kd.R_mono (Kd.R_far (p := ⟨gb354, 0, none⟩) (Kd.R_types HO_321000.out BK354.out (by decide)) (fun _ hk => hk.2) (.slice Ao65 t350.length co65)) (fun _ h_ => h_.1))))) (Kd.R_lt (rU (Kd.R_mono (Kd.R_far (p := ⟨gb354, 0, none⟩) (Kd.R_types HO352.out BK354.out (by decide)) (fun _ hk => hk.2) (.slice Ao65 t350.length co65)) (fun _ h_ => h_.1))))) (below_size (by repeat (first | (with_reducible first | exact HB.out | apply below_alloc | apply pw_below_drewN | apply below_drew1 | refine below_set ?_ GE315.out | refine below_set ?_ GE320.out | refine below_set ?_ GE354.out) | exact HB.out)))); have n5_ := Aside0.mk (blk_below (g := gb315) (o := .cells #[.slice none 0 0] 27 (0, 0)) (by (with_reducible repeat (first | refine blk_drewN ?_ _ | refine blk_drew ?_ | refine blk_alloc ?_ _)); refine blk_far ?_ NB315_354.out _; (with_reducible repeat (first | refine blk_drewN ?_ _ | refine blk_drew ?_ | refine blk_alloc ?_ _)); exact BK315.out) hb); have n6_ := Aside0.mk (blk_below (g := gb320) (o := .cells #[.slice Ao61 x321000_1.length co61] 27 (0, 0)) (by (with_reducible repeat (first | refine blk_drewN ?_ _ | refine blk_drew ?_ | refine blk_alloc ?_ _)); refine blk_far ?_ NB320_354.out _; (with_reducible repeat (first | refine blk_drewN ?_ _ | refine blk_drew ?_ | refine blk_alloc ?_ _)); exact BK320.out) hb); have n7_ := Aside0.mk (blk_below (g := gb354) (o := .cells #[.slice Ao65 t350.length co65] 27 (0, 0)) (by (with_reducible repeat (first | refine blk_drewN ?_ _ | refine blk_drew ?_ | refine blk_alloc ?_ _)); refine blk_put (cs := #[.slice none 0 0]) ?_ 0 _ rfl; (with_reducible repeat (first | refine blk_drewN ?_ _ | refine blk_drew ?_ | refine blk_alloc ?_ _)); exact BK354.out) hb); have n8_ := Aside0.mk (below_step (by repeat (first | (with_reducible first | exact HB.out | apply below_alloc | apply pw_below_drewN | apply below_drew1 | refine below_set ?_ GE315.out | refine below_set ?_ GE320.out | refine below_set ?_ GE354.out) | exact HB.out)) hb); clear HO_9; clear HO_321000; clear HO332; clear HO352; clear BK315; clear BK320; clear BK354; clear HB; have HO_9 := n0_; have HO_321000 := n1_; have HO332 := n2_; have HO352 := n3_; have HO358 := n4_; have BK315 := n5_; have BK320 := n6_; have BK354 := n7_; have HB := n8_; clear n0_ n1_ n2_ n3_ n4_ n5_ n6_ n7_ n8_; (try clear hb); (try clear hb2); (try clear hk); (try clear hi); (try clear ho0); have hcz71_0 : w70.cell? ⟨gb354, 0, none⟩ = some (.slice Ao65 t350.length co65) := (blk_cell BK354.out 0).trans rfl; have hfz71_0 := blk_frozen BK354.out 0; have hcz72_0 : w70.cell? ⟨gb320, 0, none⟩ = some (.slice Ao61 x321000_1.length co61) := (blk_cell BK320.out 0).trans rfl; have hfz72_0 := blk_frozen BK320.out 0))
          go_roundg k1
          case measure => have := HK1.out; omega
          case rel => exact ⟨(t355), (wrap64 (x11_1 + 1)), (t350), (.slice Ao65 t350.length co65), (by first | rfl | (simp; done) | (simp [*]; done)), H', ⟨by have := HK1.out; omega⟩, ⟨by (with_reducible repeat (first | apply Kd.R_alloc | apply Kd.R_drewN | apply Kd.R_drew)); exact Kd.R_mono (Kd.R_far (p := ⟨gb320, 0, none⟩) (Kd.R_types HO358.out BK320.out (by decide)) (fun _ hk => hk.2) (.slice Ao65 t350.length co65)) (fun _ hk => hk.1.2)⟩, ⟨by (with_reducible repeat (first | apply Kd.R_alloc | apply Kd.R_drewN | apply Kd.R_drew)); exact Kd.R_mono (Kd.R_far (p := ⟨gb320, 0, none⟩) (Kd.R_types HO352.out BK320.out (by decide)) (fun _ hk => hk.2) (.slice Ao65 t350.length co65)) (fun _ hk => hk.1.2)⟩, ⟨by (with_reducible repeat (first | refine blk_drewN ?_ _ | refine blk_drew ?_ | refine blk_alloc ?_ _)); refine blk_far ?_ NB315_320.out _; (with_reducible repeat (first | refine blk_drewN ?_ _ | refine blk_drew ?_ | refine blk_alloc ?_ _)); exact BK315.out⟩, ⟨by (with_reducible repeat (first | refine blk_drewN ?_ _ | refine blk_drew ?_ | refine blk_alloc ?_ _)); refine blk_put (cs := #[.slice Ao61 x321000_1.length co61]) ?_ 0 _ rfl; (with_reducible repeat (first | refine blk_drewN ?_ _ | refine blk_drew ?_ | refine blk_alloc ?_ _)); exact BK320.out⟩, ⟨by repeat (first | (with_reducible first | exact HB.out | apply below_alloc | apply pw_below_drewN | apply below_drew1 | refine below_set ?_ GE315.out | refine below_set ?_ GE320.out | refine below_set ?_ GE354.out) | exact HB.out)⟩⟩
         ·
          rw [if_neg c55] at H
          have c55b0 : (t353 == 0) = false := beq_eq_false_iff_ne.mpr c55
          have c55b1 : (t353 != 0) = true := bne_iff_ne.mpr c55
          have H' := Aside0.mk H
          clear H
          go_wp2_with (first | ((with_reducible refine gate_dst (N := 47) rfl ?_); refine Kd.R_lit k41 _ 41 ?hg (N := 47) ?hd (xs := ([] : List (S41))) (inner := []) (ok := fun _ => True) (okp := fun _ => True) ?hr ?hp (fun _ hk => hk) trivial (Below.refl _ _) (Nat.le_refl _) (by simp) ?_; (case hd => rfl); (case hg => rfl); (case hr => first | (go_simp; done) | (go_simp; rfl)); (case hp => exact (Reps.none _ _)); intro v327 w73 ho74 hb hg_ hnew_; clear hg_ hnew_; (first | rw [← Ny326.out] at ho74 | (simp only [Int.reduceToNat] at ho74; rw [← Ny326.out] at ho74)); have n0_ := Aside0.mk (Kd.R_below (rU HO_9.out) hb); have n1_ := Aside0.mk (Kd.R_below (rU HO_321000.out) hb); have n2_ := Aside0.mk (Kd.R_lower ho74 (below_size (by repeat (first | (with_reducible first | exact HB.out | apply below_alloc | apply pw_below_drewN | apply below_drew1 | refine below_set ?_ GE315.out | refine below_set ?_ GE320.out) | exact HB.out)))); have n3_ := Aside0.mk (blk_below (g := gb315) (o := .cells #[.slice none 0 0] 27 (0, 0)) (kU BK315.out) hb); have n4_ := Aside0.mk (blk_below (g := gb320) (o := .cells #[u321000] 27 (0, 0)) (kU BK320.out) hb); have n5_ := Aside0.mk (below_step (by repeat (first | (with_reducible first | exact HB.out | apply below_alloc | apply pw_below_drewN | apply below_drew1 | refine below_set ?_ GE315.out | refine below_set ?_ GE320.out) | exact HB.out)) hb); clear HO_9; clear HO_321000; clear BK315; clear BK320; clear HB; have HO_9 := n0_; have HO_321000 := n1_; have HO328 := n2_; have BK315 := n3_; have BK320 := n4_; have HB := n5_; clear n0_ n1_ n2_ n3_ n4_ n5_; clear hb ho74; have p329 : 0 ≤ (x11_1 : Int) := of_decide_eq_true (by first | (with_reducible assumption) | assumption); have q329 : x11_1 < (l1.length : Int) := of_decide_eq_true (by first | (with_reducible assumption) | assumption); obtain ⟨ad329, A329_1, c329_1, e329, hx329_0, hx329_1, hl329_1, hi329_1⟩ := at_T57 HR1.out x11_1 p329 q329; (try rw [← Nbq16.out] at hx329_0); cases e329; replace hx329_0 := (HB.out.cell (World.block_lt_of_cell? w _ hx329_0)).trans hx329_0; replace hx329_1 := (HB.out.cell (World.block_lt_of_cell? w _ hx329_1)).trans hx329_1; have HR329_1 := Aside0.mk hi329_1; have HC329_1 := Aside0.mk hl329_1; clear hi329_1 hl329_1; replace p329 := eq_true p329; replace q329 := eq_true q329) | ((with_reducible refine gate_builtin (b := .append) (xs := #[.tmp 47, .tmp 52]) rfl ?_); at_builtin; refine Kd.R_append_rows k41 (w0 := w) w.heap.size rfl (.tmp 47) (.tmp 52) 32 41 (.agg #[(.int .i64 0), (.int .i64 0), (.int .i64 0)]) 24 rfl Try.underlying32 info41 rfl (by decide) (by omega) v327 y326 ((rd_T57 l1 x11_1).f1) _ _ _ (fun _ => True) (fun _ => False) rfl rfl ?aO ?aR (fun _ _ h => h) (fun _ h => h.elim) ?aF ?aB ?aS ?aL ?_; (case aR => repeat (first | exact (Kd.C_below HR329_1.out HB.out) | (with_reducible refine Kd.C_alloc ?_ _) | (with_reducible refine Kd.C_drewN ?_ _) | (with_reducible refine Kd.C_drew ?_))); (case aB => exact (by repeat (first | (with_reducible first | exact HB.out | apply below_alloc | apply pw_below_drewN | apply below_drew1 | refine below_set ?_ GE315.out | refine below_set ?_ GE320.out) | exact HB.out))); (case aF => exact (fun _ _ => trivial)); (case aO => exact (rU HO328.out)); (case aS => exact (below_size (by repeat (first | (with_reducible first | exact HB.out | apply below_alloc | apply pw_below_drewN | apply below_drew1 | refine below_set ?_ GE315.out | refine below_set ?_ GE320.out) | exact HB.out)))); (case aL => have := LMc15.out; omega); intro v331 w75 ho hb hg hat; rw [← Ny330.out] at ho; have n0_ := Aside0.mk (Kd.R_over' (rU HO_9.out) (Kd.R_typed (rU HO328.out)) (by decide) hg); have n1_ := Aside0.mk (Kd.R_over' (rU HO_321000.out) (Kd.R_typed (rU HO328.out)) (by decide) hg); have n2_ := Aside0.mk (blk_grown (g := gb315) (o := .cells #[.slice none 0 0] 27 (0, 0)) (kU BK315.out) hg (Kd.R_ne HO328.out BK315.out (by decide))); have n3_ := Aside0.mk (blk_grown (g := gb320) (o := .cells #[u321000] 27 (0, 0)) (kU BK320.out) hg (Kd.R_ne HO328.out BK320.out (by decide))); have n4_ := Aside0.mk (hb); have n5_ := Aside0.mk (ho); clear HO_9; clear HO_321000; clear BK315; clear BK320; clear HB; clear HO328; have HO_9 := n0_; have HO_321000 := n1_; have BK315 := n2_; have BK320 := n3_; have HB := n4_; have HO332 := n5_; clear n0_ n1_ n2_ n3_ n4_ n5_; clear ho hb hg hat; have p333 : 0 ≤ (x11_1 : Int) := of_decide_eq_true (by first | (with_reducible assumption) | assumption); have q333 : x11_1 < (l1.length : Int) := of_decide_eq_true (by first | (with_reducible assumption) | assumption); obtain ⟨ad333, A333_1, c333_1, e333, hx333_0, hx333_1, hl333_1, hi333_1⟩ := at_T57 HR1.out x11_1 p333 q333; (try rw [← Nbq16.out] at hx333_0); obtain rfl : ad329 = ad333 := (by injection e333); replace hx333_0 := (HB.out.cell (World.block_lt_of_cell? w _ hx333_0)).trans hx333_0; replace hx333_1 := (HB.out.cell (World.block_lt_of_cell? w _ hx333_1)).trans hx333_1; have HR333_1 := Aside0.mk hi333_1; have HC333_1 := Aside0.mk hl333_1; clear hi333_1 hl333_1; replace p333 := eq_true p333; replace q333 := eq_true q333; have hnb76 := NB320_315.out; have hnc76 := NB315_320.out; have hcz77_0 : w75.cell? ⟨gb320, 0, none⟩ = some (u321000) := (blk_cell BK320.out 0).trans rfl; have hfz77_0 := blk_frozen BK320.out 0; obtain ⟨Ao78, co78, eo78⟩ := Kd.R_slice HO_321000.out; subst eo78; obtain ⟨Ao79, co79, eo79⟩ := Kd.R_slice HO332.out; subst eo79) | ((with_reducible refine gate_callee (f := 12) rfl ?_); refine goesL_ (some 91) rfl rfl Try.func12 (by kernel_rfl) rfl #[.agg #[.slice Ao78 x321000_1.length co78], .slice Ao79 y330.length co79] rfl (by (try simp only [List.map_toArray, List.map_cons, List.map_nil]); first | done | rfl | (simp only [List.length_drop, List.length_take]; rfl)) ?_; (with_reducible refine (refcount_Counts_Add.calls k1 _ _ x321000_1 _ _ y330 t350 t353 _ ?side1 ?side2 ?side3 ?side4 A52.out).mono ?_); (case side1 => repeat (first | exact (Kd.R_reads' HO_321000.out).2.2 | (with_reducible refine Kd.C_alloc ?_ _) | (with_reducible refine Kd.C_drewN ?_ _) | (with_reducible refine Kd.C_drew ?_))); (case side2 => exact (Kd.R_reads' HO_321000.out).2.1); (case side3 => repeat (first | exact (Kd.R_reads' HO332.out).2.2 | (with_reducible refine Kd.C_alloc ?_ _) | (with_reducible refine Kd.C_drewN ?_ _) | (with_reducible refine Kd.C_drew ?_))); (case side4 => exact (Kd.R_reads' HO332.out).2.1); rintro e w80 ⟨v351, rfl, ho0, hb⟩; refine ⟨_, rfl, ?_⟩; have n0_ := Aside0.mk (Kd.R_elder' (rU HO_9.out) (Kd.R_base ho0) hb); have n1_ := Aside0.mk (Kd.R_elder' (rU HO_321000.out) (Kd.R_base ho0) hb); have n2_ := Aside0.mk (Kd.R_below (rU HO332.out) hb); have n3_ := Aside0.mk (Kd.R_lower (Kd.R_new' (Kd.R_new' ho0 (Kd.R_lt (rU HO_9.out))) (Kd.R_lt (rU HO_321000.out))) (below_size (by repeat (first | (with_reducible first | exact HB.out | apply below_alloc | apply pw_below_drewN | apply below_drew1 | refine below_set ?_ GE315.out | refine below_set ?_ GE320.out) | exact HB.out)))); have n4_ := Aside0.mk (blk_below (g := gb315) (o := .cells #[.slice none 0 0] 27 (0, 0)) (kU BK315.out) hb); have n5_ := Aside0.mk (blk_below (g := gb320) (o := .cells #[.slice Ao78 x321000_1.length co78] 27 (0, 0)) (kU BK320.out) hb); have n6_ := Aside0.mk (below_step (by repeat (first | (with_reducible first | exact HB.out | apply below_alloc | apply pw_below_drewN | apply below_drew1 | refine below_set ?_ GE315.out | refine below_set ?_ GE320.out) | exact HB.out)) hb); clear HO_9; clear HO_321000; clear HO332; clear BK315; clear BK320; clear HB; have HO_9 := n0_; have HO_321000 := n1_; have HO332 := n2_; have HO352 := n3_; have BK315 := n4_; have BK320 := n5_; have HB := n6_; clear n0_ n1_ n2_ n3_ n4_ n5_ n6_; (try clear hb); (try clear hb2); (try clear hk); (try clear hi); (try clear ho0)) | ((with_reducible refine gate_dst (N := 19) rfl ?_); refine box_event ?hg (N := 19) ?hd (cs := #[.slice none 0 0]) (t := 27) ?hr ?_; (case hd => rfl); (case hg => rfl); (case hr => first | (go_simp; done) | (go_simp; rfl)); intro gb354 hg w81 hbox hb; have n0_ := Aside0.mk (Kd.R_below (rU HO_9.out) hb); have n1_ := Aside0.mk (Kd.R_below (rU HO_321000.out) hb); have n2_ := Aside0.mk (Kd.R_below (rU HO332.out) hb); have n3_ := Aside0.mk (Kd.R_below (rU HO352.out) hb); have n4_ := Aside0.mk (blk_below (g := gb315) (o := .cells #[.slice none 0 0] 27 (0, 0)) (kU BK315.out) hb); have n5_ := Aside0.mk (blk_below (g := gb320) (o := .cells #[.slice Ao78 x321000_1.length co78] 27 (0, 0)) (kU BK320.out) hb); have n6_ := Aside0.mk (below_step (by repeat (first | (with_reducible first | exact HB.out | apply below_alloc | apply pw_below_drewN | apply below_drew1 | refine below_set ?_ GE315.out | refine below_set ?_ GE320.out) | exact HB.out)) hb); have n7_ := Aside0.mk (hbox); have n8_ := Aside0.mk ((by rw [hg]; exact (below_size (by repeat (first | (with_reducible first | exact HB.out | apply below_alloc | apply pw_below_drewN | apply below_drew1 | refine below_set ?_ GE315.out | refine below_set ?_ GE320.out) | exact HB.out))) : w.heap.size ≤ gb354)); have n9_ := Aside0.mk ((by rw [hg]; exact (below_size (by repeat (first | (with_reducible first | exact HB.out | apply below_alloc | apply pw_below_drewN | apply below_drew1 | refine below_set ?_ GE315.out | refine below_set ?_ GE320.out) | exact HB.out))) : w.heap.size ≤ gb354)); have n10_ := Aside0.mk ((by rw [hg]; exact Nat.ne_of_lt (blk_lt (g := gb315) (o := .cells #[.slice none 0 0] 27 (0, 0)) (kU BK315.out)) : gb315 ≠ gb354)); have n11_ := Aside0.mk ((by rw [hg]; exact Nat.ne_of_gt (blk_lt (g := gb315) (o := .cells #[.slice none 0 0] 27 (0, 0)) (kU BK315.out)) : gb354 ≠ gb315)); have n12_ := Aside0.mk ((by rw [hg]; exact Nat.ne_of_lt (blk_lt (g := gb320) (o := .cells #[.slice Ao78 x321000_1.length co78] 27 (0, 0)) (kU BK320.out)) : gb320 ≠ gb354)); have n13_ := Aside0.mk ((by rw [hg]; exact Nat.ne_of_gt (blk_lt (g := gb320) (o := .cells #[.slice Ao78 x321000_1.length co78] 27 (0, 0)) (kU BK320.out)) : gb354 ≠ gb320)); clear HO_9; clear HO_321000; clear HO332; clear HO352; clear BK315; clear BK320; clear HB; have HO_9 := n0_; have HO_321000 := n1_; have HO332 := n2_; have HO352 := n3_; have BK315 := n4_; have BK320 := n5_; have HB := n6_; have BK354 := n7_; have GW354 := n8_; have GE354 := n9_; have NB315_354 := n10_; have NB354_315 := n11_; have NB320_354 := n12_; have NB354_320 := n13_; clear n0_ n1_ n2_ n3_ n4_ n5_ n6_ n7_ n8_ n9_ n10_ n11_ n12_ n13_; clear hb hbox hg; obtain ⟨Ao82, co82, eo82⟩ := Kd.R_slice HO352.out; subst eo82; have hnb83 := NB354_315.out; have hnc83 := NB315_354.out; have hnb84 := NB354_320.out; have hnc84 := NB320_354.out; have hcz85_0 : w81.cell? ⟨gb354, 0, none⟩ = some (.slice none 0 0) := (blk_cell BK354.out 0).trans rfl; have hfz85_0 := blk_frozen BK354.out 0; obtain ⟨Ao86, co86, eo86⟩ := Kd.R_slice HO_9.out; subst eo86) | ((with_reducible refine gate_callee (f := 13) rfl ?_); refine goesL_ (some 97) rfl rfl Try.func13 (by kernel_rfl) rfl #[.slice Ao86 x9_1.length co86, .slice Ao79 y330.length co79] rfl (by (try simp only [List.map_toArray, List.map_cons, List.map_nil]); first | done | rfl | (simp only [List.length_drop, List.length_take]; rfl)) ?_; (with_reducible refine (tegularef34_Counts_Add.calls k1 _ _ x9_1 _ _ y330 t355 t356 _ ?side1 ?side2 ?side3 ?side4 A53.out).mono ?_); (case side1 => refine (Kd.R_reads' (e := 3) (base := w.heap.size) (ok := fun k_ => (some k_ ≠ (.slice Ao78 x321000_1.length co78 : Value).ownBlock ∧ some k_ ≠ (.slice Ao82 t350.length co82 : Value).ownBlock)) (n := x9_1.length) (c := co86) ?_).2.2; exact (rU (Kd.R_mono (Kd.R_far (p := ⟨gb354, 0, none⟩) (Kd.R_types HO_9.out BK354.out (by decide)) (fun _ hk => hk.2) (.slice Ao82 t350.length co82)) (fun _ h_ => h_.1)))); (case side2 => exact (Kd.R_reads' HO_9.out).2.1); (case side3 => refine (Kd.R_reads' (e := 41) (base := w.heap.size) (ok := fun k_ => True) (n := y330.length) (c := co79) ?_).2.2; exact (rU (Kd.R_mono (Kd.R_far (p := ⟨gb354, 0, none⟩) (Kd.R_types HO332.out BK354.out (by decide)) (fun _ hk => hk.2) (.slice Ao82 t350.length co82)) (fun _ h_ => h_.1)))); (case side4 => exact (Kd.R_reads' HO332.out).2.1); rintro e w87 ⟨v357, rfl, ho0, hb⟩; refine ⟨_, rfl, ?_⟩; have n0_ := Aside0.mk (Kd.R_elder' (rU (Kd.R_mono (Kd.R_far (p := ⟨gb354, 0, none⟩) (Kd.R_types HO_9.out BK354.out (by decide)) (fun _ hk => hk.2) (.slice Ao82 t350.length co82)) (fun _ h_ => h_.1))) (Kd.R_base ho0) hb); have n1_ := Aside0.mk (Kd.R_elder' (rU (Kd.R_mono (Kd.R_far (p := ⟨gb354, 0, none⟩) (Kd.R_types HO_321000.out BK354.out (by decide)) (fun _ hk => hk.2) (.slice Ao82 t350.length co82)) (fun _ h_ => h_.1))) (Kd.R_base ho0) hb); have n2_ := Aside0.mk (Kd.R_below (rU (Kd.R_mono (Kd.R_far (p := ⟨gb354, 0, none⟩) (Kd.R_types HO332.out BK354.out (by decide)) (fun _ hk => hk.2) (.slice Ao82 t350.length co82)) (fun _ h_ => h_.1))) hb); have n3_ := Aside0.mk (Kd.R_elder' (rU (Kd.R_mono (Kd.R_far (p := ⟨gb354, 0, none⟩) (Kd.R_types HO352.out BK354.out (by decide)) (fun _ hk => hk.2) (.slice Ao82 t350.length co82)) (fun _ h_ => h_.1))) (Kd.R_base ho0) hb); have n4_ := Aside0.mk (Kd.R_lower (Kd.R_new' (Kd.R_new' (Kd.R_new' ho0 (Kd.R_lt (rU (Kd.R_mono (Kd.R_far (p := ⟨gb354, 0, none⟩) (Kd.R_types HO_9.out BK354.out (by decide)) (fun _ hk => hk.2) (.slice Ao82 t350.length co82)) (fun _ h_ => h_.1))))) (Kd.R_lt (rU (Kd.R_mono (Kd.R_far (p := ⟨gb354, 0, none⟩) (Kd.R_types HO_321000.out BK354.out (by decide)) (fun _ hk => hk.2) (.slice Ao82 t350.length co82)) (fun _ h_ => h_.1))))) (Kd.R_lt (rU (Kd.R_mono (Kd.R_far (p := ⟨gb354, 0, none⟩) (Kd.R_types HO352.out BK354.out (by decide)) (fun _ hk => hk.2) (.slice Ao82 t350.length co82)) (fun _ h_ => h_.1))))) (below_size (by repeat (first | (with_reducible first | exact HB.out | apply below_alloc | apply pw_below_drewN | apply below_drew1 | refine below_set ?_ GE315.out | refine below_set ?_ GE320.out | refine below_set ?_ GE354.out) | exact HB.out)))); have n5_ := Aside0.mk (blk_below (g := gb315) (o := .cells #[.slice none 0 0] 27 (0, 0)) (by (with_reducible repeat (first | refine blk_drewN ?_ _ | refine blk_drew ?_ | refine blk_alloc ?_ _)); refine blk_far ?_ NB315_354.out _; (with_reducible repeat (first | refine blk_drewN ?_ _ | refine blk_drew ?_ | refine blk_alloc ?_ _)); exact BK315.out) hb); have n6_ := Aside0.mk (blk_below (g := gb320) (o := .cells #[.slice Ao78 x321000_1.length co78] 27 (0, 0)) (by (with_reducible repeat (first | refine blk_drewN ?_ _ | refine blk_drew ?_ | refine blk_alloc ?_ _)); refine blk_far ?_ NB320_354.out _; (with_reducible repeat (first | refine blk_drewN ?_ _ | refine blk_drew ?_ | refine blk_alloc ?_ _)); exact BK320.out) hb); have n7_ := Aside0.mk (blk_below (g := gb354) (o := .cells #[.slice Ao82 t350.length co82] 27 (0, 0)) (by (with_reducible repeat (first | refine blk_drewN ?_ _ | refine blk_drew ?_ | refine blk_alloc ?_ _)); refine blk_put (cs := #[.slice none 0 0]) ?_ 0 _ rfl; (with_reducible repeat (first | refine blk_drewN ?_ _ | refine blk_drew ?_ | refine blk_alloc ?_ _)); exact BK354.out) hb); have n8_ := Aside0.mk (below_step (by repeat (first | (with_reducible first | exact HB.out | apply below_alloc | apply pw_below_drewN | apply below_drew1 | refine below_set ?_ GE315.out | refine below_set ?_ GE320.out | refine below_set ?_ GE354.out) | exact HB.out)) hb); clear HO_9; clear HO_321000; clear HO332; clear HO352; clear BK315; clear BK320; clear BK354; clear HB; have HO_9 := n0_; have HO_321000 := n1_; have HO332 := n2_; have HO352 := n3_; have HO358 := n4_; have BK315 := n5_; have BK320 := n6_; have BK354 := n7_; have HB := n8_; clear n0_ n1_ n2_ n3_ n4_ n5_ n6_ n7_ n8_; (try clear hb); (try clear hb2); (try clear hk); (try clear hi); (try clear ho0)))
          go_roundg k1
          case measure => have := HK1.out; omega
          case rel => exact ⟨(x9_1), (wrap64 (x11_1 + 1)), (x321000_1), (.slice Ao78 x321000_1.length co78), (by first | rfl | (simp; done) | (simp [*]; done)), H', ⟨by have := HK1.out; omega⟩, ⟨by (with_reducible repeat (first | apply Kd.R_alloc | apply Kd.R_drewN | apply Kd.R_drew)); exact Kd.R_mono HO_9.out (fun _ hk => hk.1.1)⟩, ⟨by (with_reducible repeat (first | apply Kd.R_alloc | apply Kd.R_drewN | apply Kd.R_drew)); exact Kd.R_mono HO_321000.out (fun _ hk => hk.1.1)⟩, ⟨by (with_reducible repeat (first | refine blk_drewN ?_ _ | refine blk_drew ?_ | refine blk_alloc ?_ _)); exact BK315.out⟩, ⟨by (with_reducible repeat (first | refine blk_drewN ?_ _ | refine blk_drew ?_ | refine blk_alloc ?_ _)); exact BK320.out⟩, ⟨by repeat (first | (with_reducible first | exact HB.out | apply below_alloc | apply pw_below_drewN | apply below_drew1 | refine below_set ?_ GE315.out | refine below_set ?_ GE320.out | refine below_set ?_ GE354.out) | exact HB.out)⟩⟩
        ·
         rw [if_neg c54] at H
         have c54b0 : (t353 == t356) = false := beq_eq_false_iff_ne.mpr c54
         have c54b1 : (t353 != t356) = true := bne_iff_ne.mpr c54
         simp only [Option.some.injEq, Prod.mk.injEq] at H
         obtain ⟨rfl, rfl, rfl⟩ := H
         go_wp2_with (first | ((with_reducible refine gate_dst (N := 47) rfl ?_); refine Kd.R_lit k41 _ 41 ?hg (N := 47) ?hd (xs := ([] : List (S41))) (inner := []) (ok := fun _ => True) (okp := fun _ => True) ?hr ?hp (fun _ hk => hk) trivial (Below.refl _ _) (Nat.le_refl _) (by simp) ?_; (case hd => rfl); (case hg => rfl); (case hr => first | (go_simp; done) | (go_simp; rfl)); (case hp => exact (Reps.none _ _)); intro v327 w88 ho89 hb hg_ hnew_; clear hg_ hnew_; (first | rw [← Ny326.out] at ho89 | (simp only [Int.reduceToNat] at ho89; rw [← Ny326.out] at ho89)); have n0_ := Aside0.mk (Kd.R_below (rU HO_9.out) hb); have n1_ := Aside0.mk (Kd.R_below (rU HO_321000.out) hb); have n2_ := Aside0.mk (Kd.R_lower ho89 (below_size (by repeat (first | (with_reducible first | exact HB.out | apply below_alloc | apply pw_below_drewN | apply below_drew1 | refine below_set ?_ GE315.out | refine below_set ?_ GE320.out) | exact HB.out)))); have n3_ := Aside0.mk (blk_below (g := gb315) (o := .cells #[.slice none 0 0] 27 (0, 0)) (kU BK315.out) hb); have n4_ := Aside0.mk (blk_below (g := gb320) (o := .cells #[u321000] 27 (0, 0)) (kU BK320.out) hb); have n5_ := Aside0.mk (below_step (by repeat (first | (with_reducible first | exact HB.out | apply below_alloc | apply pw_below_drewN | apply below_drew1 | refine below_set ?_ GE315.out | refine below_set ?_ GE320.out) | exact HB.out)) hb); clear HO_9; clear HO_321000; clear BK315; clear BK320; clear HB; have HO_9 := n0_; have HO_321000 := n1_; have HO328 := n2_; have BK315 := n3_; have BK320 := n4_; have HB := n5_; clear n0_ n1_ n2_ n3_ n4_ n5_; clear hb ho89; have p329 : 0 ≤ (x11_1 : Int) := of_decide_eq_true (by first | (with_reducible assumption) | assumption); have q329 : x11_1 < (l1.length : Int) := of_decide_eq_true (by first | (with_reducible assumption) | assumption); obtain ⟨ad329, A329_1, c329_1, e329, hx329_0, hx329_1, hl329_1, hi329_1⟩ := at_T57 HR1.out x11_1 p329 q329; (try rw [← Nbq16.out] at hx329_0); cases e329; replace hx329_0 := (HB.out.cell (World.block_lt_of_cell? w _ hx329_0)).trans hx329_0; replace hx329_1 := (HB.out.cell (World.block_lt_of_cell? w _ hx329_1)).trans hx329_1; have HR329_1 := Aside0.mk hi329_1; have HC329_1 := Aside0.mk hl329_1; clear hi329_1 hl329_1; replace p329 := eq_true p329; replace q329 := eq_true q329) | ((with_reducible refine gate_builtin (b := .append) (xs := #[.tmp 47, .tmp 52]) rfl ?_); at_builtin; refine Kd.R_append_rows k41 (w0 := w) w.heap.size rfl (.tmp 47) (.tmp 52) 32 41 (.agg #[(.int .i64 0), (.int .i64 0), (.int .i64 0)]) 24 rfl Try.underlying32 info41 rfl (by decide) (by omega) v327 y326 ((rd_T57 l1 x11_1).f1) _ _ _ (fun _ => True) (fun _ => False) rfl rfl ?aO ?aR (fun _ _ h => h) (fun _ h => h.elim) ?aF ?aB ?aS ?aL ?_; (case aR => repeat (first | exact (Kd.C_below HR329_1.out HB.out) | (with_reducible refine Kd.C_alloc ?_ _) | (with_reducible refine Kd.C_drewN ?_ _) | (with_reducible refine Kd.C_drew ?_))); (case aB => exact (by repeat (first | (with_reducible first | exact HB.out | apply below_alloc | apply pw_below_drewN | apply below_drew1 | refine below_set ?_ GE315.out | refine below_set ?_ GE320.out) | exact HB.out))); (case aF => exact (fun _ _ => trivial)); (case aO => exact (rU HO328.out)); (case aS => exact (below_size (by repeat (first | (with_reducible first | exact HB.out | apply below_alloc | apply pw_below_drewN | apply below_drew1 | refine below_set ?_ GE315.out | refine below_set ?_ GE320.out) | exact HB.out)))); (case aL => have := LMc15.out; omega); intro v331 w90 ho hb hg hat; rw [← Ny330.out] at ho; have n0_ := Aside0.mk (Kd.R_over' (rU HO_9.out) (Kd.R_typed (rU HO328.out)) (by decide) hg); have n1_ := Aside0.mk (Kd.R_over' (rU HO_321000.out) (Kd.R_typed (rU HO328.out)) (by decide) hg); have n2_ := Aside0.mk (blk_grown (g := gb315) (o := .cells #[.slice none 0 0] 27 (0, 0)) (kU BK315.out) hg (Kd.R_ne HO328.out BK315.out (by decide))); have n3_ := Aside0.mk (blk_grown (g := gb320) (o := .cells #[u321000] 27 (0, 0)) (kU BK320.out) hg (Kd.R_ne HO328.out BK320.out (by decide))); have n4_ := Aside0.mk (hb); have n5_ := Aside0.mk (ho); clear HO_9; clear HO_321000; clear BK315; clear BK320; clear HB; clear HO328; have HO_9 := n0_; have HO_321000 := n1_; have BK315 := n2_; have BK320 := n3_; have HB := n4_; have HO332 := n5_; clear n0_ n1_ n2_ n3_ n4_ n5_; clear ho hb hg hat; have p333 : 0 ≤ (x11_1 : Int) := of_decide_eq_true (by first | (with_reducible assumption) | assumption); have q333 : x11_1 < (l1.length : Int) := of_decide_eq_true (by first | (with_reducible assumption) | assumption); obtain ⟨ad333, A333_1, c333_1, e333, hx333_0, hx333_1, hl333_1, hi333_1⟩ := at_T57 HR1.out x11_1 p333 q333; (try rw [← Nbq16.out] at hx333_0); obtain rfl : ad329 = ad333 := (by injection e333); replace hx333_0 := (HB.out.cell (World.block_lt_of_cell? w _ hx333_0)).trans hx333_0; replace hx333_1 := (HB.out.cell (World.block_lt_of_cell? w _ hx333_1)).trans hx333_1; have HR333_1 := Aside0.mk hi333_1; have HC333_1 := Aside0.mk hl333_1; clear hi333_1 hl333_1; replace p333 := eq_true p333; replace q333 := eq_true q333; have hnb91 := NB320_315.out; have hnc91 := NB315_320.out; have hcz92_0 : w90.cell? ⟨gb320, 0, none⟩ = some (u321000) := (blk_cell BK320.out 0).trans rfl; have hfz92_0 := blk_frozen BK320.out 0; obtain ⟨Ao93, co93, eo93⟩ := Kd.R_slice HO_321000.out; subst eo93; obtain ⟨Ao94, co94, eo94⟩ := Kd.R_slice HO332.out; subst eo94) | ((with_reducible refine gate_callee (f := 12) rfl ?_); refine goesL_ (some 91) rfl rfl Try.func12 (by kernel_rfl) rfl #[.agg #[.slice Ao93 x321000_1.length co93], .slice Ao94 y330.length co94] rfl (by (try simp only [List.map_toArray, List.map_cons, List.map_nil]); first | done | rfl | (simp only [List.length_drop, List.length_take]; rfl)) ?_; (with_reducible refine (refcount_Counts_Add.calls k1 _ _ x321000_1 _ _ y330 t350 t353 _ ?side1 ?side2 ?side3 ?side4 A52.out).mono ?_); (case side1 => repeat (first | exact (Kd.R_reads' HO_321000.out).2.2 | (with_reducible refine Kd.C_alloc ?_ _) | (with_reducible refine Kd.C_drewN ?_ _) | (with_reducible refine Kd.C_drew ?_))); (case side2 => exact (Kd.R_reads' HO_321000.out).2.1); (case side3 => repeat (first | exact (Kd.R_reads' HO332.out).2.2 | (with_reducible refine Kd.C_alloc ?_ _) | (with_reducible refine Kd.C_drewN ?_ _) | (with_reducible refine Kd.C_drew ?_))); (case side4 => exact (Kd.R_reads' HO332.out).2.1); rintro e w95 ⟨v351, rfl, ho0, hb⟩; refine ⟨_, rfl, ?_⟩; have n0_ := Aside0.mk (Kd.R_elder' (rU HO_9.out) (Kd.R_base ho0) hb); have n1_ := Aside0.mk (Kd.R_elder' (rU HO_321000.out) (Kd.R_base ho0) hb); have n2_ := Aside0.mk (Kd.R_below (rU HO332.out) hb); have n3_ := Aside0.mk (Kd.R_lower (Kd.R_new' (Kd.R_new' ho0 (Kd.R_lt (rU HO_9.out))) (Kd.R_lt (rU HO_321000.out))) (below_size (by repeat (first | (with_reducible first | exact HB.out | apply below_alloc | apply pw_below_drewN | apply below_drew1 | refine below_set ?_ GE315.out | refine below_set ?_ GE320.out) | exact HB.out)))); have n4_ := Aside0.mk (blk_below (g := gb315) (o := .cells #[.slice none 0 0] 27 (0, 0)) (kU BK315.out) hb); have n5_ := Aside0.mk (blk_below (g := gb320) (o := .cells #[.slice Ao93 x321000_1.length co93] 27 (0, 0)) (kU BK320.out) hb); have n6_ := Aside0.mk (below_step (by repeat (first | (with_reducible first | exact HB.out | apply below_alloc | apply pw_below_drewN | apply below_drew1 | refine below_set ?_ GE315.out | refine below_set ?_ GE320.out) | exact HB.out)) hb); clear HO_9; clear HO_321000; clear HO332; clear BK315; clear BK320; clear HB; have HO_9 := n0_; have HO_321000 := n1_; have HO332 := n2_; have HO352 := n3_; have BK315 := n4_; have BK320 := n5_; have HB := n6_; clear n0_ n1_ n2_ n3_ n4_ n5_ n6_; (try clear hb); (try clear hb2); (try clear hk); (try clear hi); (try clear ho0)) | ((with_reducible refine gate_dst (N := 19) rfl ?_); refine box_event ?hg (N := 19) ?hd (cs := #[.slice none 0 0]) (t := 27) ?hr ?_; (case hd => rfl); (case hg => rfl); (case hr => first | (go_simp; done) | (go_simp; rfl)); intro gb354 hg w96 hbox hb; have n0_ := Aside0.mk (Kd.R_below (rU HO_9.out) hb); have n1_ := Aside0.mk (Kd.R_below (rU HO_321000.out) hb); have n2_ := Aside0.mk (Kd.R_below (rU HO332.out) hb); have n3_ := Aside0.mk (Kd.R_below (rU HO352.out) hb); have n4_ := Aside0.mk (blk_below (g := gb315) (o := .cells #[.slice none 0 0] 27 (0, 0)) (kU BK315.out) hb); have n5_ := Aside0.mk (blk_below (g := gb320) (o := .cells #[.slice Ao93 x321000_1.length co93] 27 (0, 0)) (kU BK320.out) hb); have n6_ := Aside0.mk (below_step (by repeat (first | (with_reducible first | exact HB.out | apply below_alloc | apply pw_below_drewN | apply below_drew1 | refine below_set ?_ GE315.out | refine below_set ?_ GE320.out) | exact HB.out)) hb); have n7_ := Aside0.mk (hbox); have n8_ := Aside0.mk ((by rw [hg]; exact (below_size (by repeat (first | (with_reducible first | exact HB.out | apply below_alloc | apply pw_below_drewN | apply below_drew1 | refine below_set ?_ GE315.out | refine below_set ?_ GE320.out) | exact HB.out))) : w.heap.size ≤ gb354)); have n9_ := Aside0.mk ((by rw [hg]; exact (below_size (by repeat (first | (with_reducible first | exact HB.out | apply below_alloc | apply pw_below_drewN | apply below_drew1 | refine below_set ?_ GE315.out | refine below_set ?_ GE320.out) | exact HB.out))) : w.heap.size ≤ gb354)); have n10_ := Aside0.mk ((by rw [hg]; exact Nat.ne_of_lt (blk_lt (g := gb315) (o := .cells #[.slice none 0 0] 27 (0, 0)) (kU BK315.out)) : gb315 ≠ gb354)); have n11_ := Aside0.mk ((by rw [hg]; exact Nat.ne_of_gt (blk_lt (g := gb315) (o := .cells #[.slice none 0 0] 27 (0, 0)) (kU BK315.out)) : gb354 ≠ gb315)); have n12_ := Aside0.mk ((by rw [hg]; exact Nat.ne_of_lt (blk_lt (g := gb320) (o := .cells #[.slice Ao93 x321000_1.length co93] 27 (0, 0)) (kU BK320.out)) : gb320 ≠ gb354)); have n13_ := Aside0.mk ((by rw [hg]; exact Nat.ne_of_gt (blk_lt (g := gb320) (o := .cells #[.slice Ao93 x321000_1.length co93] 27 (0, 0)) (kU BK320.out)) : gb354 ≠ gb320)); clear HO_9; clear HO_321000; clear HO332; clear HO352; clear BK315; clear BK320; clear HB; have HO_9 := n0_; have HO_321000 := n1_; have HO332 := n2_; have HO352 := n3_; have BK315 := n4_; have BK320 := n5_; have HB := n6_; have BK354 := n7_; have GW354 := n8_; have GE354 := n9_; have NB315_354 := n10_; have NB354_315 := n11_; have NB320_354 := n12_; have NB354_320 := n13_; clear n0_ n1_ n2_ n3_ n4_ n5_ n6_ n7_ n8_ n9_ n10_ n11_ n12_ n13_; clear hb hbox hg; obtain ⟨Ao97, co97, eo97⟩ := Kd.R_slice HO352.out; subst eo97; have hnb98 := NB354_315.out; have hnc98 := NB315_354.out; have hnb99 := NB354_320.out; have hnc99 := NB320_354.out; have hcz100_0 : w96.cell? ⟨gb354, 0, none⟩ = some (.slice none 0 0) := (blk_cell BK354.out 0).trans rfl; have hfz100_0 := blk_frozen BK354.out 0; obtain ⟨Ao101, co101, eo101⟩ := Kd.R_slice HO_9.out; subst eo101) | ((with_reducible refine gate_callee (f := 13) rfl ?_); refine goesL_ (some 97) rfl rfl Try.func13 (by kernel_rfl) rfl #[.slice Ao101 x9_1.length co101, .slice Ao94 y330.length co94] rfl (by (try simp only [List.map_toArray, List.map_cons, List.map_nil]); first | done | rfl | (simp only [List.length_drop, List.length_take]; rfl)) ?_; (with_reducible refine (tegularef34_Counts_Add.calls k1 _ _ x9_1 _ _ y330 t355 t356 _ ?side1 ?side2 ?side3 ?side4 A53.out).mono ?_); (case side1 => refine (Kd.R_reads' (e := 3) (base := w.heap.size) (ok := fun k_ => (some k_ ≠ (.slice Ao93 x321000_1.length co93 : Value).ownBlock ∧ some k_ ≠ (.slice Ao97 t350.length co97 : Value).ownBlock)) (n := x9_1.length) (c := co101) ?_).2.2; exact (rU (Kd.R_mono (Kd.R_far (p := ⟨gb354, 0, none⟩) (Kd.R_types HO_9.out BK354.out (by decide)) (fun _ hk => hk.2) (.slice Ao97 t350.length co97)) (fun _ h_ => h_.1)))); (case side2 => exact (Kd.R_reads' HO_9.out).2.1); (case side3 => refine (Kd.R_reads' (e := 41) (base := w.heap.size) (ok := fun k_ => True) (n := y330.length) (c := co94) ?_).2.2; exact (rU (Kd.R_mono (Kd.R_far (p := ⟨gb354, 0, none⟩) (Kd.R_types HO332.out BK354.out (by decide)) (fun _ hk => hk.2) (.slice Ao97 t350.length co97)) (fun _ h_ => h_.1)))); (case side4 => exact (Kd.R_reads' HO332.out).2.1); rintro e w102 ⟨v357, rfl, ho0, hb⟩; refine ⟨_, rfl, ?_⟩; have n0_ := Aside0.mk (Kd.R_elder' (rU (Kd.R_mono (Kd.R_far (p := ⟨gb354, 0, none⟩) (Kd.R_types HO_9.out BK354.out (by decide)) (fun _ hk => hk.2) (.slice Ao97 t350.length co97)) (fun _ h_ => h_.1))) (Kd.R_base ho0) hb); have n1_ := Aside0.mk (Kd.R_elder' (rU (Kd.R_mono (Kd.R_far (p := ⟨gb354, 0, none⟩) (Kd.R_types HO_321000.out BK354.out (by decide)) (fun _ hk => hk.2) (.slice Ao97 t350.length co97)) (fun _ h_ => h_.1))) (Kd.R_base ho0) hb); have n2_ := Aside0.mk (Kd.R_below (rU (Kd.R_mono (Kd.R_far (p := ⟨gb354, 0, none⟩) (Kd.R_types HO332.out BK354.out (by decide)) (fun _ hk => hk.2) (.slice Ao97 t350.length co97)) (fun _ h_ => h_.1))) hb); have n3_ := Aside0.mk (Kd.R_elder' (rU (Kd.R_mono (Kd.R_far (p := ⟨gb354, 0, none⟩) (Kd.R_types HO352.out BK354.out (by decide)) (fun _ hk => hk.2) (.slice Ao97 t350.length co97)) (fun _ h_ => h_.1))) (Kd.R_base ho0) hb); have n4_ := Aside0.mk (Kd.R_lower (Kd.R_new' (Kd.R_new' (Kd.R_new' ho0 (Kd.R_lt (rU (Kd.R_mono (Kd.R_far (p := ⟨gb354, 0, none⟩) (Kd.R_types HO_9.out BK354.out (by decide)) (fun _ hk => hk.2) (.slice Ao97 t350.length co97)) (fun _ h_ => h_.1))))) (Kd.R_lt (rU (Kd.R_mono (Kd.R_far (p := ⟨gb354, 0, none⟩) (Kd.R_types HO_321000.out BK354.out (by decide)) (fun _ hk => hk.2) (.slice Ao97 t350.length co97)) (fun _ h_ => h_.1))))) (Kd.R_lt (rU (Kd.R_mono (Kd.R_far (p := ⟨gb354, 0, none⟩) (Kd.R_types HO352.out BK354.out (by decide)) (fun _ hk => hk.2) (.slice Ao97 t350.length co97)) (fun _ h_ => h_.1))))) (below_size (by repeat (first | (with_reducible first | exact HB.out | apply below_alloc | apply pw_below_drewN | apply below_drew1 | refine below_set ?_ GE315.out | refine below_set ?_ GE320.out | refine below_set ?_ GE354.out) | exact HB.out)))); have n5_ := Aside0.mk (blk_below (g := gb315) (o := .cells #[.slice none 0 0] 27 (0, 0)) (by (with_reducible repeat (first | refine blk_drewN ?_ _ | refine blk_drew ?_ | refine blk_alloc ?_ _)); refine blk_far ?_ NB315_354.out _; (with_reducible repeat (first | refine blk_drewN ?_ _ | refine blk_drew ?_ | refine blk_alloc ?_ _)); exact BK315.out) hb); have n6_ := Aside0.mk (blk_below (g := gb320) (o := .cells #[.slice Ao93 x321000_1.length co93] 27 (0, 0)) (by (with_reducible repeat (first | refine blk_drewN ?_ _ | refine blk_drew ?_ | refine blk_alloc ?_ _)); refine blk_far ?_ NB320_354.out _; (with_reducible repeat (first | refine blk_drewN ?_ _ | refine blk_drew ?_ | refine blk_alloc ?_ _)); exact BK320.out) hb); have n7_ := Aside0.mk (blk_below (g := gb354) (o := .cells #[.slice Ao97 t350.length co97] 27 (0, 0)) (by (with_reducible repeat (first | refine blk_drewN ?_ _ | refine blk_drew ?_ | refine blk_alloc ?_ _)); refine blk_put (cs := #[.slice none 0 0]) ?_ 0 _ rfl; (with_reducible repeat (first | refine blk_drewN ?_ _ | refine blk_drew ?_ | refine blk_alloc ?_ _)); exact BK354.out) hb); have n8_ := Aside0.mk (below_step (by repeat (first | (with_reducible first | exact HB.out | apply below_alloc | apply pw_below_drewN | apply below_drew1 | refine below_set ?_ GE315.out | refine below_set ?_ GE320.out | refine below_set ?_ GE354.out) | exact HB.out)) hb); clear HO_9; clear HO_321000; clear HO332; clear HO352; clear BK315; clear BK320; clear BK354; clear HB; have HO_9 := n0_; have HO_321000 := n1_; have HO332 := n2_; have HO352 := n3_; have HO358 := n4_; have BK315 := n5_; have BK320 := n6_; have BK354 := n7_; have HB := n8_; clear n0_ n1_ n2_ n3_ n4_ n5_ n6_ n7_ n8_; (try clear hb); (try clear hb2); (try clear hk); (try clear hi); (try clear ho0); have hcz103_0 : w102.cell? ⟨gb320, 0, none⟩ = some (.slice Ao93 x321000_1.length co93) := (blk_cell BK320.out 0).trans rfl; have hfz103_0 := blk_frozen BK320.out 0; have hcz104_0 : w102.cell? ⟨gb315, 0, none⟩ = some (.slice none 0 0) := (blk_cell BK315.out 0).trans rfl; have hfz104_0 := blk_frozen BK315.out 0))
         refine bodyPost_ret (results_ctt rfl _ _ gb315 27 #[.slice Ao93 x321000_1.length co93] (0, 0) _ rfl (by (with_reducible repeat (first | refine blk_drewN ?_ _ | refine blk_drew ?_ | refine blk_alloc ?_ _)); refine blk_put (cs := #[.slice none 0 0]) ?_ 0 _ rfl; (with_reducible repeat (first | refine blk_drewN ?_ _ | refine blk_drew ?_ | refine blk_alloc ?_ _)); exact BK315.out) Try.underlying27 rfl (by kernel_rfl)) rfl ?_
         exact ⟨_, _, by first | rfl | (simp [errW_none, errW_some] <;> rfl) | (simp [*, errW_none, errW_some] <;> rfl), by (with_reducible repeat (first | apply Kd.R_alloc | apply Kd.R_drewN | apply Kd.R_drew)); exact Kd.R_mono (Kd.R_far (p := ⟨gb315, 0, none⟩) (Kd.R_types HO_321000.out BK315.out (by decide)) (fun _ hk => hk.2) (.slice Ao93 x321000_1.length co93)) (fun _ hk => hk.1.1.1), by (with_reducible repeat (first | apply Kd.R_alloc | apply Kd.R_drewN | apply Kd.R_drew)); exact Kd.R_mono (Kd.R_far (p := ⟨gb315, 0, none⟩) (Kd.R_types HO_9.out BK315.out (by decide)) (fun _ hk => hk.2) (.slice Ao93 x321000_1.length co93)) (fun _ hk => hk.1.1.1), by repeat (first | (with_reducible first | exact HB.out | apply below_alloc | apply pw_below_drewN | apply below_drew1 | refine below_set ?_ GE315.out | refine below_set ?_ GE320.out | refine below_set ?_ GE354.out) | exact HB.out)⟩
      ·
       rw [if_neg c15] at H
       exact absurd H (by simp)
     ·
      rw [if_neg c14] at H
      exact absurd H (by simp)
    ·
     rw [if_neg c13] at H
     have c13b0 := decide_eq_false c13
     clear c13
     replace H := Option.bind_eq_some_iff.mp H
     obtain ⟨t325, A1050, H⟩ := H
     replace H : (some (x321000_1, x9_1, t325)) = some (r1, r2, r3) := H
     have A105 := Aside0.mk A1050
     clear A1050
     simp only [Option.some.injEq, Prod.mk.injEq] at H
     obtain ⟨rfl, rfl, rfl⟩ := H
     try go_wp2
     have n0_ := Aside0.mk (Kd.R_drew HO_9.out)
     have n1_ := Aside0.mk (Kd.R_drew HO_321000.out)
     have n2_ := Aside0.mk (blk_drew BK315.out)
     have n3_ := Aside0.mk (blk_drew BK320.out)
     have n4_ := Aside0.mk (below_drew1 HB.out)
     clear HO_9
     clear HO_321000
     clear BK315
     clear BK320
     clear HB
     have HO_9 := n0_
     have HO_321000 := n1_
     have BK315 := n2_
     have BK320 := n3_
     have HB := n4_
     clear n0_ n1_ n2_ n3_ n4_
     obtain ⟨Ao107, co107, eo107⟩ := Kd.R_slice HO_321000.out
     (first | subst eo107 | (injection eo107 with f1_ f2_ f3_; have f4_ := f1_.symm; have f5_ := f3_.symm; clear f1_ f2_ f3_; subst f4_; subst f5_))
     obtain ⟨Ao108, co108, eo108⟩ := Kd.R_slice HO_9.out
     (first | subst eo108 | (injection eo108 with f1_ f2_ f3_; have f4_ := f1_.symm; have f5_ := f3_.symm; clear f1_ f2_ f3_; subst f4_; subst f5_))
     refine start_ (n := 8) (S := fun w' => w'.cell? ⟨gb320, 0, none⟩ = some (.slice Ao107 x321000_1.length co107)) (ds := []) #[false, false, false, false, false, false, false, false] (by kernel_rfl) rfl rfl ((blk_cell BK320.out 0).trans rfl) (fun hHeld => ?_); refine with_tabW tegulalaw34_build.tab22 tegulalaw34_build.bits22 (fun HT_ HW_ => ?_)
     generalize wr.drew = w106 at HO_9 HO_321000 BK315 BK320 HB hHeld ⊢
     refine pure_ (i := 1) (N := some 110) (v := ?_) (a' := ?_) #[false, true, false, false, false, false, false, false] rfl rfl (any_of HT_.out (by kernel_rfl)) (fun _ _ _ h => h) (Or.inl ⟨by rfl, ?_⟩) ?_ ?_
     rotate_left
     ·
      intro w'
      go_simp
      with_reducible rfl
     rotate_left
     ·
      simp only [AP]
      rfl
     refine pure_ (i := 3) (N := some 112) (v := ?_) (a' := ?_) #[false, true, false, true, false, false, false, false] rfl rfl (any_of HT_.out (by kernel_rfl)) (fun _ _ _ h => h) (Or.inl ⟨by rfl, ?_⟩) ?_ ?_
     rotate_left
     ·
      intro w'
      go_simp
      with_reducible rfl
     rotate_left
     ·
      simp only [AP]
      rfl
     refine take_ (i := 0) (N := some 109) (v := ?_) (a' := ?_) #[true, true, false, true, false, false, false, false] rfl rfl (take_ofW HT_.out HW_.out (by kernel_rfl)) (fun _ _ _ h => h) (Or.inl ⟨by rfl, ?_⟩) hHeld ?_ ?_
     rotate_left
     ·
      intro w' s0
      go_simp
      with_reducible rfl
     rotate_left
     ·
      simp only [AP]
      rfl
     refine take_ (i := 2) (N := some 111) (v := ?_) (a' := ?_) #[true, true, true, true, false, false, false, false] rfl rfl (take_ofW HT_.out HW_.out (by kernel_rfl)) (fun _ _ _ h => h) (Or.inl ⟨by rfl, ?_⟩) hHeld ?_ ?_
     rotate_left
     ·
      intro w' s0
      go_simp
      with_reducible rfl
     rotate_left
     ·
      simp only [AP]
      rfl
     refine one_ (i := 4) (N := some 113) #[true, true, true, true, true, false, false, false] rfl rfl (one_of HT_.out (by kernel_rfl)) (by decide) (fun K hK => ?_)
     refine goes_ Try.func15 (by kernel_rfl) rfl #[.agg #[.slice Ao107 x321000_1.length co107], .slice Ao108 x9_1.length co108] (by rfl) rfl rfl (by (try simp only [List.map_toArray, List.map_cons, List.map_nil]); first | done | rfl | (simp only [List.length_drop, List.length_take]; rfl)) ?_
     with_reducible refine (tegulalaw34_same.calls k1 _ _ x321000_1 _ _ x9_1 t325 _ ?side1 ?side2 ?side3 ?side4 A105.out).mono ?_
     (case side1 => repeat (first | exact (Kd.R_reads' HO_321000.out).2.2 | (with_reducible refine Kd.C_alloc ?_ _) | (with_reducible refine Kd.C_drewN ?_ _) | (with_reducible refine Kd.C_drew ?_)))
     (case side2 => exact (Kd.R_reads' HO_321000.out).2.1)
     (case side3 => repeat (first | exact (Kd.R_reads' HO_9.out).2.2 | (with_reducible refine Kd.C_alloc ?_ _) | (with_reducible refine Kd.C_drewN ?_ _) | (with_reducible refine Kd.C_drew ?_)))
     (case side4 => exact (Kd.R_reads' HO_9.out).2.1)
     rintro e w109 ⟨rfl, hb⟩
     refine ⟨_, rfl, ?_⟩
     have n0_ := Aside0.mk (Kd.R_below (rU HO_9.out) hb)
     have n1_ := Aside0.mk (Kd.R_below (rU HO_321000.out) hb)
     have n2_ := Aside0.mk (blk_below (g := gb315) (o := .cells #[.slice none 0 0] 27 (0, 0)) (kU BK315.out) hb)
     have n3_ := Aside0.mk (blk_below (g := gb320) (o := .cells #[.slice Ao107 x321000_1.length co107] 27 (0, 0)) (kU BK320.out) hb)
     have n4_ := Aside0.mk (below_step (by repeat (first | (with_reducible first | exact HB.out | apply below_alloc | apply pw_below_drewN | apply below_drew1 | refine below_set ?_ GE315.out | refine below_set ?_ GE320.out) | exact HB.out)) hb)
     clear HO_9
     clear HO_321000
     clear BK315
     clear BK320
     clear HB
     have HO_9 := n0_
     have HO_321000 := n1_
     have BK315 := n2_
     have BK320 := n3_
     have HB := n4_
     clear n0_ n1_ n2_ n3_ n4_
     (try clear hb)
     (try clear hb2)
     (try clear hk)
     (try clear hi)
     refine hK.out _ _ ((blk_cell BK320.out 0).trans rfl) (fun hHeld => ?_)
     clear hK K
     refine norm_ (a' := ?_) ?_ ?_
     rotate_left
     ·
      show Act.put _ (some 113) _ = _
      simp only [AP]
      rfl
     refine one_ (i := 5) (N := none) #[true, true, true, true, true, true, false, false] rfl rfl (one_of HT_.out (by kernel_rfl)) (by decide) (fun K hK => ?_)
     have hs110 : w109.cell? ⟨gb315, 0, none⟩ = some (.slice none 0 0) := (blk_cell BK315.out 0).trans rfl
     have hfs110 := blk_frozen BK315.out 0
     have hns110_1 := NB320_315.out
     have hms110_1 := NB315_320.out
     refine skip_ (w1 := ?_) (by rfl) rfl ?_ ?_
     rotate_left
     ·
      go_simp
      rfl
     refine hK.out _ _ (((cell_far (p := ⟨gb315, _, none⟩) NB320_315.out _).trans (hHeld))) (fun hHeld => ?_)
     clear hK K
     refine pure_ (i := 6) (N := some 5) (v := ?_) (a' := ?_) #[true, true, true, true, true, true, true, false] rfl rfl (any_of HT_.out (by kernel_rfl)) (fun _ _ _ h => h) (Or.inl ⟨by rfl, ?_⟩) ?_ ?_
     rotate_left
     ·
      intro w'
      go_simp
      with_reducible rfl
     rotate_left
     ·
      simp only [AP]
      rfl
     refine pure_ (i := 7) (N := some 6) (v := ?_) (a' := ?_) #[true, true, true, true, true, true, true, true] rfl rfl (any_of HT_.out (by kernel_rfl)) (fun _ _ _ h => h) (Or.inl ⟨by rfl, ?_⟩) ?_ ?_
     rotate_left
     ·
      intro w'
      go_simp
      with_reducible rfl
     rotate_left
     ·
      simp only [AP]
      rfl
     refine done_ (done_of HT_.out (by kernel_rfl)) ?_
     try go_wp2
     refine bodyPost_ret (results_ctt rfl _ _ gb315 27 #[.slice Ao107 x321000_1.length co107] (0, 0) _ rfl (by (with_reducible repeat (first | refine blk_drewN ?_ _ | refine blk_drew ?_ | refine blk_alloc ?_ _)); refine blk_put (cs := #[.slice none 0 0]) ?_ 0 _ rfl; (with_reducible repeat (first | refine blk_drewN ?_ _ | refine blk_drew ?_ | refine blk_alloc ?_ _)); exact BK315.out) Try.underlying27 rfl (by kernel_rfl)) rfl ?_
     exact ⟨_, _, by first | rfl | (simp [errW_none, errW_some] <;> rfl) | (simp [*, errW_none, errW_some] <;> rfl), by (with_reducible repeat (first | apply Kd.R_alloc | apply Kd.R_drewN | apply Kd.R_drew)); exact Kd.R_mono (Kd.R_far (p := ⟨gb315, 0, none⟩) (Kd.R_types HO_321000.out BK315.out (by decide)) (fun _ hk => hk.2) (.slice Ao107 x321000_1.length co107)) (fun _ hk => hk.1), by (with_reducible repeat (first | apply Kd.R_alloc | apply Kd.R_drewN | apply Kd.R_drew)); exact Kd.R_mono (Kd.R_far (p := ⟨gb315, 0, none⟩) (Kd.R_types HO_9.out BK315.out (by decide)) (fun _ hk => hk.2) (.slice Ao107 x321000_1.length co107)) (fun _ hk => hk.1), by repeat (first | (with_reducible first | exact HB.out | apply below_alloc | apply pw_below_drewN | apply below_drew1 | refine below_set ?_ GE315.out | refine below_set ?_ GE320.out) | exact HB.out)⟩
 ·
  rw [if_neg c5] at H
  have c5b0 : (t319 == 0) = false := beq_eq_false_iff_ne.mpr c5
  have c5b1 : (t319 != 0) = true := bne_iff_ne.mpr c5
  simp only [Option.some.injEq, Prod.mk.injEq] at H
  obtain ⟨rfl, rfl, rfl⟩ := H
  go_enter Try.func11, Try.ntmps11
  go_wp2_with (first | ((with_reducible refine gate_dst (N := 4) rfl ?_); refine box_event ?hg (N := 4) ?hd (cs := #[.slice none 0 0]) (t := 27) ?hr ?_; (case hd => rfl); (case hg => rfl); (case hr => first | (go_simp; done) | (go_simp; rfl)); intro gb315 hg w111 hbox hb; have n0_ := Aside0.mk (below_step (bU HB.out) hb); have n1_ := Aside0.mk (hbox); have n2_ := Aside0.mk ((by rw [hg]; exact (below_size (bU HB.out)) : w.heap.size ≤ gb315)); have n3_ := Aside0.mk ((by rw [hg]; exact (below_size (bU HB.out)) : w.heap.size ≤ gb315)); clear HB; have HB := n0_; have BK315 := n1_; have GW315 := n2_; have GE315 := n3_; clear n0_ n1_ n2_ n3_; clear hb hbox hg) | ((with_reducible refine gate_callee (f := 22) rfl ?_); refine goesL_ (some 27) rfl rfl Try.func22 (by kernel_rfl) rfl #[.int .i64 (wrap64 (Int.tmod a0 100))] rfl (by (try simp only [List.map_toArray, List.map_cons, List.map_nil]); first | done | rfl | (simp only [List.length_drop, List.length_take]; rfl)) ?_; (with_reducible refine (refcount_New.calls (wrap64 (Int.tmod a0 100)) t316 t319 _ A3.out).mono ?_); rintro e w112 ⟨v317, rfl, ho0, hb⟩; refine ⟨_, rfl, ?_⟩; have n0_ := Aside0.mk (Kd.R_lower ho0 (below_size (by repeat (first | (with_reducible first | exact HB.out | apply below_alloc | apply pw_below_drewN | apply below_drew1 | refine below_set ?_ GE315.out) | exact HB.out)))); have n1_ := Aside0.mk (blk_below (g := gb315) (o := .cells #[.slice none 0 0] 27 (0, 0)) (kU BK315.out) hb); have n2_ := Aside0.mk (below_step (by repeat (first | (with_reducible first | exact HB.out | apply below_alloc | apply pw_below_drewN | apply below_drew1 | refine below_set ?_ GE315.out) | exact HB.out)) hb); clear BK315; clear HB; have HO318 := n0_; have BK315 := n1_; have HB := n2_; clear n0_ n1_ n2_; (try clear hb); (try clear hb2); (try clear hk); (try clear hi); (try clear ho0)) | ((with_reducible refine gate_dst (N := 7) rfl ?_); refine box_event ?hg (N := 7) ?hd (cs := #[.slice none 0 0]) (t := 27) ?hr ?_; (case hd => rfl); (case hg => rfl); (case hr => first | (go_simp; done) | (go_simp; rfl)); intro gb320 hg w113 hbox hb; have n0_ := Aside0.mk (Kd.R_below (rU HO318.out) hb); have n1_ := Aside0.mk (blk_below (g := gb315) (o := .cells #[.slice none 0 0] 27 (0, 0)) (kU BK315.out) hb); have n2_ := Aside0.mk (below_step (by repeat (first | (with_reducible first | exact HB.out | apply below_alloc | apply pw_below_drewN | apply below_drew1 | refine below_set ?_ GE315.out) | exact HB.out)) hb); have n3_ := Aside0.mk (hbox); have n4_ := Aside0.mk ((by rw [hg]; exact (below_size (by repeat (first | (with_reducible first | exact HB.out | apply below_alloc | apply pw_below_drewN | apply below_drew1 | refine below_set ?_ GE315.out) | exact HB.out))) : w.heap.size ≤ gb320)); have n5_ := Aside0.mk ((by rw [hg]; exact (below_size (by repeat (first | (with_reducible first | exact HB.out | apply below_alloc | apply pw_below_drewN | apply below_drew1 | refine below_set ?_ GE315.out) | exact HB.out))) : w.heap.size ≤ gb320)); have n6_ := Aside0.mk ((by rw [hg]; exact Nat.ne_of_lt (blk_lt (g := gb315) (o := .cells #[.slice none 0 0] 27 (0, 0)) (kU BK315.out)) : gb315 ≠ gb320)); have n7_ := Aside0.mk ((by rw [hg]; exact Nat.ne_of_gt (blk_lt (g := gb315) (o := .cells #[.slice none 0 0] 27 (0, 0)) (kU BK315.out)) : gb320 ≠ gb315)); clear HO318; clear BK315; clear HB; have HO318 := n0_; have BK315 := n1_; have HB := n2_; have BK320 := n3_; have GW320 := n4_; have GE320 := n5_; have NB315_320 := n6_; have NB320_315 := n7_; clear n0_ n1_ n2_ n3_ n4_ n5_ n6_ n7_; clear hb hbox hg; obtain ⟨Ao114, co114, eo114⟩ := Kd.R_slice HO318.out; subst eo114; have hnb115 := NB320_315.out; have hnc115 := NB315_320.out; have hcz116_0 : w113.cell? ⟨gb320, 0, none⟩ = some (.slice none 0 0) := (blk_cell BK320.out 0).trans rfl; have hfz116_0 := blk_frozen BK320.out 0) | ((with_reducible refine gate_callee (f := 26) rfl ?_); refine goesL_ (some 34) rfl rfl Try.func26 (by kernel_rfl) rfl #[.int .i64 (wrap64 (Int.tmod a0 100))] rfl (by (try simp only [List.map_toArray, List.map_cons, List.map_nil]); first | done | rfl | (simp only [List.length_drop, List.length_take]; rfl)) ?_; (with_reducible refine (tegularef34_New.calls (wrap64 (Int.tmod a0 100)) t321 t322 _ A4.out).mono ?_); rintro e w117 ⟨v323, rfl, ho0, hb⟩; refine ⟨_, rfl, ?_⟩; have n0_ := Aside0.mk (Kd.R_elder' (rU (Kd.R_mono (Kd.R_far (p := ⟨gb320, 0, none⟩) (Kd.R_types HO318.out BK320.out (by decide)) (fun _ hk => hk.2) (.slice Ao114 t316.length co114)) (fun _ h_ => h_.1))) (Kd.R_base ho0) hb); have n1_ := Aside0.mk (Kd.R_lower (Kd.R_new' ho0 (Kd.R_lt (rU (Kd.R_mono (Kd.R_far (p := ⟨gb320, 0, none⟩) (Kd.R_types HO318.out BK320.out (by decide)) (fun _ hk => hk.2) (.slice Ao114 t316.length co114)) (fun _ h_ => h_.1))))) (below_size (by repeat (first | (with_reducible first | exact HB.out | apply below_alloc | apply pw_below_drewN | apply below_drew1 | refine below_set ?_ GE315.out | refine below_set ?_ GE320.out) | exact HB.out)))); have n2_ := Aside0.mk (blk_below (g := gb315) (o := .cells #[.slice none 0 0] 27 (0, 0)) (by (with_reducible repeat (first | refine blk_drewN ?_ _ | refine blk_drew ?_ | refine blk_alloc ?_ _)); refine blk_far ?_ NB315_320.out _; (with_reducible repeat (first | refine blk_drewN ?_ _ | refine blk_drew ?_ | refine blk_alloc ?_ _)); exact BK315.out) hb); have n3_ := Aside0.mk (blk_below (g := gb320) (o := .cells #[.slice Ao114 t316.length co114] 27 (0, 0)) (by (with_reducible repeat (first | refine blk_drewN ?_ _ | refine blk_drew ?_ | refine blk_alloc ?_ _)); refine blk_put (cs := #[.slice none 0 0]) ?_ 0 _ rfl; (with_reducible repeat (first | refine blk_drewN ?_ _ | refine blk_drew ?_ | refine blk_alloc ?_ _)); exact BK320.out) hb); have n4_ := Aside0.mk (below_step (by repeat (first | (with_reducible first | exact HB.out | apply below_alloc | apply pw_below_drewN | apply below_drew1 | refine below_set ?_ GE315.out | refine below_set ?_ GE320.out) | exact HB.out)) hb); clear HO318; clear BK315; clear BK320; clear HB; have HO318 := n0_; have HO324 := n1_; have BK315 := n2_; have BK320 := n3_; have HB := n4_; clear n0_ n1_ n2_ n3_ n4_; (try clear hb); (try clear hb2); (try clear hk); (try clear hi); (try clear ho0); have hcz118_0 : w117.cell? ⟨gb320, 0, none⟩ = some (.slice Ao114 t316.length co114) := (blk_cell BK320.out 0).trans rfl; have hfz118_0 := blk_frozen BK320.out 0; have hcz119_0 : w117.cell? ⟨gb315, 0, none⟩ = some (.slice none 0 0) := (blk_cell BK315.out 0).trans rfl; have hfz119_0 := blk_frozen BK315.out 0))
  refine bodyPost_ret (results_ctt rfl _ _ gb315 27 #[.slice Ao114 t316.length co114] (0, 0) _ rfl (by (with_reducible repeat (first | refine blk_drewN ?_ _ | refine blk_drew ?_ | refine blk_alloc ?_ _)); refine blk_put (cs := #[.slice none 0 0]) ?_ 0 _ rfl; (with_reducible repeat (first | refine blk_drewN ?_ _ | refine blk_drew ?_ | refine blk_alloc ?_ _)); exact BK315.out) Try.underlying27 rfl (by kernel_rfl)) rfl ?_
  exact ⟨_, _, by first | rfl | (simp [errW_none, errW_some] <;> rfl) | (simp [*, errW_none, errW_some] <;> rfl), by (with_reducible repeat (first | apply Kd.R_alloc | apply Kd.R_drewN | apply Kd.R_drew)); exact Kd.R_mono (Kd.R_far (p := ⟨gb315, 0, none⟩) (Kd.R_types HO318.out BK315.out (by decide)) (fun _ hk => hk.2) (.slice Ao114 t316.length co114)) (fun _ hk => hk.1.2), by (with_reducible repeat (first | apply Kd.R_alloc | apply Kd.R_drewN | apply Kd.R_drew)); exact Kd.R_mono (Kd.R_far (p := ⟨gb315, 0, none⟩) (Kd.R_types HO324.out BK315.out (by decide)) (fun _ hk => hk.2) (.slice Ao114 t316.length co114)) (fun _ hk => hk.1.2), by repeat (first | (with_reducible first | exact HB.out | apply below_alloc | apply pw_below_drewN | apply below_drew1 | refine below_set ?_ GE315.out | refine below_set ?_ GE320.out) | exact HB.out)⟩

end Go.Proofs.Ytnloofhpdlggnaa.PRefcount
