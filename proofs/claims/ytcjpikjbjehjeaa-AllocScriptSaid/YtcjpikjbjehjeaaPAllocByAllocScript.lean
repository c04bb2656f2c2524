-- Written for this claim by a program of this session (wip/), out of the translation's own print: Lean checks it
import Derived.Test.YtcjpikjbjehjeaaPAllocBx0
import Derived.Test.YtcjpikjbjehjeaaPAllocBx2
import Derived.Test.YtcjpikjbjehjeaaPAllocBx10
import Derived.Test.YtcjpikjbjehjeaaPAllocBx11
import Derived.Test.YtcjpikjbjehjeaaPAllocBx14
import Derived.Test.YtcjpikjbjehjeaaPAllocBx19
import Derived.Test.YtcjpikjbjehjeaaPAllocBx20
namespace Go.Proofs.Ytcjpikjbjehjeaa.PAllocB
open Go.RowKit Go.Proofs.YtcjpikjbjehjeaaW.PrintWords Go.Proofs.YtcjpikjbjehjeaaW.PrintLast Go.Proofs.YtcjpikjbjehjeaaW.PrintMore
attribute [local go_sem] max2_int min2_int max_two min_two max_three min_three max_four min_four   -- for this text's walks alone
set_option linter.unusedVariables false
set_option linter.unusedSimpArgs false

/-! ### tegulalaw35_AllocScript: function 5 -/
def tegulalaw35_AllocScript.f (k : Nat) (a0 : Int) (l1 : List (S57)) : Option (Bool) := (tegulalaw35_awake.f k).bind fun t584 => (if t584 = true then ((tegulalaw35_few.f k l1).bind fun t585 => (if t585 = true then ((tegulalaw35_build.f k a0 l1).bind fun bt586 => (some bt586.2.2.2)) else (some true))) else (some false))
theorem tegulalaw35_AllocScript.mono : ∀ a0 a1 k, LeO (tegulalaw35_AllocScript.f k a0 a1) (tegulalaw35_AllocScript.f (k + 1) a0 a1) := by
 intro a0 a1 k
 unfold tegulalaw35_AllocScript.f
 repeat' first
   | (with_reducible exact tegulalaw35_awake.mono _)
   | (with_reducible exact tegulalaw35_build.mono _ _ _)
   | (with_reducible exact tegulalaw35_few.mono _ _)
   | (with_reducible exact LeO.refl _)
   | (with_reducible exact LeO.none _)
   | (with_reducible refine LeO.ite ?_ ?_)
   | (with_reducible refine LeO.bind ?_ (fun _ => ?_))
   | exact tegulalaw35_awake.mono _
   | exact tegulalaw35_build.mono _ _ _
   | exact tegulalaw35_few.mono _ _
   | exact LeO.none _
   | refine LeO.ite ?_ ?_
   | refine LeO.bind ?_ (fun _ => ?_)
set_option maxHeartbeats 8000000 in
set_option maxRecDepth 100000 in
theorem tegulalaw35_AllocScript.calls (k : Nat) (a0 : Int) (A1 : Option Addr) (c1 : Nat) (l1 : List (S57)) (r : Bool) (w : World) (hr1 : Kd.C k57 w A1 l1.length l1) (hc1 : l1.length ≤ c1) (h : tegulalaw35_AllocScript.f k a0 l1 = some r) (h0 : r = true := by rfl) :
  Calls Try.prog 5 #[.int .u8 a0, .slice A1 l1.length c1] w fun e w' => e = .returned (.bool r) ∧ Below w.heap.size w w' := by
 have h0_ := Aa (h0)
 clear h0
 have hu26 := Try.underlying26
 have HR1 := Aside0.mk hr1
 have HC1 := Aside0.mk hc1
 clear hr1 hc1
 have HB := Aa (Below.refl w.heap.size w)
 have H : ((tegulalaw35_awake.f k).bind fun t584 => (if t584 = true then ((tegulalaw35_few.f k l1).bind fun t585 => (if t585 = true then ((tegulalaw35_build.f k a0 l1).bind fun bt586 => (some bt586.2.2.2)) else (some true))) else (some false))) = some r := h
 clear h
 replace H := Option.bind_eq_some_iff.mp H
 obtain ⟨t584, A30, H⟩ := H
 replace H : (if t584 = true then ((tegulalaw35_few.f k l1).bind fun t585 => (if t585 = true then ((tegulalaw35_build.f k a0 l1).bind fun bt586 => (some bt586.2.2.2)) else (some true))) else (some false)) = some r := H
 have A3 := Aside0.mk A30
 clear A30
 by_cases c4 : t584 = true
 ·
  subst c4
  have H1 : ((tegulalaw35_few.f k l1).bind fun t585 => (if t585 = true then ((tegulalaw35_build.f k a0 l1).bind fun bt586 => (some bt586.2.2.2)) else (some true))) = some r := by rw [if_pos rfl] at H; exact H
  clear H
  have H := H1
  clear H1
  replace H := Option.bind_eq_some_iff.mp H
  obtain ⟨t585, A50, H⟩ := H
  replace H : (if t585 = true then ((tegulalaw35_build.f k a0 l1).bind fun bt586 => (some bt586.2.2.2)) else (some true)) = some r := H
  have A5 := Aside0.mk A50
  clear A50
  by_cases c6 : t585 = true
  ·
   subst c6
   have H1 : ((tegulalaw35_build.f k a0 l1).bind fun bt586 => (some bt586.2.2.2)) = some r := by rw [if_pos rfl] at H; exact H
   clear H
   have H := H1
   clear H1
   replace H := Option.bind_eq_some_iff.mp H
   obtain ⟨⟨t586, t587, t590, t593⟩, A70, H⟩ := H
   replace H : (some t593) = some r := H
   have A7 := Aside0.mk A70
   clear A70
   obtain rfl := Option.some.inj H
   go_enter Try.func5, Try.ntmps5
   go_wp2_with (first | ((with_reducible refine gC 10 ?_); refine gL 8 Try.func10 #[] ?_; (with_reducible refine (tegulalaw35_awake.calls k  true _ A3.1).mono ?_); rintro e w8 ⟨rfl, hb⟩; refine ⟨_, rfl, ?_⟩; replace HB := sU HB hb; (try clear hb)) | ((with_reducible refine gC 20 ?_); refine gL 11 Try.func20 #[.slice A1 l1.length c1] ?_; (with_reducible refine (tegulalaw35_few.calls k _ _ l1 true _ ?side1 ?side2 A5.1).mono ?_); (case side1 => exact cU (Kd.C_below HR1.1 HB.1)); (case side2 => exact HC1.1); rintro e w' ⟨rfl, ⟨nd, rfl⟩⟩; refine ⟨_, rfl, ?_⟩; (try (rw [drewN_self w8]; generalize hq_ : World.drewN w8 _ = w8; have n0_ : Aside0 (Below w.heap.size w w8) := ⟨by rw [← hq_]; exact (bU HB.1)⟩; clear HB hq_; have HB := n0_; clear n0_))) | ((with_reducible refine gC 21 ?_); refine gL 16 Try.func21 #[.int .u8 a0, .slice A1 l1.length c1] ?_; (with_reducible refine (tegulalaw35_build.calls k a0 _ _ l1 t586 t587 t590 t593 _ ?side1 ?side2 A7.1).mono ?_); (case side1 => exact cU (Kd.C_below HR1.1 HB.1)); (case side2 => exact HC1.1); rintro e w9 ⟨v588, v591, rfl, ho0, ho1, hb⟩; refine ⟨_, rfl, ?_⟩; have HO589 := Aa (Kd.V_lower (Kd.V_mono (ok' := fun k_ => True) ho0 (fun k_ hk_ => trivial)) (below_size (bU HB.1))); have HO592 := Aa (Kd.V_lower (Kd.V_mono (ok' := fun k_ => True) ho1 (fun k_ hk_ => trivial)) (below_size (bU HB.1))); replace HB := sU HB hb; (try clear hb); (try clear ho0); (try clear ho1)) | ((with_reducible refine gD 5 ?_); refine bE #[.int .i64 0, .slice none 0 0] 26 ?_; intro gb594 hg w10 hbox hb; replace HO589 := vG HO589 hg hb; replace HO592 := vG HO592 hg hb; have BK594 := Aa (hbox); have GW594 := gU HB hg; have GE594 := gU HB hg; have iE594 := Nonempty.intro GE594.1; replace HB := sU HB hb; clear hb hbox hg; have hcz11_0 : w10.cell? ⟨gb594, 0, none⟩ = some (.int .i64 0) := cC BK594 0; have hcz11_1 : w10.cell? ⟨gb594, 1, none⟩ = some (.slice none 0 0) := cC BK594 1; have hfz11_0 := fC BK594 0; have hfz11_1 := fC BK594 1; obtain ⟨Ao12, co12, eo12⟩ := Kd.V_slice HO589.1; subst eo12))
   go_ret
   exact ⟨fT, bS HB.1⟩
  ·
   replace c6 := Bool.eq_false_iff.mpr c6
   subst c6
   have H1 : (some true) = some r := by rw [if_neg (show ¬ (false = true) by decide)] at H; exact H
   clear H
   have H := H1
   clear H1
   obtain rfl := Option.some.inj H
   go_enter Try.func5, Try.ntmps5
   go_wp2_with (first | ((with_reducible refine gC 10 ?_); refine gL 8 Try.func10 #[] ?_; (with_reducible refine (tegulalaw35_awake.calls k  true _ A3.1).mono ?_); rintro e w13 ⟨rfl, hb⟩; refine ⟨_, rfl, ?_⟩; replace HB := sU HB hb; (try clear hb)) | ((with_reducible refine gC 20 ?_); refine gL 11 Try.func20 #[.slice A1 l1.length c1] ?_; (with_reducible refine (tegulalaw35_few.calls k _ _ l1 false _ ?side1 ?side2 A5.1).mono ?_); (case side1 => exact cU (Kd.C_below HR1.1 HB.1)); (case side2 => exact HC1.1); rintro e w' ⟨rfl, ⟨nd, rfl⟩⟩; refine ⟨_, rfl, ?_⟩))
   go_ret
   exact ⟨fT, bU HB.1⟩
 ·
  replace c4 := Bool.eq_false_iff.mpr c4
  subst c4
  have H1 : (some false) = some r := by rw [if_neg (show ¬ (false = true) by decide)] at H; exact H
  clear H
  have H := H1
  clear H1
  obtain rfl := Option.some.inj H
  exact Bool.noConfusion h0_.1
end Go.Proofs.Ytcjpikjbjehjeaa.PAllocB
