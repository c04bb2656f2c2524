-- Written for this claim by a program of this session (wip/), out of the translation's own print: Lean checks it
import Derived.Test.YtcgihjpnemnkeaaPExtentRunsx0
import Derived.WalkSpells
import Derived.Deep.LoopGhost
import Derived.Shelf.GgSortFunc.InsertionK
import Derived.Shelf.SlSortCmp.WholeK
import Derived.Shelf.SlSortCmp.NoneTotal
import Derived.Test.YtcgihjpnemnkeaaLayP
import Derived.Test.YtcgihjpnemnkeaaWRepsOne
import Derived.Test.YtcgihjpnemnkeaaWGuard
import Derived.Test.YtcgihjpnemnkeaaPExtentRunsx2
import Derived.Test.YtcgihjpnemnkeaaPExtentRunsx3
import Derived.Test.YtcgihjpnemnkeaaPExtentRunsx6
namespace Go.Proofs.Ytcgihjpnemnkeaa.PExtentRuns
open Go.RowKit Go.Proofs.YtcgihjpnemnkeaaW.PrintWords Go.Proofs.YtcgihjpnemnkeaaW.PrintLast Go.Proofs.YtcgihjpnemnkeaaW.PrintMore
attribute [local go_sem] max2_int min2_int max_two min_two max_three min_three max_four min_four   -- for this text's walks alone
set_option linter.unusedVariables false
set_option linter.unusedSimpArgs false

/-! ### tegulalaw32_awake: function 11 -/
def tegulalaw32_awake.f (k : Nat)  : Option (Bool) := (some (([(⟨0, 4, 10⟩ : S33), (⟨4, 2, 14⟩ : S33)] : List (S33)) : List (S33))).bind fun y165 => ((extent_Join.f k y165).bind fun bt168 => ((extent_Cut.f k y165 2 2).bind fun bt172 => (if bt168.2 = 0 then (if bt172.2.2 = 0 then ((tegularef32_Same.f k bt168.1 (([(⟨0, 6, 10⟩ : S33)] : List (S33)))).bind fun t182 => (if t182 = true then ((tegularef32_Same.f k bt172.1 (([(⟨0, 2, 10⟩ : S33), (⟨4, 2, 14⟩ : S33)] : List (S33)))).bind fun t186 => (if t186 = true then ((tegularef32_Same.f k bt172.2.1 (([(⟨2, 2, 12⟩ : S33)] : List (S33)))).bind fun t190 => (if t190 = true then ((extent_Valid.f k y165).bind fun t191 => (some t191)) else (some false))) else (some false))) else (some false))) else (some false)) else (some false))))
theorem tegulalaw32_awake.mono : ∀ k, LeO (tegulalaw32_awake.f k ) (tegulalaw32_awake.f (k + 1) ) := by
 intro  k
 unfold tegulalaw32_awake.f
 repeat' first
   | (with_reducible exact extent_Cut.mono _ _ _ _)
   | (with_reducible exact extent_Join.mono _ _)
   | (with_reducible exact extent_Valid.mono _ _)
   | (with_reducible exact tegularef32_Same.mono _ _ _)
   | (with_reducible exact LeO.refl _)
   | (with_reducible exact LeO.none _)
   | (with_reducible refine LeO.ite ?_ ?_)
   | (with_reducible refine LeO.bind ?_ (fun _ => ?_))
   | exact extent_Cut.mono _ _ _ _
   | exact extent_Join.mono _ _
   | exact extent_Valid.mono _ _
   | exact tegularef32_Same.mono _ _ _
   | exact LeO.none _
   | refine LeO.ite ?_ ?_
   | refine LeO.bind ?_ (fun _ => ?_)
set_option maxHeartbeats 8000000 in
set_option maxRecDepth 100000 in
theorem tegulalaw32_awake.calls (k : Nat)  (r : Bool) (w : World) (h : tegulalaw32_awake.f k  = some r) :
  Calls Try.prog 11 #[] w fun e w' => e = .returned (.bool r) ∧ Below w.heap.size w w' := by
 have hu33 := Try.underlying33
 have HB := Aside0.mk (Below.refl w.heap.size w)
 have H : ((some (([(⟨0, 4, 10⟩ : S33), (⟨4, 2, 14⟩ : S33)] : List (S33)) : List (S33))).bind fun y165 => ((extent_Join.f k y165).bind fun bt168 => ((extent_Cut.f k y165 2 2).bind fun bt172 => (if bt168.2 = 0 then (if bt172.2.2 = 0 then ((tegularef32_Same.f k bt168.1 (([(⟨0, 6, 10⟩ : S33)] : List (S33)))).bind fun t182 => (if t182 = true then ((tegularef32_Same.f k bt172.1 (([(⟨0, 2, 10⟩ : S33), (⟨4, 2, 14⟩ : S33)] : List (S33)))).bind fun t186 => (if t186 = true then ((tegularef32_Same.f k bt172.2.1 (([(⟨2, 2, 12⟩ : S33)] : List (S33)))).bind fun t190 => (if t190 = true then ((extent_Valid.f k y165).bind fun t191 => (some t191)) else (some false))) else (some false))) else (some false))) else (some false)) else (some false))))) = some r := h
 clear h
 obtain ⟨y165, hy165⟩ : ∃ y_ : List (S33), y_ = (([(⟨0, 4, 10⟩ : S33), (⟨4, 2, 14⟩ : S33)] : List (S33))) := ⟨_, rfl⟩
 replace H : ((extent_Join.f k y165).bind fun bt168 => ((extent_Cut.f k y165 2 2).bind fun bt172 => (if bt168.2 = 0 then (if bt172.2.2 = 0 then ((tegularef32_Same.f k bt168.1 (([(⟨0, 6, 10⟩ : S33)] : List (S33)))).bind fun t182 => (if t182 = true then ((tegularef32_Same.f k bt172.1 (([(⟨0, 2, 10⟩ : S33), (⟨4, 2, 14⟩ : S33)] : List (S33)))).bind fun t186 => (if t186 = true then ((tegularef32_Same.f k bt172.2.1 (([(⟨2, 2, 12⟩ : S33)] : List (S33)))).bind fun t190 => (if t190 = true then ((extent_Valid.f k y165).bind fun t191 => (some t191)) else (some false))) else (some false))) else (some false))) else (some false)) else (some false)))) = some r := by first | (rw [hy165]; exact H) | exact H
 have Ny165 := Aside0.mk hy165
 clear hy165
 replace H := Option.bind_eq_some_iff.mp H
 obtain ⟨⟨t168, t169⟩, A10, H⟩ := H
 replace H : ((extent_Cut.f k y165 2 2).bind fun bt172 => (if t169 = 0 then (if bt172.2.2 = 0 then ((tegularef32_Same.f k t168 (([(⟨0, 6, 10⟩ : S33)] : List (S33)))).bind fun t182 => (if t182 = true then ((tegularef32_Same.f k bt172.1 (([(⟨0, 2, 10⟩ : S33), (⟨4, 2, 14⟩ : S33)] : List (S33)))).bind fun t186 => (if t186 = true then ((tegularef32_Same.f k bt172.2.1 (([(⟨2, 2, 12⟩ : S33)] : List (S33)))).bind fun t190 => (if t190 = true then ((extent_Valid.f k y165).bind fun t191 => (some t191)) else (some false))) else (some false))) else (some false))) else (some false)) else (some false))) = some r := H
 have A1 := Aside0.mk A10
 clear A10
 replace H := Option.bind_eq_some_iff.mp H
 obtain ⟨⟨t172, t173, t174⟩, A20, H⟩ := H
 replace H : (if t169 = 0 then (if t174 = 0 then ((tegularef32_Same.f k t168 (([(⟨0, 6, 10⟩ : S33)] : List (S33)))).bind fun t182 => (if t182 = true then ((tegularef32_Same.f k t172 (([(⟨0, 2, 10⟩ : S33), (⟨4, 2, 14⟩ : S33)] : List (S33)))).bind fun t186 => (if t186 = true then ((tegularef32_Same.f k t173 (([(⟨2, 2, 12⟩ : S33)] : List (S33)))).bind fun t190 => (if t190 = true then ((extent_Valid.f k y165).bind fun t191 => (some t191)) else (some false))) else (some false))) else (some false))) else (some false)) else (some false)) = some r := H
 have A2 := Aside0.mk A20
 clear A20
 by_cases c3 : t169 = 0
 ·
  rw [if_pos c3] at H
  have c3b0 : (t169 == 0) = true := beq_iff_eq.mpr c3
  have c3b1 : (t169 != 0) = false := bne_eq_false_iff_eq.mpr c3
  clear c3
  by_cases c4 : t174 = 0
  ·
   rw [if_pos c4] at H
   have c4b0 : (t174 == 0) = true := beq_iff_eq.mpr c4
   have c4b1 : (t174 != 0) = false := bne_eq_false_iff_eq.mpr c4
   clear c4
   obtain ⟨y179, hy179⟩ : ∃ y_ : List (S33), y_ = (([(⟨0, 6, 10⟩ : S33)] : List (S33))) := ⟨_, rfl⟩
   replace H : ((tegularef32_Same.f k t168 y179).bind fun t182 => (if t182 = true then ((tegularef32_Same.f k t172 (([(⟨0, 2, 10⟩ : S33), (⟨4, 2, 14⟩ : S33)] : List (S33)))).bind fun t186 => (if t186 = true then ((tegularef32_Same.f k t173 (([(⟨2, 2, 12⟩ : S33)] : List (S33)))).bind fun t190 => (if t190 = true then ((extent_Valid.f k y165).bind fun t191 => (some t191)) else (some false))) else (some false))) else (some false))) = some r := by first | (rw [hy179]; exact H) | exact H
   have Ny179 := Aside0.mk hy179
   clear hy179
   replace H := Option.bind_eq_some_iff.mp H
   obtain ⟨t182, A50, H⟩ := H
   replace H : (if t182 = true then ((tegularef32_Same.f k t172 (([(⟨0, 2, 10⟩ : S33), (⟨4, 2, 14⟩ : S33)] : List (S33)))).bind fun t186 => (if t186 = true then ((tegularef32_Same.f k t173 (([(⟨2, 2, 12⟩ : S33)] : List (S33)))).bind fun t190 => (if t190 = true then ((extent_Valid.f k y165).bind fun t191 => (some t191)) else (some false))) else (some false))) else (some false)) = some r := H
   have A5 := Aside0.mk A50
   clear A50
   by_cases c6 : t182 = true
   ·
    subst c6
    have H1 : ((tegularef32_Same.f k t172 (([(⟨0, 2, 10⟩ : S33), (⟨4, 2, 14⟩ : S33)] : List (S33)))).bind fun t186 => (if t186 = true then ((tegularef32_Same.f k t173 (([(⟨2, 2, 12⟩ : S33)] : List (S33)))).bind fun t190 => (if t190 = true then ((extent_Valid.f k y165).bind fun t191 => (some t191)) else (some false))) else (some false))) = some r := by rw [if_pos rfl] at H; exact H
    clear H
    have H := H1
    clear H1
    obtain ⟨y183, hy183⟩ : ∃ y_ : List (S33), y_ = (([(⟨0, 2, 10⟩ : S33), (⟨4, 2, 14⟩ : S33)] : List (S33))) := ⟨_, rfl⟩
    replace H : ((tegularef32_Same.f k t172 y183).bind fun t186 => (if t186 = true then ((tegularef32_Same.f k t173 (([(⟨2, 2, 12⟩ : S33)] : List (S33)))).bind fun t190 => (if t190 = true then ((extent_Valid.f k y165).bind fun t191 => (some t191)) else (some false))) else (some false))) = some r := by first | (rw [hy183]; exact H) | exact H
    have Ny183 := Aside0.mk hy183
    clear hy183
    replace H := Option.bind_eq_some_iff.mp H
    obtain ⟨t186, A70, H⟩ := H
    replace H : (if t186 = true then ((tegularef32_Same.f k t173 (([(⟨2, 2, 12⟩ : S33)] : List (S33)))).bind fun t190 => (if t190 = true then ((extent_Valid.f k y165).bind fun t191 => (some t191)) else (some false))) else (some false)) = some r := H
    have A7 := Aside0.mk A70
    clear A70
    by_cases c8 : t186 = true
    ·
     subst c8
     have H1 : ((tegularef32_Same.f k t173 (([(⟨2, 2, 12⟩ : S33)] : List (S33)))).bind fun t190 => (if t190 = true then ((extent_Valid.f k y165).bind fun t191 => (some t191)) else (some false))) = some r := by rw [if_pos rfl] at H; exact H
     clear H
     have H := H1
     clear H1
     obtain ⟨y187, hy187⟩ : ∃ y_ : List (S33), y_ = (([(⟨2, 2, 12⟩ : S33)] : List (S33))) := ⟨_, rfl⟩
     replace H : ((tegularef32_Same.f k t173 y187).bind fun t190 => (if t190 = true then ((extent_Valid.f k y165).bind fun t191 => (some t191)) else (some false))) = some r := by first | (rw [hy187]; exact H) | exact H
     have Ny187 := Aside0.mk hy187
     clear hy187
     replace H := Option.bind_eq_some_iff.mp H
     obtain ⟨t190, A90, H⟩ := H
     replace H : (if t190 = true then ((extent_Valid.f k y165).bind fun t191 => (some t191)) else (some false)) = some r := H
     have A9 := Aside0.mk A90
     clear A90
     by_cases c10 : t190 = true
     ·
      subst c10
      have H1 : ((extent_Valid.f k y165).bind fun t191 => (some t191)) = some r := by rw [if_pos rfl] at H; exact H
      clear H
      have H := H1
      clear H1
      replace H := Option.bind_eq_some_iff.mp H
      obtain ⟨t191, A110, H⟩ := H
      replace H : (some t191) = some r := H
      have A11 := Aside0.mk A110
      clear A110
      obtain rfl := Option.some.inj H
      go_enter Try.func11, Try.ntmps11
      go_wp2_with (first | ((with_reducible refine gate_dst (N := 9) rfl ?_); (try (refine gate_guard (by rfl) ?_; dsimp only)); refine Kd.R_lit k33 _ 33 ?hg (N := 9) ?hd (xs := ([(⟨0, 4, 10⟩ : S33), (⟨4, 2, 14⟩ : S33)] : List (S33))) (inner := [.int .i64 0, .int .i64 4, .int .i64 10, .int .i64 4, .int .i64 2, .int .i64 14]) (ok := fun _ => True) (okp := fun _ => True) ?hr ?hp (fun _ hk => hk) trivial (Below.refl _ _) (Nat.le_refl _) (by simp) ?_; (case hd => rfl); (case hg => rfl); (case hr => first | (go_simp; done) | (go_simp; rfl)); (case hp => exact (Reps.c3 (show Kd.M k33 _ _ _ (⟨0, 4, 10⟩ : S33) [.int .i64 0, .int .i64 4, .int .i64 10] from (k33_mkM _ _ _ (⟨0, 4, 10⟩ : S33) )) (Reps.c3 (show Kd.M k33 _ _ _ (⟨4, 2, 14⟩ : S33) [.int .i64 4, .int .i64 2, .int .i64 14] from (k33_mkM _ _ _ (⟨4, 2, 14⟩ : S33) )) (Reps.none _ _)))); intro v166 w12 ho13 hb hg_ hnew_; clear hg_ hnew_; (first | rw [← Ny165.out] at ho13 | (simp only [Int.reduceToNat] at ho13; rw [← Ny165.out] at ho13)); have HO167 := Aside0.mk (Kd.R_lower ho13 (below_size (bU HB.out))); replace HB := Aside0.mk (below_step (bU HB.out) hb); clear hb ho13; obtain ⟨Ao14, co14, eo14⟩ := Kd.R_slice HO167.out; subst eo14) | ((with_reducible refine gate_callee (f := 17) rfl ?_); refine goesL_ (some 12) rfl rfl Try.func17 (by kernel_rfl) rfl #[.slice Ao14 y165.length co14] rfl (by (try simp only [List.map_toArray, List.map_cons, List.map_nil]); first | done | rfl | (simp only [List.length_drop, List.length_take]; rfl)) ?_; (with_reducible refine (extent_Join.calls k _ _ y165 t168 t169 _ ?side1 ?side2 A1.out).mono ?_); (case side1 => repeat (first | exact (Kd.R_reads' HO167.out).2.2 | (with_reducible refine Kd.C_alloc ?_ _) | (with_reducible refine Kd.C_drewN ?_ _) | (with_reducible refine Kd.C_drew ?_))); (case side2 => exact (Kd.R_reads' HO167.out).2.1); rintro e w15 ⟨v170, rfl, ho0, hb⟩; refine ⟨_, rfl, ?_⟩; have HO171 := Aside0.mk (Kd.R_lower (Kd.R_new' ho0 (Kd.R_lt (rU HO167.out))) (below_size (bU HB.out))); replace HO167 := Aside0.mk (Kd.R_elder' (rU HO167.out) (Kd.R_base ho0) hb); replace HB := Aside0.mk (below_step (bU HB.out) hb); (try clear hb); (try clear hk); (try clear ho0)) | ((with_reducible refine gate_callee (f := 13) rfl ?_); refine goesL_ (some 17) rfl rfl Try.func13 (by kernel_rfl) rfl #[.slice Ao14 y165.length co14, .int .i64 2, .int .i64 2] rfl (by (try simp only [List.map_toArray, List.map_cons, List.map_nil]); first | done | rfl | (simp only [List.length_drop, List.length_take]; rfl)) ?_; (with_reducible refine (extent_Cut.calls k _ _ y165 2 2 t172 t173 t174 _ ?side1 ?side2 A2.out).mono ?_); (case side1 => repeat (first | exact (Kd.R_reads' HO167.out).2.2 | (with_reducible refine Kd.C_alloc ?_ _) | (with_reducible refine Kd.C_drewN ?_ _) | (with_reducible refine Kd.C_drew ?_))); (case side2 => exact (Kd.R_reads' HO167.out).2.1); rintro e w16 ⟨v175, v177, rfl, ho0, ho1, hb⟩; refine ⟨_, rfl, ?_⟩; have HO176 := Aside0.mk (Kd.R_lower (Kd.R_new' (Kd.R_new' ho0 (Kd.R_lt (rU HO167.out))) (Kd.R_lt (rU HO171.out))) (below_size (bU HB.out))); have HO178 := Aside0.mk (Kd.R_lower (Kd.R_new' (Kd.R_new' ho1 (Kd.R_lt (rU HO167.out))) (Kd.R_lt (rU HO171.out))) (below_size (bU HB.out))); replace HO167 := Aside0.mk (Kd.R_mono (Kd.R_told (Kd.R_told (Kd.R_old (rU HO167.out) hb) (Kd.R_base ho0)) (Kd.R_base ho1)) (fun _ h_ => h_.1)); replace HO171 := Aside0.mk (Kd.R_mono (Kd.R_told (Kd.R_told (Kd.R_old (rU HO171.out) hb) (Kd.R_base ho0)) (Kd.R_base ho1)) (fun _ h_ => h_.1)); replace HB := Aside0.mk (below_step (bU HB.out) hb); (try clear hb); (try clear hk); (try clear ho0); (try clear ho1)) | ((with_reducible refine gate_dst (N := 30) rfl ?_); (try (refine gate_guard (by rfl) ?_; dsimp only)); refine Kd.R_lit k33 _ 33 ?hg (N := 30) ?hd (xs := ([(⟨0, 6, 10⟩ : S33)] : List (S33))) (inner := [.int .i64 0, .int .i64 6, .int .i64 10]) (ok := fun _ => True) (okp := fun _ => True) ?hr ?hp (fun _ hk => hk) trivial (Below.refl _ _) (Nat.le_refl _) (by simp) ?_; (case hd => rfl); (case hg => rfl); (case hr => first | (go_simp; done) | (go_simp; rfl)); (case hp => exact (Reps.c3 (show Kd.M k33 _ _ _ (⟨0, 6, 10⟩ : S33) [.int .i64 0, .int .i64 6, .int .i64 10] from (k33_mkM _ _ _ (⟨0, 6, 10⟩ : S33) )) (Reps.none _ _))); intro v180 w17 ho18 hb hg_ hnew_; clear hg_ hnew_; (first | rw [← Ny179.out] at ho18 | (simp only [Int.reduceToNat] at ho18; rw [← Ny179.out] at ho18)); have HO181 := Aside0.mk (Kd.R_lower (Kd.R_new' (Kd.R_new' (Kd.R_new' (Kd.R_new' ho18 (Kd.R_lt (rU HO167.out))) (Kd.R_lt (rU HO171.out))) (Kd.R_lt (rU HO176.out))) (Kd.R_lt (rU HO178.out))) (below_size (bU HB.out))); replace HO167 := Aside0.mk (Kd.R_elder' (rU HO167.out) (Kd.R_base ho18) hb); replace HO171 := Aside0.mk (Kd.R_elder' (rU HO171.out) (Kd.R_base ho18) hb); replace HO176 := Aside0.mk (Kd.R_elder' (rU HO176.out) (Kd.R_base ho18) hb); replace HO178 := Aside0.mk (Kd.R_elder' (rU HO178.out) (Kd.R_base ho18) hb); replace HB := Aside0.mk (below_step (bU HB.out) hb); clear hb ho18; obtain ⟨Ao19, co19, eo19⟩ := Kd.R_slice HO171.out; subst eo19; obtain ⟨Ao20, co20, eo20⟩ := Kd.R_slice HO181.out; subst eo20) | (go_at_call 15; (with_reducible refine (tegularef32_Same.calls k _ _ t168 _ _ y179 true _ ?side1 ?side2 ?side3 ?side4 A5.out).mono ?_); (case side1 => repeat (first | exact (Kd.R_reads' HO171.out).2.2 | (with_reducible refine Kd.C_alloc ?_ _) | (with_reducible refine Kd.C_drewN ?_ _) | (with_reducible refine Kd.C_drew ?_))); (case side2 => exact (Kd.R_reads' HO171.out).2.1); (case side3 => repeat (first | exact (Kd.R_reads' HO181.out).2.2 | (with_reducible refine Kd.C_alloc ?_ _) | (with_reducible refine Kd.C_drewN ?_ _) | (with_reducible refine Kd.C_drew ?_))); (case side4 => exact (Kd.R_reads' HO181.out).2.1); rintro e w' ⟨rfl, ⟨nd, rfl⟩⟩) | ((with_reducible refine gate_dst (N := 37) rfl ?_); (try (refine gate_guard (by rfl) ?_; dsimp only)); refine Kd.R_lit k33 _ 33 ?hg (N := 37) ?hd (xs := ([(⟨0, 2, 10⟩ : S33), (⟨4, 2, 14⟩ : S33)] : List (S33))) (inner := [.int .i64 0, .int .i64 2, .int .i64 10, .int .i64 4, .int .i64 2, .int .i64 14]) (ok := fun _ => True) (okp := fun _ => True) ?hr ?hp (fun _ hk => hk) trivial (Below.refl _ _) (Nat.le_refl _) (by simp) ?_; (case hd => rfl); (case hg => rfl); (case hr => first | (go_simp; done) | (go_simp; rfl)); (case hp => exact (Reps.c3 (show Kd.M k33 _ _ _ (⟨0, 2, 10⟩ : S33) [.int .i64 0, .int .i64 2, .int .i64 10] from (k33_mkM _ _ _ (⟨0, 2, 10⟩ : S33) )) (Reps.c3 (show Kd.M k33 _ _ _ (⟨4, 2, 14⟩ : S33) [.int .i64 4, .int .i64 2, .int .i64 14] from (k33_mkM _ _ _ (⟨4, 2, 14⟩ : S33) )) (Reps.none _ _)))); intro v184 w21 ho22 hb hg_ hnew_; clear hg_ hnew_; (first | rw [← Ny183.out] at ho22 | (simp only [Int.reduceToNat] at ho22; rw [← Ny183.out] at ho22)); have HO185 := Aside0.mk (Kd.R_lower (Kd.R_new' (Kd.R_new' (Kd.R_new' (Kd.R_new' (Kd.R_new' ho22 (Kd.R_lt (rU HO167.out))) (Kd.R_lt (rU HO171.out))) (Kd.R_lt (rU HO176.out))) (Kd.R_lt (rU HO178.out))) (Kd.R_lt (rU HO181.out))) (below_size (bU HB.out))); replace HO167 := Aside0.mk (Kd.R_elder' (rU HO167.out) (Kd.R_base ho22) hb); replace HO171 := Aside0.mk (Kd.R_elder' (rU HO171.out) (Kd.R_base ho22) hb); replace HO176 := Aside0.mk (Kd.R_elder' (rU HO176.out) (Kd.R_base ho22) hb); replace HO178 := Aside0.mk (Kd.R_elder' (rU HO178.out) (Kd.R_base ho22) hb); replace HO181 := Aside0.mk (Kd.R_elder' (rU HO181.out) (Kd.R_base ho22) hb); replace HB := Aside0.mk (below_step (bU HB.out) hb); clear hb ho22; obtain ⟨Ao23, co23, eo23⟩ := Kd.R_slice HO176.out; subst eo23; obtain ⟨Ao24, co24, eo24⟩ := Kd.R_slice HO185.out; subst eo24) | (go_at_call 15; (with_reducible refine (tegularef32_Same.calls k _ _ t172 _ _ y183 true _ ?side1 ?side2 ?side3 ?side4 A7.out).mono ?_); (case side1 => repeat (first | exact (Kd.R_reads' HO176.out).2.2 | (with_reducible refine Kd.C_alloc ?_ _) | (with_reducible refine Kd.C_drewN ?_ _) | (with_reducible refine Kd.C_drew ?_))); (case side2 => exact (Kd.R_reads' HO176.out).2.1); (case side3 => repeat (first | exact (Kd.R_reads' HO185.out).2.2 | (with_reducible refine Kd.C_alloc ?_ _) | (with_reducible refine Kd.C_drewN ?_ _) | (with_reducible refine Kd.C_drew ?_))); (case side4 => exact (Kd.R_reads' HO185.out).2.1); rintro e w' ⟨rfl, ⟨nd, rfl⟩⟩) | ((with_reducible refine gate_dst (N := 43) rfl ?_); (try (refine gate_guard (by rfl) ?_; dsimp only)); refine Kd.R_lit k33 _ 33 ?hg (N := 43) ?hd (xs := ([(⟨2, 2, 12⟩ : S33)] : List (S33))) (inner := [.int .i64 2, .int .i64 2, .int .i64 12]) (ok := fun _ => True) (okp := fun _ => True) ?hr ?hp (fun _ hk => hk) trivial (Below.refl _ _) (Nat.le_refl _) (by simp) ?_; (case hd => rfl); (case hg => rfl); (case hr => first | (go_simp; done) | (go_simp; rfl)); (case hp => exact (Reps.c3 (show Kd.M k33 _ _ _ (⟨2, 2, 12⟩ : S33) [.int .i64 2, .int .i64 2, .int .i64 12] from (k33_mkM _ _ _ (⟨2, 2, 12⟩ : S33) )) (Reps.none _ _))); intro v188 w25 ho26 hb hg_ hnew_; clear hg_ hnew_; (first | rw [← Ny187.out] at ho26 | (simp only [Int.reduceToNat] at ho26; rw [← Ny187.out] at ho26)); have HO189 := Aside0.mk (Kd.R_lower (Kd.R_new' (Kd.R_new' (Kd.R_new' (Kd.R_new' (Kd.R_new' (Kd.R_new' ho26 (Kd.R_lt (rU HO167.out))) (Kd.R_lt (rU HO171.out))) (Kd.R_lt (rU HO176.out))) (Kd.R_lt (rU HO178.out))) (Kd.R_lt (rU HO181.out))) (Kd.R_lt (rU HO185.out))) (below_size (bU HB.out))); replace HO167 := Aside0.mk (Kd.R_elder' (rU HO167.out) (Kd.R_base ho26) hb); replace HO171 := Aside0.mk (Kd.R_elder' (rU HO171.out) (Kd.R_base ho26) hb); replace HO176 := Aside0.mk (Kd.R_elder' (rU HO176.out) (Kd.R_base ho26) hb); replace HO178 := Aside0.mk (Kd.R_elder' (rU HO178.out) (Kd.R_base ho26) hb); replace HO181 := Aside0.mk (Kd.R_elder' (rU HO181.out) (Kd.R_base ho26) hb); replace HO185 := Aside0.mk (Kd.R_elder' (rU HO185.out) (Kd.R_base ho26) hb); replace HB := Aside0.mk (below_step (bU HB.out) hb); clear hb ho26; obtain ⟨Ao27, co27, eo27⟩ := Kd.R_slice HO178.out; subst eo27; obtain ⟨Ao28, co28, eo28⟩ := Kd.R_slice HO189.out; subst eo28) | (go_at_call 15; (with_reducible refine (tegularef32_Same.calls k _ _ t173 _ _ y187 true _ ?side1 ?side2 ?side3 ?side4 A9.out).mono ?_); (case side1 => repeat (first | exact (Kd.R_reads' HO178.out).2.2 | (with_reducible refine Kd.C_alloc ?_ _) | (with_reducible refine Kd.C_drewN ?_ _) | (with_reducible refine Kd.C_drew ?_))); (case side2 => exact (Kd.R_reads' HO178.out).2.1); (case side3 => repeat (first | exact (Kd.R_reads' HO189.out).2.2 | (with_reducible refine Kd.C_alloc ?_ _) | (with_reducible refine Kd.C_drewN ?_ _) | (with_reducible refine Kd.C_drew ?_))); (case side4 => exact (Kd.R_reads' HO189.out).2.1); rintro e w' ⟨rfl, ⟨nd, rfl⟩⟩) | (go_at_call 19; (with_reducible refine (extent_Valid.calls k _ _ y165 t191 _ ?side1 ?side2 A11.out).mono ?_); (case side1 => repeat (first | exact (Kd.R_reads' HO167.out).2.2 | (with_reducible refine Kd.C_alloc ?_ _) | (with_reducible refine Kd.C_drewN ?_ _) | (with_reducible refine Kd.C_drew ?_))); (case side2 => exact (Kd.R_reads' HO167.out).2.1); rintro e w29 ⟨rfl, hb⟩; replace HO167 := Aside0.mk (Kd.R_below (rU HO167.out) hb); replace HO171 := Aside0.mk (Kd.R_below (rU HO171.out) hb); replace HO176 := Aside0.mk (Kd.R_below (rU HO176.out) hb); replace HO178 := Aside0.mk (Kd.R_below (rU HO178.out) hb); replace HO181 := Aside0.mk (Kd.R_below (rU HO181.out) hb); replace HO185 := Aside0.mk (Kd.R_below (rU HO185.out) hb); replace HO189 := Aside0.mk (Kd.R_below (rU HO189.out) hb); replace HB := Aside0.mk (below_step (bU HB.out) hb); (try clear hb); (try clear hk)))
      go_ret
      exact ⟨by first | rfl | (simp [errW_none, errW_some] <;> rfl) | (simp [*, errW_none, errW_some] <;> rfl), bU HB.out⟩
     ·
      replace c10 := Bool.eq_false_iff.mpr c10
      subst c10
      have H1 : (some false) = some r := by rw [if_neg (show ¬ (false = true) by decide)] at H; exact H
      clear H
      have H := H1
      clear H1
      obtain rfl := Option.some.inj H
      go_enter Try.func11, Try.ntmps11
      go_wp2_with (first | ((with_reducible refine gate_dst (N := 9) rfl ?_); (try (refine gate_guard (by rfl) ?_; dsimp only)); refine Kd.R_lit k33 _ 33 ?hg (N := 9) ?hd (xs := ([(⟨0, 4, 10⟩ : S33), (⟨4, 2, 14⟩ : S33)] : List (S33))) (inner := [.int .i64 0, .int .i64 4, .int .i64 10, .int .i64 4, .int .i64 2, .int .i64 14]) (ok := fun _ => True) (okp := fun _ => True) ?hr ?hp (fun _ hk => hk) trivial (Below.refl _ _) (Nat.le_refl _) (by simp) ?_; (case hd => rfl); (case hg => rfl); (case hr => first | (go_simp; done) | (go_simp; rfl)); (case hp => exact (Reps.c3 (show Kd.M k33 _ _ _ (⟨0, 4, 10⟩ : S33) [.int .i64 0, .int .i64 4, .int .i64 10] from (k33_mkM _ _ _ (⟨0, 4, 10⟩ : S33) )) (Reps.c3 (show Kd.M k33 _ _ _ (⟨4, 2, 14⟩ : S33) [.int .i64 4, .int .i64 2, .int .i64 14] from (k33_mkM _ _ _ (⟨4, 2, 14⟩ : S33) )) (Reps.none _ _)))); intro v166 w30 ho31 hb hg_ hnew_; clear hg_ hnew_; (first | rw [← Ny165.out] at ho31 | (simp only [Int.reduceToNat] at ho31; rw [← Ny165.out] at ho31)); have HO167 := Aside0.mk (Kd.R_lower ho31 (below_size (bU HB.out))); replace HB := Aside0.mk (below_step (bU HB.out) hb); clear hb ho31; obtain ⟨Ao32, co32, eo32⟩ := Kd.R_slice HO167.out; subst eo32) | ((with_reducible refine gate_callee (f := 17) rfl ?_); refine goesL_ (some 12) rfl rfl Try.func17 (by kernel_rfl) rfl #[.slice Ao32 y165.length co32] rfl (by (try simp only [List.map_toArray, List.map_cons, List.map_nil]); first | done | rfl | (simp only [List.length_drop, List.length_take]; rfl)) ?_; (with_reducible refine (extent_Join.calls k _ _ y165 t168 t169 _ ?side1 ?side2 A1.out).mono ?_); (case side1 => repeat (first | exact (Kd.R_reads' HO167.out).2.2 | (with_reducible refine Kd.C_alloc ?_ _) | (with_reducible refine Kd.C_drewN ?_ _) | (with_reducible refine Kd.C_drew ?_))); (case side2 => exact (Kd.R_reads' HO167.out).2.1); rintro e w33 ⟨v170, rfl, ho0, hb⟩; refine ⟨_, rfl, ?_⟩; have HO171 := Aside0.mk (Kd.R_lower (Kd.R_new' ho0 (Kd.R_lt (rU HO167.out))) (below_size (bU HB.out))); replace HO167 := Aside0.mk (Kd.R_elder' (rU HO167.out) (Kd.R_base ho0) hb); replace HB := Aside0.mk (below_step (bU HB.out) hb); (try clear hb); (try clear hk); (try clear ho0)) | ((with_reducible refine gate_callee (f := 13) rfl ?_); refine goesL_ (some 17) rfl rfl Try.func13 (by kernel_rfl) rfl #[.slice Ao32 y165.length co32, .int .i64 2, .int .i64 2] rfl (by (try simp only [List.map_toArray, List.map_cons, List.map_nil]); first | done | rfl | (simp only [List.length_drop, List.length_take]; rfl)) ?_; (with_reducible refine (extent_Cut.calls k _ _ y165 2 2 t172 t173 t174 _ ?side1 ?side2 A2.out).mono ?_); (case side1 => repeat (first | exact (Kd.R_reads' HO167.out).2.2 | (with_reducible refine Kd.C_alloc ?_ _) | (with_reducible refine Kd.C_drewN ?_ _) | (with_reducible refine Kd.C_drew ?_))); (case side2 => exact (Kd.R_reads' HO167.out).2.1); rintro e w34 ⟨v175, v177, rfl, ho0, ho1, hb⟩; refine ⟨_, rfl, ?_⟩; have HO176 := Aside0.mk (Kd.R_lower (Kd.R_new' (Kd.R_new' ho0 (Kd.R_lt (rU HO167.out))) (Kd.R_lt (rU HO171.out))) (below_size (bU HB.out))); have HO178 := Aside0.mk (Kd.R_lower (Kd.R_new' (Kd.R_new' ho1 (Kd.R_lt (rU HO167.out))) (Kd.R_lt (rU HO171.out))) (below_size (bU HB.out))); replace HO167 := Aside0.mk (Kd.R_mono (Kd.R_told (Kd.R_told (Kd.R_old (rU HO167.out) hb) (Kd.R_base ho0)) (Kd.R_base ho1)) (fun _ h_ => h_.1)); replace HO171 := Aside0.mk (Kd.R_mono (Kd.R_told (Kd.R_told (Kd.R_old (rU HO171.out) hb) (Kd.R_base ho0)) (Kd.R_base ho1)) (fun _ h_ => h_.1)); replace HB := Aside0.mk (below_step (bU HB.out) hb); (try clear hb); (try clear hk); (try clear ho0); (try clear ho1)) | ((with_reducible refine gate_dst (N := 30) rfl ?_); (try (refine gate_guard (by rfl) ?_; dsimp only)); refine Kd.R_lit k33 _ 33 ?hg (N := 30) ?hd (xs := ([(⟨0, 6, 10⟩ : S33)] : List (S33))) (inner := [.int .i64 0, .int .i64 6, .int .i64 10]) (ok := fun _ => True) (okp := fun _ => True) ?hr ?hp (fun _ hk => hk) trivial (Below.refl _ _) (Nat.le_refl _) (by simp) ?_; (case hd => rfl); (case hg => rfl); (case hr => first | (go_simp; done) | (go_simp; rfl)); (case hp => exact (Reps.c3 (show Kd.M k33 _ _ _ (⟨0, 6, 10⟩ : S33) [.int .i64 0, .int .i64 6, .int .i64 10] from (k33_mkM _ _ _ (⟨0, 6, 10⟩ : S33) )) (Reps.none _ _))); intro v180 w35 ho36 hb hg_ hnew_; clear hg_ hnew_; (first | rw [← Ny179.out] at ho36 | (simp only [Int.reduceToNat] at ho36; rw [← Ny179.out] at ho36)); have HO181 := Aside0.mk (Kd.R_lower (Kd.R_new' (Kd.R_new' (Kd.R_new' (Kd.R_new' ho36 (Kd.R_lt (rU HO167.out))) (Kd.R_lt (rU HO171.out))) (Kd.R_lt (rU HO176.out))) (Kd.R_lt (rU HO178.out))) (below_size (bU HB.out))); replace HO167 := Aside0.mk (Kd.R_elder' (rU HO167.out) (Kd.R_base ho36) hb); replace HO171 := Aside0.mk (Kd.R_elder' (rU HO171.out) (Kd.R_base ho36) hb); replace HO176 := Aside0.mk (Kd.R_elder' (rU HO176.out) (Kd.R_base ho36) hb); replace HO178 := Aside0.mk (Kd.R_elder' (rU HO178.out) (Kd.R_base ho36) hb); replace HB := Aside0.mk (below_step (bU HB.out) hb); clear hb ho36; obtain ⟨Ao37, co37, eo37⟩ := Kd.R_slice HO171.out; subst eo37; obtain ⟨Ao38, co38, eo38⟩ := Kd.R_slice HO181.out; subst eo38) | (go_at_call 15; (with_reducible refine (tegularef32_Same.calls k _ _ t168 _ _ y179 true _ ?side1 ?side2 ?side3 ?side4 A5.out).mono ?_); (case side1 => repeat (first | exact (Kd.R_reads' HO171.out).2.2 | (with_reducible refine Kd.C_alloc ?_ _) | (with_reducible refine Kd.C_drewN ?_ _) | (with_reducible refine Kd.C_drew ?_))); (case side2 => exact (Kd.R_reads' HO171.out).2.1); (case side3 => repeat (first | exact (Kd.R_reads' HO181.out).2.2 | (with_reducible refine Kd.C_alloc ?_ _) | (with_reducible refine Kd.C_drewN ?_ _) | (with_reducible refine Kd.C_drew ?_))); (case side4 => exact (Kd.R_reads' HO181.out).2.1); rintro e w' ⟨rfl, ⟨nd, rfl⟩⟩) | ((with_reducible refine gate_dst (N := 37) rfl ?_); (try (refine gate_guard (by rfl) ?_; dsimp only)); refine Kd.R_lit k33 _ 33 ?hg (N := 37) ?hd (xs := ([(⟨0, 2, 10⟩ : S33), (⟨4, 2, 14⟩ : S33)] : List (S33))) (inner := [.int .i64 0, .int .i64 2, .int .i64 10, .int .i64 4, .int .i64 2, .int .i64 14]) (ok := fun _ => True) (okp := fun _ => True) ?hr ?hp (fun _ hk => hk) trivial (Below.refl _ _) (Nat.le_refl _) (by simp) ?_; (case hd => rfl); (case hg => rfl); (case hr => first | (go_simp; done) | (go_simp; rfl)); (case hp => exact (Reps.c3 (show Kd.M k33 _ _ _ (⟨0, 2, 10⟩ : S33) [.int .i64 0, .int .i64 2, .int .i64 10] from (k33_mkM _ _ _ (⟨0, 2, 10⟩ : S33) )) (Reps.c3 (show Kd.M k33 _ _ _ (⟨4, 2, 14⟩ : S33) [.int .i64 4, .int .i64 2, .int .i64 14] from (k33_mkM _ _ _ (⟨4, 2, 14⟩ : S33) )) (Reps.none _ _)))); intro v184 w39 ho40 hb hg_ hnew_; clear hg_ hnew_; (first | rw [← Ny183.out] at ho40 | (simp only [Int.reduceToNat] at ho40; rw [← Ny183.out] at ho40)); have HO185 := Aside0.mk (Kd.R_lower (Kd.R_new' (Kd.R_new' (Kd.R_new' (Kd.R_new' (Kd.R_new' ho40 (Kd.R_lt (rU HO167.out))) (Kd.R_lt (rU HO171.out))) (Kd.R_lt (rU HO176.out))) (Kd.R_lt (rU HO178.out))) (Kd.R_lt (rU HO181.out))) (below_size (bU HB.out))); replace HO167 := Aside0.mk (Kd.R_elder' (rU HO167.out) (Kd.R_base ho40) hb); replace HO171 := Aside0.mk (Kd.R_elder' (rU HO171.out) (Kd.R_base ho40) hb); replace HO176 := Aside0.mk (Kd.R_elder' (rU HO176.out) (Kd.R_base ho40) hb); replace HO178 := Aside0.mk (Kd.R_elder' (rU HO178.out) (Kd.R_base ho40) hb); replace HO181 := Aside0.mk (Kd.R_elder' (rU HO181.out) (Kd.R_base ho40) hb); replace HB := Aside0.mk (below_step (bU HB.out) hb); clear hb ho40; obtain ⟨Ao41, co41, eo41⟩ := Kd.R_slice HO176.out; subst eo41; obtain ⟨Ao42, co42, eo42⟩ := Kd.R_slice HO185.out; subst eo42) | (go_at_call 15; (with_reducible refine (tegularef32_Same.calls k _ _ t172 _ _ y183 true _ ?side1 ?side2 ?side3 ?side4 A7.out).mono ?_); (case side1 => repeat (first | exact (Kd.R_reads' HO176.out).2.2 | (with_reducible refine Kd.C_alloc ?_ _) | (with_reducible refine Kd.C_drewN ?_ _) | (with_reducible refine Kd.C_drew ?_))); (case side2 => exact (Kd.R_reads' HO176.out).2.1); (case side3 => repeat (first | exact (Kd.R_reads' HO185.out).2.2 | (with_reducible refine Kd.C_alloc ?_ _) | (with_reducible refine Kd.C_drewN ?_ _) | (with_reducible refine Kd.C_drew ?_))); (case side4 => exact (Kd.R_reads' HO185.out).2.1); rintro e w' ⟨rfl, ⟨nd, rfl⟩⟩) | ((with_reducible refine gate_dst (N := 43) rfl ?_); (try (refine gate_guard (by rfl) ?_; dsimp only)); refine Kd.R_lit k33 _ 33 ?hg (N := 43) ?hd (xs := ([(⟨2, 2, 12⟩ : S33)] : List (S33))) (inner := [.int .i64 2, .int .i64 2, .int .i64 12]) (ok := fun _ => True) (okp := fun _ => True) ?hr ?hp (fun _ hk => hk) trivial (Below.refl _ _) (Nat.le_refl _) (by simp) ?_; (case hd => rfl); (case hg => rfl); (case hr => first | (go_simp; done) | (go_simp; rfl)); (case hp => exact (Reps.c3 (show Kd.M k33 _ _ _ (⟨2, 2, 12⟩ : S33) [.int .i64 2, .int .i64 2, .int .i64 12] from (k33_mkM _ _ _ (⟨2, 2, 12⟩ : S33) )) (Reps.none _ _))); intro v188 w43 ho44 hb hg_ hnew_; clear hg_ hnew_; (first | rw [← Ny187.out] at ho44 | (simp only [Int.reduceToNat] at ho44; rw [← Ny187.out] at ho44)); have HO189 := Aside0.mk (Kd.R_lower (Kd.R_new' (Kd.R_new' (Kd.R_new' (Kd.R_new' (Kd.R_new' (Kd.R_new' ho44 (Kd.R_lt (rU HO167.out))) (Kd.R_lt (rU HO171.out))) (Kd.R_lt (rU HO176.out))) (Kd.R_lt (rU HO178.out))) (Kd.R_lt (rU HO181.out))) (Kd.R_lt (rU HO185.out))) (below_size (bU HB.out))); replace HO167 := Aside0.mk (Kd.R_elder' (rU HO167.out) (Kd.R_base ho44) hb); replace HO171 := Aside0.mk (Kd.R_elder' (rU HO171.out) (Kd.R_base ho44) hb); replace HO176 := Aside0.mk (Kd.R_elder' (rU HO176.out) (Kd.R_base ho44) hb); replace HO178 := Aside0.mk (Kd.R_elder' (rU HO178.out) (Kd.R_base ho44) hb); replace HO181 := Aside0.mk (Kd.R_elder' (rU HO181.out) (Kd.R_base ho44) hb); replace HO185 := Aside0.mk (Kd.R_elder' (rU HO185.out) (Kd.R_base ho44) hb); replace HB := Aside0.mk (below_step (bU HB.out) hb); clear hb ho44; obtain ⟨Ao45, co45, eo45⟩ := Kd.R_slice HO178.out; subst eo45; obtain ⟨Ao46, co46, eo46⟩ := Kd.R_slice HO189.out; subst eo46) | (go_at_call 15; (with_reducible refine (tegularef32_Same.calls k _ _ t173 _ _ y187 false _ ?side1 ?side2 ?side3 ?side4 A9.out).mono ?_); (case side1 => repeat (first | exact (Kd.R_reads' HO178.out).2.2 | (with_reducible refine Kd.C_alloc ?_ _) | (with_reducible refine Kd.C_drewN ?_ _) | (with_reducible refine Kd.C_drew ?_))); (case side2 => exact (Kd.R_reads' HO178.out).2.1); (case side3 => repeat (first | exact (Kd.R_reads' HO189.out).2.2 | (with_reducible refine Kd.C_alloc ?_ _) | (with_reducible refine Kd.C_drewN ?_ _) | (with_reducible refine Kd.C_drew ?_))); (case side4 => exact (Kd.R_reads' HO189.out).2.1); rintro e w' ⟨rfl, ⟨nd, rfl⟩⟩))
      go_ret
      exact ⟨by first | rfl | (simp [errW_none, errW_some] <;> rfl) | (simp [*, errW_none, errW_some] <;> rfl), bU HB.out⟩
    ·
     replace c8 := Bool.eq_false_iff.mpr c8
     subst c8
     have H1 : (some false) = some r := by rw [if_neg (show ¬ (false = true) by decide)] at H; exact H
     clear H
     have H := H1
     clear H1
     obtain rfl := Option.some.inj H
     go_enter Try.func11, Try.ntmps11
     go_wp2_with (first | ((with_reducible refine gate_dst (N := 9) rfl ?_); (try (refine gate_guard (by rfl) ?_; dsimp only)); refine Kd.R_lit k33 _ 33 ?hg (N := 9) ?hd (xs := ([(⟨0, 4, 10⟩ : S33), (⟨4, 2, 14⟩ : S33)] : List (S33))) (inner := [.int .i64 0, .int .i64 4, .int .i64 10, .int .i64 4, .int .i64 2, .int .i64 14]) (ok := fun _ => True) (okp := fun _ => True) ?hr ?hp (fun _ hk => hk) trivial (Below.refl _ _) (Nat.le_refl _) (by simp) ?_; (case hd => rfl); (case hg => rfl); (case hr => first | (go_simp; done) | (go_simp; rfl)); (case hp => exact (Reps.c3 (show Kd.M k33 _ _ _ (⟨0, 4, 10⟩ : S33) [.int .i64 0, .int .i64 4, .int .i64 10] from (k33_mkM _ _ _ (⟨0, 4, 10⟩ : S33) )) (Reps.c3 (show Kd.M k33 _ _ _ (⟨4, 2, 14⟩ : S33) [.int .i64 4, .int .i64 2, .int .i64 14] from (k33_mkM _ _ _ (⟨4, 2, 14⟩ : S33) )) (Reps.none _ _)))); intro v166 w47 ho48 hb hg_ hnew_; clear hg_ hnew_; (first | rw [← Ny165.out] at ho48 | (simp only [Int.reduceToNat] at ho48; rw [← Ny165.out] at ho48)); have HO167 := Aside0.mk (Kd.R_lower ho48 (below_size (bU HB.out))); replace HB := Aside0.mk (below_step (bU HB.out) hb); clear hb ho48; obtain ⟨Ao49, co49, eo49⟩ := Kd.R_slice HO167.out; subst eo49) | ((with_reducible refine gate_callee (f := 17) rfl ?_); refine goesL_ (some 12) rfl rfl Try.func17 (by kernel_rfl) rfl #[.slice Ao49 y165.length co49] rfl (by (try simp only [List.map_toArray, List.map_cons, List.map_nil]); first | done | rfl | (simp only [List.length_drop, List.length_take]; rfl)) ?_; (with_reducible refine (extent_Join.calls k _ _ y165 t168 t169 _ ?side1 ?side2 A1.out).mono ?_); (case side1 => repeat (first | exact (Kd.R_reads' HO167.out).2.2 | (with_reducible refine Kd.C_alloc ?_ _) | (with_reducible refine Kd.C_drewN ?_ _) | (with_reducible refine Kd.C_drew ?_))); (case side2 => exact (Kd.R_reads' HO167.out).2.1); rintro e w50 ⟨v170, rfl, ho0, hb⟩; refine ⟨_, rfl, ?_⟩; have HO171 := Aside0.mk (Kd.R_lower (Kd.R_new' ho0 (Kd.R_lt (rU HO167.out))) (below_size (bU HB.out))); replace HO167 := Aside0.mk (Kd.R_elder' (rU HO167.out) (Kd.R_base ho0) hb); replace HB := Aside0.mk (below_step (bU HB.out) hb); (try clear hb); (try clear hk); (try clear ho0)) | ((with_reducible refine gate_callee (f := 13) rfl ?_); refine goesL_ (some 17) rfl rfl Try.func13 (by kernel_rfl) rfl #[.slice Ao49 y165.length co49, .int .i64 2, .int .i64 2] rfl (by (try simp only [List.map_toArray, List.map_cons, List.map_nil]); first | done | rfl | (simp only [List.length_drop, List.length_take]; rfl)) ?_; (with_reducible refine (extent_Cut.calls k _ _ y165 2 2 t172 t173 t174 _ ?side1 ?side2 A2.out).mono ?_); (case side1 => repeat (first | exact (Kd.R_reads' HO167.out).2.2 | (with_reducible refine Kd.C_alloc ?_ _) | (with_reducible refine Kd.C_drewN ?_ _) | (with_reducible refine Kd.C_drew ?_))); (case side2 => exact (Kd.R_reads' HO167.out).2.1); rintro e w51 ⟨v175, v177, rfl, ho0, ho1, hb⟩; refine ⟨_, rfl, ?_⟩; have HO176 := Aside0.mk (Kd.R_lower (Kd.R_new' (Kd.R_new' ho0 (Kd.R_lt (rU HO167.out))) (Kd.R_lt (rU HO171.out))) (below_size (bU HB.out))); have HO178 := Aside0.mk (Kd.R_lower (Kd.R_new' (Kd.R_new' ho1 (Kd.R_lt (rU HO167.out))) (Kd.R_lt (rU HO171.out))) (below_size (bU HB.out))); replace HO167 := Aside0.mk (Kd.R_mono (Kd.R_told (Kd.R_told (Kd.R_old (rU HO167.out) hb) (Kd.R_base ho0)) (Kd.R_base ho1)) (fun _ h_ => h_.1)); replace HO171 := Aside0.mk (Kd.R_mono (Kd.R_told (Kd.R_told (Kd.R_old (rU HO171.out) hb) (Kd.R_base ho0)) (Kd.R_base ho1)) (fun _ h_ => h_.1)); replace HB := Aside0.mk (below_step (bU HB.out) hb); (try clear hb); (try clear hk); (try clear ho0); (try clear ho1)) | ((with_reducible refine gate_dst (N := 30) rfl ?_); (try (refine gate_guard (by rfl) ?_; dsimp only)); refine Kd.R_lit k33 _ 33 ?hg (N := 30) ?hd (xs := ([(⟨0, 6, 10⟩ : S33)] : List (S33))) (inner := [.int .i64 0, .int .i64 6, .int .i64 10]) (ok := fun _ => True) (okp := fun _ => True) ?hr ?hp (fun _ hk => hk) trivial (Below.refl _ _) (Nat.le_refl _) (by simp) ?_; (case hd => rfl); (case hg => rfl); (case hr => first | (go_simp; done) | (go_simp; rfl)); (case hp => exact (Reps.c3 (show Kd.M k33 _ _ _ (⟨0, 6, 10⟩ : S33) [.int .i64 0, .int .i64 6, .int .i64 10] from (k33_mkM _ _ _ (⟨0, 6, 10⟩ : S33) )) (Reps.none _ _))); intro v180 w52 ho53 hb hg_ hnew_; clear hg_ hnew_; (first | rw [← Ny179.out] at ho53 | (simp only [Int.reduceToNat] at ho53; rw [← Ny179.out] at ho53)); have HO181 := Aside0.mk (Kd.R_lower (Kd.R_new' (Kd.R_new' (Kd.R_new' (Kd.R_new' ho53 (Kd.R_lt (rU HO167.out))) (Kd.R_lt (rU HO171.out))) (Kd.R_lt (rU HO176.out))) (Kd.R_lt (rU HO178.out))) (below_size (bU HB.out))); replace HO167 := Aside0.mk (Kd.R_elder' (rU HO167.out) (Kd.R_base ho53) hb); replace HO171 := Aside0.mk (Kd.R_elder' (rU HO171.out) (Kd.R_base ho53) hb); replace HO176 := Aside0.mk (Kd.R_elder' (rU HO176.out) (Kd.R_base ho53) hb); replace HO178 := Aside0.mk (Kd.R_elder' (rU HO178.out) (Kd.R_base ho53) hb); replace HB := Aside0.mk (below_step (bU HB.out) hb); clear hb ho53; obtain ⟨Ao54, co54, eo54⟩ := Kd.R_slice HO171.out; subst eo54; obtain ⟨Ao55, co55, eo55⟩ := Kd.R_slice HO181.out; subst eo55) | (go_at_call 15; (with_reducible refine (tegularef32_Same.calls k _ _ t168 _ _ y179 true _ ?side1 ?side2 ?side3 ?side4 A5.out).mono ?_); (case side1 => repeat (first | exact (Kd.R_reads' HO171.out).2.2 | (with_reducible refine Kd.C_alloc ?_ _) | (with_reducible refine Kd.C_drewN ?_ _) | (with_reducible refine Kd.C_drew ?_))); (case side2 => exact (Kd.R_reads' HO171.out).2.1); (case side3 => repeat (first | exact (Kd.R_reads' HO181.out).2.2 | (with_reducible refine Kd.C_alloc ?_ _) | (with_reducible refine Kd.C_drewN ?_ _) | (with_reducible refine Kd.C_drew ?_))); (case side4 => exact (Kd.R_reads' HO181.out).2.1); rintro e w' ⟨rfl, ⟨nd, rfl⟩⟩) | ((with_reducible refine gate_dst (N := 37) rfl ?_); (try (refine gate_guard (by rfl) ?_; dsimp only)); refine Kd.R_lit k33 _ 33 ?hg (N := 37) ?hd (xs := ([(⟨0, 2, 10⟩ : S33), (⟨4, 2, 14⟩ : S33)] : List (S33))) (inner := [.int .i64 0, .int .i64 2, .int .i64 10, .int .i64 4, .int .i64 2, .int .i64 14]) (ok := fun _ => True) (okp := fun _ => True) ?hr ?hp (fun _ hk => hk) trivial (Below.refl _ _) (Nat.le_refl _) (by simp) ?_; (case hd => rfl); (case hg => rfl); (case hr => first | (go_simp; done) | (go_simp; rfl)); (case hp => exact (Reps.c3 (show Kd.M k33 _ _ _ (⟨0, 2, 10⟩ : S33) [.int .i64 0, .int .i64 2, .int .i64 10] from (k33_mkM _ _ _ (⟨0, 2, 10⟩ : S33) )) (Reps.c3 (show Kd.M k33 _ _ _ (⟨4, 2, 14⟩ : S33) [.int .i64 4, .int .i64 2, .int .i64 14] from (k33_mkM _ _ _ (⟨4, 2, 14⟩ : S33) )) (Reps.none _ _)))); intro v184 w56 ho57 hb hg_ hnew_; clear hg_ hnew_; (first | rw [← Ny183.out] at ho57 | (simp only [Int.reduceToNat] at ho57; rw [← Ny183.out] at ho57)); have HO185 := Aside0.mk (Kd.R_lower (Kd.R_new' (Kd.R_new' (Kd.R_new' (Kd.R_new' (Kd.R_new' ho57 (Kd.R_lt (rU HO167.out))) (Kd.R_lt (rU HO171.out))) (Kd.R_lt (rU HO176.out))) (Kd.R_lt (rU HO178.out))) (Kd.R_lt (rU HO181.out))) (below_size (bU HB.out))); replace HO167 := Aside0.mk (Kd.R_elder' (rU HO167.out) (Kd.R_base ho57) hb); replace HO171 := Aside0.mk (Kd.R_elder' (rU HO171.out) (Kd.R_base ho57) hb); replace HO176 := Aside0.mk (Kd.R_elder' (rU HO176.out) (Kd.R_base ho57) hb); replace HO178 := Aside0.mk (Kd.R_elder' (rU HO178.out) (Kd.R_base ho57) hb); replace HO181 := Aside0.mk (Kd.R_elder' (rU HO181.out) (Kd.R_base ho57) hb); replace HB := Aside0.mk (below_step (bU HB.out) hb); clear hb ho57; obtain ⟨Ao58, co58, eo58⟩ := Kd.R_slice HO176.out; subst eo58; obtain ⟨Ao59, co59, eo59⟩ := Kd.R_slice HO185.out; subst eo59) | (go_at_call 15; (with_reducible refine (tegularef32_Same.calls k _ _ t172 _ _ y183 false _ ?side1 ?side2 ?side3 ?side4 A7.out).mono ?_); (case side1 => repeat (first | exact (Kd.R_reads' HO176.out).2.2 | (with_reducible refine Kd.C_alloc ?_ _) | (with_reducible refine Kd.C_drewN ?_ _) | (with_reducible refine Kd.C_drew ?_))); (case side2 => exact (Kd.R_reads' HO176.out).2.1); (case side3 => repeat (first | exact (Kd.R_reads' HO185.out).2.2 | (with_reducible refine Kd.C_alloc ?_ _) | (with_reducible refine Kd.C_drewN ?_ _) | (with_reducible refine Kd.C_drew ?_))); (case side4 => exact (Kd.R_reads' HO185.out).2.1); rintro e w' ⟨rfl, ⟨nd, rfl⟩⟩))
     go_ret
     exact ⟨by first | rfl | (simp [errW_none, errW_some] <;> rfl) | (simp [*, errW_none, errW_some] <;> rfl), bU HB.out⟩
   ·
    replace c6 := Bool.eq_false_iff.mpr c6
    subst c6
    have H1 : (some false) = some r := by rw [if_neg (show ¬ (false = true) by decide)] at H; exact H
    clear H
    have H := H1
    clear H1
    obtain rfl := Option.some.inj H
    go_enter Try.func11, Try.ntmps11
    go_wp2_with (first | ((with_reducible refine gate_dst (N := 9) rfl ?_); (try (refine gate_guard (by rfl) ?_; dsimp only)); refine Kd.R_lit k33 _ 33 ?hg (N := 9) ?hd (xs := ([(⟨0, 4, 10⟩ : S33), (⟨4, 2, 14⟩ : S33)] : List (S33))) (inner := [.int .i64 0, .int .i64 4, .int .i64 10, .int .i64 4, .int .i64 2, .int .i64 14]) (ok := fun _ => True) (okp := fun _ => True) ?hr ?hp (fun _ hk => hk) trivial (Below.refl _ _) (Nat.le_refl _) (by simp) ?_; (case hd => rfl); (case hg => rfl); (case hr => first | (go_simp; done) | (go_simp; rfl)); (case hp => exact (Reps.c3 (show Kd.M k33 _ _ _ (⟨0, 4, 10⟩ : S33) [.int .i64 0, .int .i64 4, .int .i64 10] from (k33_mkM _ _ _ (⟨0, 4, 10⟩ : S33) )) (Reps.c3 (show Kd.M k33 _ _ _ (⟨4, 2, 14⟩ : S33) [.int .i64 4, .int .i64 2, .int .i64 14] from (k33_mkM _ _ _ (⟨4, 2, 14⟩ : S33) )) (Reps.none _ _)))); intro v166 w60 ho61 hb hg_ hnew_; clear hg_ hnew_; (first | rw [← Ny165.out] at ho61 | (simp only [Int.reduceToNat] at ho61; rw [← Ny165.out] at ho61)); have HO167 := Aside0.mk (Kd.R_lower ho61 (below_size (bU HB.out))); replace HB := Aside0.mk (below_step (bU HB.out) hb); clear hb ho61; obtain ⟨Ao62, co62, eo62⟩ := Kd.R_slice HO167.out; subst eo62) | ((with_reducible refine gate_callee (f := 17) rfl ?_); refine goesL_ (some 12) rfl rfl Try.func17 (by kernel_rfl) rfl #[.slice Ao62 y165.length co62] rfl (by (try simp only [List.map_toArray, List.map_cons, List.map_nil]); first | done | rfl | (simp only [List.length_drop, List.length_take]; rfl)) ?_; (with_reducible refine (extent_Join.calls k _ _ y165 t168 t169 _ ?side1 ?side2 A1.out).mono ?_); (case side1 => repeat (first | exact (Kd.R_reads' HO167.out).2.2 | (with_reducible refine Kd.C_alloc ?_ _) | (with_reducible refine Kd.C_drewN ?_ _) | (with_reducible refine Kd.C_drew ?_))); (case side2 => exact (Kd.R_reads' HO167.out).2.1); rintro e w63 ⟨v170, rfl, ho0, hb⟩; refine ⟨_, rfl, ?_⟩; have HO171 := Aside0.mk (Kd.R_lower (Kd.R_new' ho0 (Kd.R_lt (rU HO167.out))) (below_size (bU HB.out))); replace HO167 := Aside0.mk (Kd.R_elder' (rU HO167.out) (Kd.R_base ho0) hb); replace HB := Aside0.mk (below_step (bU HB.out) hb); (try clear hb); (try clear hk); (try clear ho0)) | ((with_reducible refine gate_callee (f := 13) rfl ?_); refine goesL_ (some 17) rfl rfl Try.func13 (by kernel_rfl) rfl #[.slice Ao62 y165.length co62, .int .i64 2, .int .i64 2] rfl (by (try simp only [List.map_toArray, List.map_cons, List.map_nil]); first | done | rfl | (simp only [List.length_drop, List.length_take]; rfl)) ?_; (with_reducible refine (extent_Cut.calls k _ _ y165 2 2 t172 t173 t174 _ ?side1 ?side2 A2.out).mono ?_); (case side1 => repeat (first | exact (Kd.R_reads' HO167.out).2.2 | (with_reducible refine Kd.C_alloc ?_ _) | (with_reducible refine Kd.C_drewN ?_ _) | (with_reducible refine Kd.C_drew ?_))); (case side2 => exact (Kd.R_reads' HO167.out).2.1); rintro e w64 ⟨v175, v177, rfl, ho0, ho1, hb⟩; refine ⟨_, rfl, ?_⟩; have HO176 := Aside0.mk (Kd.R_lower (Kd.R_new' (Kd.R_new' ho0 (Kd.R_lt (rU HO167.out))) (Kd.R_lt (rU HO171.out))) (below_size (bU HB.out))); have HO178 := Aside0.mk (Kd.R_lower (Kd.R_new' (Kd.R_new' ho1 (Kd.R_lt (rU HO167.out))) (Kd.R_lt (rU HO171.out))) (below_size (bU HB.out))); replace HO167 := Aside0.mk (Kd.R_mono (Kd.R_told (Kd.R_told (Kd.R_old (rU HO167.out) hb) (Kd.R_base ho0)) (Kd.R_base ho1)) (fun _ h_ => h_.1)); replace HO171 := Aside0.mk (Kd.R_mono (Kd.R_told (Kd.R_told (Kd.R_old (rU HO171.out) hb) (Kd.R_base ho0)) (Kd.R_base ho1)) (fun _ h_ => h_.1)); replace HB := Aside0.mk (below_step (bU HB.out) hb); (try clear hb); (try clear hk); (try clear ho0); (try clear ho1)) | ((with_reducible refine gate_dst (N := 30) rfl ?_); (try (refine gate_guard (by rfl) ?_; dsimp only)); refine Kd.R_lit k33 _ 33 ?hg (N := 30) ?hd (xs := ([(⟨0, 6, 10⟩ : S33)] : List (S33))) (inner := [.int .i64 0, .int .i64 6, .int .i64 10]) (ok := fun _ => True) (okp := fun _ => True) ?hr ?hp (fun _ hk => hk) trivial (Below.refl _ _) (Nat.le_refl _) (by simp) ?_; (case hd => rfl); (case hg => rfl); (case hr => first | (go_simp; done) | (go_simp; rfl)); (case hp => exact (Reps.c3 (show Kd.M k33 _ _ _ (⟨0, 6, 10⟩ : S33) [.int .i64 0, .int .i64 6, .int .i64 10] from (k33_mkM _ _ _ (⟨0, 6, 10⟩ : S33) )) (Reps.none _ _))); intro v180 w65 ho66 hb hg_ hnew_; clear hg_ hnew_; (first | rw [← Ny179.out] at ho66 | (simp only [Int.reduceToNat] at ho66; rw [← Ny179.out] at ho66)); have HO181 := Aside0.mk (Kd.R_lower (Kd.R_new' (Kd.R_new' (Kd.R_new' (Kd.R_new' ho66 (Kd.R_lt (rU HO167.out))) (Kd.R_lt (rU HO171.out))) (Kd.R_lt (rU HO176.out))) (Kd.R_lt (rU HO178.out))) (below_size (bU HB.out))); replace HO167 := Aside0.mk (Kd.R_elder' (rU HO167.out) (Kd.R_base ho66) hb); replace HO171 := Aside0.mk (Kd.R_elder' (rU HO171.out) (Kd.R_base ho66) hb); replace HO176 := Aside0.mk (Kd.R_elder' (rU HO176.out) (Kd.R_base ho66) hb); replace HO178 := Aside0.mk (Kd.R_elder' (rU HO178.out) (Kd.R_base ho66) hb); replace HB := Aside0.mk (below_step (bU HB.out) hb); clear hb ho66; obtain ⟨Ao67, co67, eo67⟩ := Kd.R_slice HO171.out; subst eo67; obtain ⟨Ao68, co68, eo68⟩ := Kd.R_slice HO181.out; subst eo68) | (go_at_call 15; (with_reducible refine (tegularef32_Same.calls k _ _ t168 _ _ y179 false _ ?side1 ?side2 ?side3 ?side4 A5.out).mono ?_); (case side1 => repeat (first | exact (Kd.R_reads' HO171.out).2.2 | (with_reducible refine Kd.C_alloc ?_ _) | (with_reducible refine Kd.C_drewN ?_ _) | (with_reducible refine Kd.C_drew ?_))); (case side2 => exact (Kd.R_reads' HO171.out).2.1); (case side3 => repeat (first | exact (Kd.R_reads' HO181.out).2.2 | (with_reducible refine Kd.C_alloc ?_ _) | (with_reducible refine Kd.C_drewN ?_ _) | (with_reducible refine Kd.C_drew ?_))); (case side4 => exact (Kd.R_reads' HO181.out).2.1); rintro e w' ⟨rfl, ⟨nd, rfl⟩⟩))
    go_ret
    exact ⟨by first | rfl | (simp [errW_none, errW_some] <;> rfl) | (simp [*, errW_none, errW_some] <;> rfl), bU HB.out⟩
  ·
   rw [if_neg c4] at H
   have c4b0 : (t174 == 0) = false := beq_eq_false_iff_ne.mpr c4
   have c4b1 : (t174 != 0) = true := bne_iff_ne.mpr c4
   obtain rfl := Option.some.inj H
   go_enter Try.func11, Try.ntmps11
   go_wp2_with (first | ((with_reducible refine gate_dst (N := 9) rfl ?_); (try (refine gate_guard (by rfl) ?_; dsimp only)); refine Kd.R_lit k33 _ 33 ?hg (N := 9) ?hd (xs := ([(⟨0, 4, 10⟩ : S33), (⟨4, 2, 14⟩ : S33)] : List (S33))) (inner := [.int .i64 0, .int .i64 4, .int .i64 10, .int .i64 4, .int .i64 2, .int .i64 14]) (ok := fun _ => True) (okp := fun _ => True) ?hr ?hp (fun _ hk => hk) trivial (Below.refl _ _) (Nat.le_refl _) (by simp) ?_; (case hd => rfl); (case hg => rfl); (case hr => first | (go_simp; done) | (go_simp; rfl)); (case hp => exact (Reps.c3 (show Kd.M k33 _ _ _ (⟨0, 4, 10⟩ : S33) [.int .i64 0, .int .i64 4, .int .i64 10] from (k33_mkM _ _ _ (⟨0, 4, 10⟩ : S33) )) (Reps.c3 (show Kd.M k33 _ _ _ (⟨4, 2, 14⟩ : S33) [.int .i64 4, .int .i64 2, .int .i64 14] from (k33_mkM _ _ _ (⟨4, 2, 14⟩ : S33) )) (Reps.none _ _)))); intro v166 w69 ho70 hb hg_ hnew_; clear hg_ hnew_; (first | rw [← Ny165.out] at ho70 | (simp only [Int.reduceToNat] at ho70; rw [← Ny165.out] at ho70)); have HO167 := Aside0.mk (Kd.R_lower ho70 (below_size (bU HB.out))); replace HB := Aside0.mk (below_step (bU HB.out) hb); clear hb ho70; obtain ⟨Ao71, co71, eo71⟩ := Kd.R_slice HO167.out; subst eo71) | ((with_reducible refine gate_callee (f := 17) rfl ?_); refine goesL_ (some 12) rfl rfl Try.func17 (by kernel_rfl) rfl #[.slice Ao71 y165.length co71] rfl (by (try simp only [List.map_toArray, List.map_cons, List.map_nil]); first | done | rfl | (simp only [List.length_drop, List.length_take]; rfl)) ?_; (with_reducible refine (extent_Join.calls k _ _ y165 t168 t169 _ ?side1 ?side2 A1.out).mono ?_); (case side1 => repeat (first | exact (Kd.R_reads' HO167.out).2.2 | (with_reducible refine Kd.C_alloc ?_ _) | (with_reducible refine Kd.C_drewN ?_ _) | (with_reducible refine Kd.C_drew ?_))); (case side2 => exact (Kd.R_reads' HO167.out).2.1); rintro e w72 ⟨v170, rfl, ho0, hb⟩; refine ⟨_, rfl, ?_⟩; have HO171 := Aside0.mk (Kd.R_lower (Kd.R_new' ho0 (Kd.R_lt (rU HO167.out))) (below_size (bU HB.out))); replace HO167 := Aside0.mk (Kd.R_elder' (rU HO167.out) (Kd.R_base ho0) hb); replace HB := Aside0.mk (below_step (bU HB.out) hb); (try clear hb); (try clear hk); (try clear ho0)) | ((with_reducible refine gate_callee (f := 13) rfl ?_); refine goesL_ (some 17) rfl rfl Try.func13 (by kernel_rfl) rfl #[.slice Ao71 y165.length co71, .int .i64 2, .int .i64 2] rfl (by (try simp only [List.map_toArray, List.map_cons, List.map_nil]); first | done | rfl | (simp only [List.length_drop, List.length_take]; rfl)) ?_; (with_reducible refine (extent_Cut.calls k _ _ y165 2 2 t172 t173 t174 _ ?side1 ?side2 A2.out).mono ?_); (case side1 => repeat (first | exact (Kd.R_reads' HO167.out).2.2 | (with_reducible refine Kd.C_alloc ?_ _) | (with_reducible refine Kd.C_drewN ?_ _) | (with_reducible refine Kd.C_drew ?_))); (case side2 => exact (Kd.R_reads' HO167.out).2.1); rintro e w73 ⟨v175, v177, rfl, ho0, ho1, hb⟩; refine ⟨_, rfl, ?_⟩; have HO176 := Aside0.mk (Kd.R_lower (Kd.R_new' (Kd.R_new' ho0 (Kd.R_lt (rU HO167.out))) (Kd.R_lt (rU HO171.out))) (below_size (bU HB.out))); have HO178 := Aside0.mk (Kd.R_lower (Kd.R_new' (Kd.R_new' ho1 (Kd.R_lt (rU HO167.out))) (Kd.R_lt (rU HO171.out))) (below_size (bU HB.out))); replace HO167 := Aside0.mk (Kd.R_mono (Kd.R_told (Kd.R_told (Kd.R_old (rU HO167.out) hb) (Kd.R_base ho0)) (Kd.R_base ho1)) (fun _ h_ => h_.1)); replace HO171 := Aside0.mk (Kd.R_mono (Kd.R_told (Kd.R_told (Kd.R_old (rU HO171.out) hb) (Kd.R_base ho0)) (Kd.R_base ho1)) (fun _ h_ => h_.1)); replace HB := Aside0.mk (below_step (bU HB.out) hb); (try clear hb); (try clear hk); (try clear ho0); (try clear ho1)))
   go_ret
   exact ⟨by first | rfl | (simp [errW_none, errW_some] <;> rfl) | (simp [*, errW_none, errW_some] <;> rfl), bU HB.out⟩
 ·
  rw [if_neg c3] at H
  have c3b0 : (t169 == 0) = false := beq_eq_false_iff_ne.mpr c3
  have c3b1 : (t169 != 0) = true := bne_iff_ne.mpr c3
  obtain rfl := Option.some.inj H
  go_enter Try.func11, Try.ntmps11
  go_wp2_with (first | ((with_reducible refine gate_dst (N := 9) rfl ?_); (try (refine gate_guard (by rfl) ?_; dsimp only)); refine Kd.R_lit k33 _ 33 ?hg (N := 9) ?hd (xs := ([(⟨0, 4, 10⟩ : S33), (⟨4, 2, 14⟩ : S33)] : List (S33))) (inner := [.int .i64 0, .int .i64 4, .int .i64 10, .int .i64 4, .int .i64 2, .int .i64 14]) (ok := fun _ => True) (okp := fun _ => True) ?hr ?hp (fun _ hk => hk) trivial (Below.refl _ _) (Nat.le_refl _) (by simp) ?_; (case hd => rfl); (case hg => rfl); (case hr => first | (go_simp; done) | (go_simp; rfl)); (case hp => exact (Reps.c3 (show Kd.M k33 _ _ _ (⟨0, 4, 10⟩ : S33) [.int .i64 0, .int .i64 4, .int .i64 10] from (k33_mkM _ _ _ (⟨0, 4, 10⟩ : S33) )) (Reps.c3 (show Kd.M k33 _ _ _ (⟨4, 2, 14⟩ : S33) [.int .i64 4, .int .i64 2, .int .i64 14] from (k33_mkM _ _ _ (⟨4, 2, 14⟩ : S33) )) (Reps.none _ _)))); intro v166 w74 ho75 hb hg_ hnew_; clear hg_ hnew_; (first | rw [← Ny165.out] at ho75 | (simp only [Int.reduceToNat] at ho75; rw [← Ny165.out] at ho75)); have HO167 := Aside0.mk (Kd.R_lower ho75 (below_size (bU HB.out))); replace HB := Aside0.mk (below_step (bU HB.out) hb); clear hb ho75; obtain ⟨Ao76, co76, eo76⟩ := Kd.R_slice HO167.out; subst eo76) | ((with_reducible refine gate_callee (f := 17) rfl ?_); refine goesL_ (some 12) rfl rfl Try.func17 (by kernel_rfl) rfl #[.slice Ao76 y165.length co76] rfl (by (try simp only [List.map_toArray, List.map_cons, List.map_nil]); first | done | rfl | (simp only [List.length_drop, List.length_take]; rfl)) ?_; (with_reducible refine (extent_Join.calls k _ _ y165 t168 t169 _ ?side1 ?side2 A1.out).mono ?_); (case side1 => repeat (first | exact (Kd.R_reads' HO167.out).2.2 | (with_reducible refine Kd.C_alloc ?_ _) | (with_reducible refine Kd.C_drewN ?_ _) | (with_reducible refine Kd.C_drew ?_))); (case side2 => exact (Kd.R_reads' HO167.out).2.1); rintro e w77 ⟨v170, rfl, ho0, hb⟩; refine ⟨_, rfl, ?_⟩; have HO171 := Aside0.mk (Kd.R_lower (Kd.R_new' ho0 (Kd.R_lt (rU HO167.out))) (below_size (bU HB.out))); replace HO167 := Aside0.mk (Kd.R_elder' (rU HO167.out) (Kd.R_base ho0) hb); replace HB := Aside0.mk (below_step (bU HB.out) hb); (try clear hb); (try clear hk); (try clear ho0)) | ((with_reducible refine gate_callee (f := 13) rfl ?_); refine goesL_ (some 17) rfl rfl Try.func13 (by kernel_rfl) rfl #[.slice Ao76 y165.length co76, .int .i64 2, .int .i64 2] rfl (by (try simp only [List.map_toArray, List.map_cons, List.map_nil]); first | done | rfl | (simp only [List.length_drop, List.length_take]; rfl)) ?_; (with_reducible refine (extent_Cut.calls k _ _ y165 2 2 t172 t173 t174 _ ?side1 ?side2 A2.out).mono ?_); (case side1 => repeat (first | exact (Kd.R_reads' HO167.out).2.2 | (with_reducible refine Kd.C_alloc ?_ _) | (with_reducible refine Kd.C_drewN ?_ _) | (with_reducible refine Kd.C_drew ?_))); (case side2 => exact (Kd.R_reads' HO167.out).2.1); rintro e w78 ⟨v175, v177, rfl, ho0, ho1, hb⟩; refine ⟨_, rfl, ?_⟩; have HO176 := Aside0.mk (Kd.R_lower (Kd.R_new' (Kd.R_new' ho0 (Kd.R_lt (rU HO167.out))) (Kd.R_lt (rU HO171.out))) (below_size (bU HB.out))); have HO178 := Aside0.mk (Kd.R_lower (Kd.R_new' (Kd.R_new' ho1 (Kd.R_lt (rU HO167.out))) (Kd.R_lt (rU HO171.out))) (below_size (bU HB.out))); replace HO167 := Aside0.mk (Kd.R_mono (Kd.R_told (Kd.R_told (Kd.R_old (rU HO167.out) hb) (Kd.R_base ho0)) (Kd.R_base ho1)) (fun _ h_ => h_.1)); replace HO171 := Aside0.mk (Kd.R_mono (Kd.R_told (Kd.R_told (Kd.R_old (rU HO171.out) hb) (Kd.R_base ho0)) (Kd.R_base ho1)) (fun _ h_ => h_.1)); replace HB := Aside0.mk (below_step (bU HB.out) hb); (try clear hb); (try clear hk); (try clear ho0); (try clear ho1)))
  go_ret
  exact ⟨by first | rfl | (simp [errW_none, errW_some] <;> rfl) | (simp [*, errW_none, errW_some] <;> rfl), bU HB.out⟩

/-! ### tegulalaw32_copied: function 12 -/
def tegulalaw32_copied.f (l0 : List (S33)) : Option ((List (S33))) := (some (([] : List (S33)) : List (S33))).bind fun y192 => (if y192.length + l0.length < 5864062014805 then (some (y192 ++ l0)) else (none))
set_option maxHeartbeats 8000000 in
set_option maxRecDepth 100000 in
theorem tegulalaw32_copied.calls (A0 : Option Addr) (c0 : Nat) (l0 : List (S33)) (r : List (S33)) (w : World) (hr0 : Kd.C k33 w A0 l0.length l0) (hc0 : l0.length ≤ c0) (h : tegulalaw32_copied.f l0 = some r) :
  Calls Try.prog 12 #[.slice A0 l0.length c0] w fun e w' => ∃ v0_ : Value, e = .returned (v0_) ∧ Kd.R k33 33 w' w.heap.size (fun _ => True) v0_ r ∧ Below w.heap.size w w' := by
 have HR0 := Aside0.mk hr0
 have HC0 := Aside0.mk hc0
 clear hr0 hc0
 have HB := Aside0.mk (Below.refl w.heap.size w)
 have H : ((some (([] : List (S33)) : List (S33))).bind fun y192 => (if y192.length + l0.length < 5864062014805 then (some (y192 ++ l0)) else (none))) = some r := h
 clear h
 obtain ⟨y192, hy192⟩ : ∃ y_ : List (S33), y_ = (([] : List (S33))) := ⟨_, rfl⟩
 replace H : (if y192.length + l0.length < 5864062014805 then (some (y192 ++ l0)) else (none)) = some r := by first | (rw [hy192]; exact H) | exact H
 have Ny192 := Aside0.mk hy192
 clear hy192
 by_cases c2 : y192.length + l0.length < 5864062014805
 ·
  rw [if_pos c2] at H
  have LMc2 := Aside0.mk c2
  clear c2
  obtain ⟨y195, hy195⟩ : ∃ y_ : List (S33), y_ = (y192 ++ l0) := ⟨_, rfl⟩
  replace H : (some y195) = some r := by first | (rw [hy195]; exact H) | exact H
  have Ny195 := Aside0.mk hy195
  clear hy195
  obtain rfl := Option.some.inj H
  go_enter Try.func12, Try.ntmps12
  go_wp2_with (first | ((with_reducible refine gate_dst (N := 3) rfl ?_); refine Kd.R_lit k33 _ 33 ?hg (N := 3) ?hd (xs := ([] : List (S33))) (inner := []) (ok := fun _ => True) (okp := fun _ => True) ?hr ?hp (fun _ hk => hk) trivial (Below.refl _ _) (Nat.le_refl _) (by simp) ?_; (case hd => rfl); (case hg => rfl); (case hr => first | (go_simp; done) | (go_simp; rfl)); (case hp => exact (Reps.none _ _)); intro v193 w3 ho4 hb hg_ hnew_; clear hg_ hnew_; (first | rw [← Ny192.out] at ho4 | (simp only [Int.reduceToNat] at ho4; rw [← Ny192.out] at ho4)); have HO194 := Aside0.mk (Kd.R_lower ho4 (below_size (bU HB.out))); replace HB := Aside0.mk (below_step (bU HB.out) hb); clear hb ho4) | ((with_reducible refine gate_builtin (b := .append) (xs := #[.tmp 3, .tmp 4]) rfl ?_); at_builtin; refine Kd.R_append_rows k33 (w0 := w) w.heap.size rfl (.tmp 3) (.tmp 4) 22 33 (.agg #[(.int .i64 0), (.int .i64 0), (.int .i64 0)]) 24 rfl Try.underlying22 info33 rfl (by decide) (by omega) v193 y192 l0 _ _ _ (fun _ => True) (fun _ => False) rfl rfl ?aO ?aR (fun _ _ h => h) (fun _ h => h.elim) ?aF ?aB ?aS ?aL ?_; (case aR => repeat (first | exact (Kd.C_below HR0.out HB.out) | (with_reducible refine Kd.C_alloc ?_ _) | (with_reducible refine Kd.C_drewN ?_ _) | (with_reducible refine Kd.C_drew ?_))); (case aB => exact (bU HB.out)); (case aF => exact (fun _ _ => trivial)); (case aO => exact (rU HO194.out)); (case aS => exact (below_size (bU HB.out))); (case aL => have := LMc2.out; omega); intro v196 w5 ho hb hg hat; rw [← Ny195.out] at ho; have n0_ := Aside0.mk (hb); have n1_ := Aside0.mk (ho); clear HB; clear HO194; have HB := n0_; have HO197 := n1_; clear n0_ n1_; clear ho hb hg hat))
  go_ret
  exact ⟨_, by first | rfl | (simp [errW_none, errW_some] <;> rfl) | (simp [*, errW_none, errW_some] <;> rfl), rU HO197.out, bU HB.out⟩
 ·
  rw [if_neg c2] at H
  exact absurd H (by simp)

-- NOT PRINTED: function 36 (api_Extent_36)

-- MAKES
/-- The cells of a list of extents. -/
def encE (x : S33) : List Value := [.int .i64 x.f0, .int .i64 x.f1, .int .i64 x.f2]
theorem encE_len (l : List S33) : (l.flatMap encE).length = l.length * 3 := by
 induction l with
 | nil => rfl
 | cons x l ih => simp only [List.flatMap_cons, List.length_append, ih, encE, List.length_cons, List.length_nil]; omega
theorem encE_one (l : List S33) : ∀ v ∈ l.flatMap encE, v.oneCell' = true := by
 intro v hv
 obtain ⟨x, _, hx⟩ := List.mem_flatMap.1 hv
 simp [encE] at hx
 rcases hx with rfl | rfl | rfl <;> rfl
theorem encE_take (l : List S33) (i : Nat) : (l.flatMap encE).take (i * 3) = (l.take i).flatMap encE := by
 induction l generalizing i with
 | nil => simp
 | cons x l ih =>
  cases i with
  | zero => simp
  | succ i => rw [List.flatMap_cons, show (i + 1) * 3 = (encE x).length + i * 3 by simp [encE]; omega, List.take_length_add_append, ih]; rfl
theorem encE_drop (l : List S33) (i : Nat) : (l.flatMap encE).drop (i * 3) = (l.drop i).flatMap encE := by
 induction l generalizing i with
 | nil => simp
 | cons x l ih =>
  cases i with
  | zero => simp
  | succ i => rw [List.flatMap_cons, show (i + 1) * 3 = (encE x).length + i * 3 by simp [encE]; omega, List.drop_length_add_append, ih]; rfl
theorem reps_enc {w : World} {b : Nat} {ok : Nat → Prop} : ∀ {ps : List S33} {cs : List Value}, Reps (k33.M w b ok) 3 ps cs → cs = ps.flatMap encE
 | [], cs, h => by have := h.1; simp at this; simpa using this
 | p :: ps, cs, h => by
  have h0 := h.2 0 p rfl
  have h0' := k33_openM h0
  have hl := h.1
  simp only [List.length_cons] at hl
  have hd : Reps (k33.M w b ok) 3 ps (cs.drop 3) := ⟨by rw [List.length_drop]; omega, fun j q hq => by
   have := h.2 (j + 1) q hq
   rw [List.drop_drop, show 3 + j * 3 = (j + 1) * 3 by omega]
   exact this⟩
  have ih := reps_enc hd
  rw [List.flatMap_cons, ← ih]
  simp only [Nat.zero_mul, List.drop_zero] at h0'
  have := List.take_append_drop 3 cs
  rw [h0'] at this
  exact this.symm
theorem enc_reps {w : World} {b : Nat} {ok : Nat → Prop} (ps : List S33) : Reps (k33.M w b ok) 3 ps (ps.flatMap encE) := by
 refine ⟨encE_len ps, fun j p hp => ?_⟩
 have hj := (List.getElem?_eq_some_iff.1 hp).1
 rw [encE_drop, List.drop_eq_getElem_cons hj, List.flatMap_cons, show 3 = (encE ps[j]).length by rfl, List.take_left]
 have hpj : ps[j] = p := (List.getElem?_eq_some_iff.1 hp).2
 rw [hpj]
 exact k33_mkM w b ok p
/-- The cells of a list of extents in a row. -/
theorem cells_at {w : World} {A : Option Addr} {n : Nat} {l : List S33} (h : Kd.C k33 w A n l) (hn : n = l.length) : ∀ j (hj : j < l.length), ∃ ad, A = some ad ∧ ad.block < w.heap.size ∧ w.cell? (ad.add (j * 3)) = some (.int .i64 (l[j]).f0) ∧ w.cell? ⟨(ad.add (j * 3)).block, (ad.add (j * 3)).off + 1, none⟩ = some (.int .i64 (l[j]).f1) ∧ w.cell? ⟨(ad.add (j * 3)).block, (ad.add (j * 3)).off + 2, none⟩ = some (.int .i64 (l[j]).f2) := by
 intro j hj
 obtain ⟨ad, e, c0, c1, c2⟩ := at_T33 h (j : Int) (by omega) (by omega)
 have hr : rd_T33 l (j : Int) = l[j] := by unfold rd_T33; rw [List.getD_eq_getElem?_getD, show (j : Int).toNat = j from by omega, List.getElem?_eq_getElem hj]; rfl
 rw [hr, show (j : Int).toNat = j from by omega] at c0 c1 c2
 have hb : (ad.add (j * 3)).block = ad.block := by unfold Addr.add; split <;> rfl
 exact ⟨ad, e, by rw [← hb]; exact World.block_lt_of_cell? w _ c0, c0, c1, c2⟩

set_option maxHeartbeats 2000000 in
/-- slices.Clone. -/
theorem clone_calls (A : Option Addr) (c : Nat) (l : List S33) (w : World) (hC : Kd.C k33 w A l.length l) (hl : l.length ≤ 1000000000) :
  Calls Try.prog 40 #[.slice A l.length c] w fun e w' => ∃ v : Value, e = .returned v ∧ Kd.R k33 33 w' w.heap.size (fun _ => True) v l ∧ Below w.heap.size w w' := by
 have hu33 := Try.underlying33
 have hu22 := Try.underlying22
 have q : ∀ (w : World) (a : Option Addr) (n c n' c' : Nat), (binOp .eql 22 (.slice a n c) (.slice none n' c')).run Try.prog w = .ok (.bool a.isNone) w := fun w a n c n' c' => Lib.run_eql_slice_nil w _ _ a n c n' c' Try.underlying22
 have HC := Aside0.mk hC
 clear hC
 cases A with
 | none =>
  have h0 : l = [] := by
   cases l with
   | nil => rfl
   | cons x l => obtain ⟨ad, e, _⟩ := cells_at HC.out rfl 0 (by simp); cases e
  subst h0
  go_enter Try.func40, Try.ntmps40
  go_wp2
  go_ret
  exact ⟨_, rfl, Kd.R_nil _ _ _ _ _, Below.refl _ _⟩
 | some ad =>
  go_enter Try.func40, Try.ntmps40
  go_wp2_with (first
   | ((with_reducible refine gate_dst (N := 5) rfl ?_); refine Kd.R_lit k33 _ 33 ?hg (N := 5) ?hd (xs := ([] : List (S33))) (inner := []) (ok := fun _ => True) (okp := fun _ => True) ?hr ?hp (fun _ hk => hk) trivial (Below.refl _ _) (Nat.le_refl _) (by simp) ?_; (case hd => rfl); (case hg => rfl); (case hr => first | (go_simp; done) | (go_simp; rfl)); (case hp => exact (Reps.none _ _)); intro v193 w3 ho4 hb hg_ hnew_; clear hg_ hnew_; have HO := Aside0.mk ho4; have HB := Aside0.mk hb; clear ho4 hb)
   | ((with_reducible refine gate_builtin (b := .append) (xs := #[.tmp 5, .tmp 6]) rfl ?_); at_builtin; refine Kd.R_append_rows k33 (w0 := w) w.heap.size rfl (.tmp 5) (.tmp 6) 22 33 (.agg #[(.int .i64 0), (.int .i64 0), (.int .i64 0)]) 24 rfl Try.underlying22 info33 rfl (by decide) (by omega) v193 [] l _ _ _ (fun _ => True) (fun _ => False) rfl rfl HO.out (Kd.C_below HC.out HB.out) (fun _ _ h => h) (fun _ h => h.elim) (fun _ _ => trivial) HB.out HB.out.size (by simp; omega) ?_; intro v196 w5 ho hb hg hat; have HO2 := Aside0.mk ho; have HB2 := Aside0.mk hb; clear ho hb hg hat))
  go_ret
  exact ⟨_, rfl, HO2.out, HB2.out⟩
def api_Extent_40.f (l : List S33) : Option (List S33) := if l.length ≤ 1000000000 then some l else none
theorem api_Extent_40.calls (A0 : Option Addr) (c0 : Nat) (l0 : List S33) (r : List S33) (w : World) (hr0 : Kd.C k33 w A0 l0.length l0) (hc0 : l0.length ≤ c0) (h : api_Extent_40.f l0 = some r) :
  Calls Try.prog 40 #[.slice A0 l0.length c0] w fun e w' => ∃ v0_ : Value, e = .returned (v0_) ∧ Kd.R k33 33 w' w.heap.size (fun _ => True) v0_ r ∧ Below w.heap.size w w' := by
 unfold api_Extent_40.f at h
 split at h
 ·
  rename_i hl
  obtain rfl := Option.some.inj h
  exact clone_calls A0 c0 l0 w hr0 hl
 ·
  cases h

-- MAKES
set_option maxHeartbeats 1000000 in
/-- Runs' first closure at a valid extent. -/
theorem improper_calls (a b c : Int) (w : World) (h : extent_proper.f a b c = some true) :
  Calls Try.prog 41 #[.agg #[.int .i64 a, .int .i64 b, .int .i64 c]] w fun e w' => e = .returned (.bool false) ∧ Below w.heap.size w w' := by
 have hu33 := Try.underlying33
 have HH := Aside0.mk h
 clear h
 go_enter Try.func41, Try.ntmps41
 go_wp2_with fail
 refine (extent_proper.calls a b c true _ HH.out).mono ?_
 rintro e w1 ⟨rfl, hb⟩
 have HB := Aside0.mk hb
 clear hb
 go_wp2_with fail
 go_ret
 exact ⟨rfl, ((Below.refl _ _).alloc (Nat.le_refl _) _).trans (HB.out.mono (by simp))⟩

set_option maxHeartbeats 2000000 in
theorem index_none (A : Option Addr) (c : Nat) (l : List S33) (w : World) (hC : Kd.C k33 w A l.length l) (hl : l.length ≤ 1000000000) (ho : ∀ x ∈ l, extent_proper.f x.f0 x.f1 x.f2 = some true) :
  Calls Try.prog 36 #[.slice A l.length c, .func (.func 41) #[] #[]] w fun e w' => e = .returned (.int .i64 (-1)) ∧ Below w.heap.size w w' := by
 have hu33 := Try.underlying33
 have hu22 := Try.underlying22
 have hc33 : Try.prog.cellsOf 33 = 3 := by kernel_rfl
 have HC := Aside0.mk (cells_at hC rfl)
 have HO := Aside0.mk ho
 clear hC ho
 obtain ⟨n, hn⟩ : ∃ n, n = l.length := ⟨_, rfl⟩
 rw [← hn] at hl ⊢
 have HN := Aside0.mk hn
 clear hn
 go_enter Try.func36, Try.ntmps36
 go_wp2
 go_loopg [5, 8] n (fun gg _ s8 wr => ∃ kk : Nat, kk ≤ n ∧ n - kk ≤ gg ∧ s8 = .int .i64 kk ∧ Aside0 (Below w.heap.size w wr))
 case atStart => exact ⟨0, Nat.zero_le _, by omega, rfl, ⟨Below.refl _ w⟩⟩
 case round =>
  obtain ⟨kk, hkk, hg, rfl, BW⟩ := hrel
  by_cases hlt : kk < n
  ·
   have hltz : (kk : Int) < (n : Int) := by omega
   have hkl : kk < l.length := by rw [← HN.out]; exact hlt
   obtain ⟨ad, rfl, hgw, c0, c1, c2⟩ := HC.out kk hkl
   have hbl : (ad.add (kk * 3)).block = ad.block := by unfold Addr.add; split <;> rfl
   have d0 : wr.cell? (ad.add (kk * 3)) = some (.int .i64 (l[kk]).f0) := (BW.out.cell (p := ad.add (kk * 3)) (by rw [hbl]; exact hgw)).trans c0
   have d1 : wr.cell? ⟨(ad.add (kk * 3)).block, (ad.add (kk * 3)).off + 1, none⟩ = some (.int .i64 (l[kk]).f1) := (BW.out.cell (p := ⟨(ad.add (kk * 3)).block, _, none⟩) (by rw [hbl]; exact hgw)).trans c1
   have d2 : wr.cell? ⟨(ad.add (kk * 3)).block, (ad.add (kk * 3)).off + 2, none⟩ = some (.int .i64 (l[kk]).f2) := (BW.out.cell (p := ⟨(ad.add (kk * 3)).block, _, none⟩) (by rw [hbl]; exact hgw)).trans c2
   have hx := HO.out l[kk] (List.getElem_mem hkl)
   clear c0 c1 c2 hbl
   generalize l[kk] = y at d0 d1 d2 hx
   obtain ⟨y0, y1, y2⟩ := y
   have hcall := improper_calls y0 y1 y2 wr hx
   clear hx
   go_wp2_with fail
   refine hcall.mono ?_
   clear hcall d0 d1 d2
   rintro e w' ⟨rfl, hb'⟩
   have HBB := Aside0.mk hb'
   clear hb'
   go_wp2_with fail
   go_roundg (n - (kk + 1))
   case measure => omega
   case rel => exact ⟨kk + 1, by omega, by omega, by go_num, ⟨BW.out.trans (HBB.out.mono BW.out.size)⟩⟩
  ·
   go_wp2
   go_ret
   exact ⟨rfl, BW.out⟩

set_option maxHeartbeats 2000000 in
/-- slices.DeleteFunc of what is not valid, where all is valid. -/
theorem delete_none (A : Option Addr) (c : Nat) (l : List S33) (w : World) (hC : Kd.C k33 w A l.length l) (hl : l.length ≤ 1000000000) (ho : ∀ x ∈ l, extent_proper.f x.f0 x.f1 x.f2 = some true) :
  Calls Try.prog 39 #[.slice A l.length c, .func (.func 41) #[] #[]] w fun e w' => e = .returned (.slice A l.length c) ∧ Below w.heap.size w w' := by
 have hu33 := Try.underlying33
 have hu22 := Try.underlying22
 have HI := Aside0.mk (index_none A c l w hC hl ho)
 clear hC ho
 go_enter Try.func39, Try.ntmps39
 go_wp2_with fail
 refine HI.out.mono ?_
 rintro e w1 ⟨rfl, hb⟩
 have HB := Aside0.mk hb
 clear hb
 go_wp2_with fail
 go_ret
 exact ⟨rfl, HB.out⟩

theorem within_some (a n m : Int) : ∃ p, extent_within.f a n m = some p := by
 unfold extent_within.f
 (repeat' split) <;> exact ⟨_, rfl⟩
theorem proper_some (a b c : Int) : ∃ p, extent_proper.f a b c = some p := by
 obtain ⟨p, hp⟩ := within_some a b 65536
 obtain ⟨q, hq⟩ := within_some c b 65536
 unfold extent_proper.f
 rw [hp, hq]
 simp only [Option.bind_some]
 (repeat' split) <;> exact ⟨_, rfl⟩
/-- An extent that is valid. -/
def propB (x : S33) : Bool := (extent_proper.f x.f0 x.f1 x.f2).getD false
theorem propB_eq (x : S33) : extent_proper.f x.f0 x.f1 x.f2 = some (propB x) := by
 obtain ⟨p, hp⟩ := proper_some x.f0 x.f1 x.f2
 unfold propB
 rw [hp]
 rfl
set_option maxHeartbeats 1000000 in
/-- Runs' first closure. -/
theorem improper_any (a b c : Int) (p : Bool) (w : World) (h : extent_proper.f a b c = some p) :
  Calls Try.prog 41 #[.agg #[.int .i64 a, .int .i64 b, .int .i64 c]] w fun e w' => e = .returned (.bool (!p)) ∧ Below w.heap.size w w' := by
 have hu33 := Try.underlying33
 have HH := Aside0.mk h
 clear h
 go_enter Try.func41, Try.ntmps41
 go_wp2_with fail
 refine (extent_proper.calls a b c p _ HH.out).mono ?_
 rintro e w1 ⟨rfl, hb⟩
 have HB := Aside0.mk hb
 clear hb
 go_wp2_with fail
 go_ret
 exact ⟨rfl, ((Below.refl _ _).alloc (Nat.le_refl _) _).trans (HB.out.mono (by simp))⟩
set_option maxHeartbeats 2000000 in
/-- slices.IndexFunc of what is not valid. -/
theorem index_some (A : Option Addr) (c : Nat) (l : List S33) (w : World) (hC : Kd.C k33 w A l.length l) (hl : l.length ≤ 1000000000) (i : Nat) (hi : i < l.length) (ho : ∀ (j : Nat) (hj : j < l.length), j < i → propB l[j] = true) (hb : propB l[i] = false) :
  Calls Try.prog 36 #[.slice A l.length c, .func (.func 41) #[] #[]] w fun e w' => e = .returned (.int .i64 i) ∧ Below w.heap.size w w' := by
 have hu33 := Try.underlying33
 have hu22 := Try.underlying22
 have hc33 : Try.prog.cellsOf 33 = 3 := by kernel_rfl
 have HC := Aside0.mk (cells_at hC rfl)
 have HO := Aside0.mk ho
 have HI := Aside0.mk (show ∃ h : i < l.length, propB l[i] = false from ⟨hi, hb⟩)
 clear hC ho hb
 obtain ⟨n, hn⟩ : ∃ n, n = l.length := ⟨_, rfl⟩
 rw [← hn] at hl hi ⊢
 have HN := Aside0.mk hn
 clear hn
 go_enter Try.func36, Try.ntmps36
 go_wp2
 go_loopg [5, 8] n (fun gg _ s8 wr => ∃ kk : Nat, kk ≤ i ∧ n - kk ≤ gg ∧ s8 = .int .i64 kk ∧ Aside0 (Below w.heap.size w wr))
 case atStart => exact ⟨0, Nat.zero_le _, by omega, rfl, ⟨Below.refl _ w⟩⟩
 case round =>
  obtain ⟨kk, hkk, hg, rfl, BW⟩ := hrel
  have hlt : kk < n := by omega
  have hltz : (kk : Int) < (n : Int) := by omega
  have hkl : kk < l.length := by rw [← HN.out]; exact hlt
  obtain ⟨ad, rfl, hgw, c0, c1, c2⟩ := HC.out kk hkl
  have hbl : (ad.add (kk * 3)).block = ad.block := by unfold Addr.add; split <;> rfl
  have d0 : wr.cell? (ad.add (kk * 3)) = some (.int .i64 (l[kk]).f0) := (BW.out.cell (p := ad.add (kk * 3)) (by rw [hbl]; exact hgw)).trans c0
  have d1 : wr.cell? ⟨(ad.add (kk * 3)).block, (ad.add (kk * 3)).off + 1, none⟩ = some (.int .i64 (l[kk]).f1) := (BW.out.cell (p := ⟨(ad.add (kk * 3)).block, _, none⟩) (by rw [hbl]; exact hgw)).trans c1
  have d2 : wr.cell? ⟨(ad.add (kk * 3)).block, (ad.add (kk * 3)).off + 2, none⟩ = some (.int .i64 (l[kk]).f2) := (BW.out.cell (p := ⟨(ad.add (kk * 3)).block, _, none⟩) (by rw [hbl]; exact hgw)).trans c2
  clear c0 c1 c2 hbl
  by_cases hki : kk = i
  ·
   subst hki
   have hx : propB l[kk] = false := HI.out.2
   have hpe := propB_eq l[kk]
   rw [hx] at hpe
   generalize l[kk] = y at d0 d1 d2 hpe
   obtain ⟨y0, y1, y2⟩ := y
   have hcall := improper_any y0 y1 y2 false wr hpe
   clear hx hpe
   go_wp2_with fail
   refine hcall.mono ?_
   clear hcall d0 d1 d2
   rintro e w' ⟨rfl, hb'⟩
   have HBB := Aside0.mk hb'
   clear hb'
   go_wp2_with fail
   go_ret
   exact ⟨rfl, BW.out.trans (HBB.out.mono BW.out.size)⟩
  ·
   have hx := HO.out kk hkl (by omega)
   have hpe := propB_eq l[kk]
   rw [hx] at hpe
   generalize l[kk] = y at d0 d1 d2 hpe
   obtain ⟨y0, y1, y2⟩ := y
   have hcall := improper_any y0 y1 y2 true wr hpe
   clear hx hpe
   go_wp2_with fail
   refine hcall.mono ?_
   clear hcall d0 d1 d2
   rintro e w' ⟨rfl, hb'⟩
   have HBB := Aside0.mk hb'
   clear hb'
   go_wp2_with fail
   go_roundg (n - (kk + 1))
   case measure => omega
   case rel => exact ⟨kk + 1, by omega, by omega, by go_num, ⟨BW.out.trans (HBB.out.mono BW.out.size)⟩⟩
theorem first_bad : ∀ l : List S33, (∀ x ∈ l, propB x = true) ∨ ∃ pre x post, l = pre ++ x :: post ∧ (∀ y ∈ pre, propB y = true) ∧ propB x = false
 | [] => .inl (by simp)
 | x :: l => by
  by_cases hx : propB x = true
  ·
   rcases first_bad l with h | ⟨pre, y, post, rfl, h1, h2⟩
   ·
    refine .inl fun y hy => ?_
    rcases List.mem_cons.1 hy with rfl | hy
    ·
     exact hx
    ·
     exact h y hy
   ·
    refine .inr ⟨x :: pre, y, post, rfl, fun z hz => ?_, h2⟩
    rcases List.mem_cons.1 hz with rfl | hz
    ·
     exact hx
    ·
     exact h1 z hz
  ·
   exact .inr ⟨[], x, l, rfl, by simp, Bool.eq_false_iff.2 hx⟩
/-- clear on a part of a row of extents. -/
theorem run_clear3 (w : World) (b o n c : Nat) (hn : 0 < n) (ty : TypeId) (cur : Array Value) (t : TypeId) (hg : w.heap[b]? = some (.cells cur t (0, 0))) (hle : o + n * 3 ≤ cur.size) :
  ∃ L : List Value, L.length = n * 3 ∧ (Builtin.clear_ #[22] ty #[.slice (some ⟨b, o, none⟩) n c]).run Try.prog w = .ok (.tuple #[]) (w.setCells b o L) := by
 have hv : ∀ w, (zeroValue 33).run Try.prog w = .ok (Value.agg #[.int .i64 0, .int .i64 0, .int .i64 0]) w := fun w => by kernel_rfl
 obtain ⟨L, hL⟩ : ∃ L, L = (Builtin.zeroCells (Value.agg #[.int .i64 0, .int .i64 0, .int .i64 0]).cells n).toList := ⟨_, rfl⟩
 have hl : L.length = n * 3 := by rw [hL]; simp [Builtin.zeroCells, Value.cells]
 have h1 : ∀ v ∈ L, v.oneCell' = true := fun v hv' => by
  rw [hL] at hv'
  simp [Builtin.zeroCells, Value.cells] at hv'
  obtain ⟨i, _, rfl⟩ := hv'
  have h3 : i % 3 = 0 ∨ i % 3 = 1 ∨ i % 3 = 2 := by omega
  rcases h3 with h | h | h <;> simp [h, Value.oneCell']
 have hst := run_storeCells_cells (P := Try.prog) b o L 0 w (fun j hj => by rw [cell_of_row w b _ cur t (0, 0) hg]; simp; omega) (fun j _ => blk_frozen hg _) h1
 simp only [Nat.add_zero] at hst
 refine ⟨L, hl, ?_⟩
 obtain ⟨m, rfl⟩ : ∃ m, n = m + 1 := ⟨n - 1, by omega⟩
 simp [Builtin.clear_, run_underlying Try.underlying22, hv, ← hL, hst]
theorem take_set_succ {α : Type} (row : List α) (m : Nat) (y : α) (h : m < row.length) : (row.set m y).take (m + 1) = row.take m ++ [y] := by
 rw [List.set_eq_take_append_cons_drop, if_pos h, List.take_append, List.length_take, Nat.min_eq_left (by omega), List.take_of_length_le (by rw [List.length_take]; omega), show m + 1 - m = 1 by omega]
 rfl
set_option maxHeartbeats 4000000 in
set_option maxRecDepth 100000 in
/-- slices.DeleteFunc of what is not valid, where something is: the row's own cells are written. -/
theorem delete_some (g c : Nat) (l : List S33) (w : World) (base : Nat) (ok : Nat → Prop) (h : Kd.R k33 33 w base ok (.slice (some ⟨g, 0, none⟩) l.length c) l) (hl : l.length ≤ 1000000000) (pre post : List S33) (x : S33) (hlx : l = pre ++ x :: post) (hpre : ∀ y ∈ pre, propB y = true) (hx : propB x = false) :
  Calls Try.prog 39 #[.slice (some ⟨g, 0, none⟩) l.length c, .func (.func 41) #[] #[]] w fun e w' => ∃ v', e = .returned v' ∧ Kd.R k33 33 w' base ok v' (l.filter propB) ∧ w.grownBy w' (some g) := by
 have hu33 := Try.underlying33
 have hu22 := Try.underlying22
 have hc33 : Try.prog.cellsOf 33 = 3 := by kernel_rfl
 have hlen : l.length = pre.length + 1 + post.length := by rw [hlx]; simp; omega
 have HI := Aside0.mk (index_some (some ⟨g, 0, none⟩) c l w (Kd.R_reads' h).2.2 hl pre.length (by omega) (fun j hj hji => by subst hlx; rw [List.getElem_append_left hji]; exact hpre _ (List.getElem_mem hji)) (by subst hlx; simp [hx]))
 have hst : ∃ kept todo row : List S33, row = l ∧ kept = pre ∧ todo = post ∧ row.take kept.length = kept ∧ row.drop (pre.length + 1) = todo ∧ kept ++ todo.filter propB = l.filter propB := by
  refine ⟨pre, post, l, rfl, rfl, rfl, by rw [hlx]; simp, by rw [hlx]; simp, ?_⟩
  rw [hlx, List.filter_append, List.filter_cons, hx, List.filter_eq_self.2 hpre]
  simp
 obtain ⟨kept0, todo0, row0, e1, e2, e3, hs1, hs2, hs3⟩ := hst
 have HO := Aside0.mk h
 obtain ⟨fl, hfl⟩ : ∃ fl, fl = l.filter propB := ⟨_, rfl⟩
 rw [← hfl] at hs3 ⊢
 obtain ⟨n, hn⟩ : ∃ n, n = l.length := ⟨_, rfl⟩
 rw [← hn] at hl ⊢
 obtain ⟨i0, hi0⟩ : ∃ i0, i0 = pre.length := ⟨_, rfl⟩
 have hin : i0 + 1 ≤ n := by omega
 have HS := Aside0.mk (show ∃ kept todo row : List S33, kept.length = i0 ∧ row = l ∧ row.take kept.length = kept ∧ row.drop (i0 + 1) = todo ∧ kept ++ todo.filter propB = fl from ⟨kept0, todo0, row0, by rw [e2, hi0], e1, hs1, by rw [hi0]; exact hs2, hs3⟩)
 rw [← hn, ← hi0] at HI
 have HN := Aside0.mk hn
 clear h hlx hpre hx hlen e1 e2 e3 hs1 hs2 hs3 hfl hn hi0
 have hz1 : ((i0 : Int) == -1) = false := by simp
 have hz2 : ¬ ((i0 : Int) = -1) := by omega
 go_enter Try.func39, Try.ntmps39
 go_wp2_with fail
 refine HI.out.mono ?_
 rintro e w1 ⟨rfl, hb⟩
 have HB := Aside0.mk hb
 clear hb
 go_wp2_with fail
 go_loopg [5, 6] n (fun gg s5 s6 wr => ∃ (kept todo row : List S33) (j : Nat), j ≤ n ∧ n - j ≤ gg ∧ s5 = .int .i64 (kept.length : Int) ∧ s6 = .int .i64 (j : Int) ∧ Aside0 (row.length = n ∧ row.take kept.length = kept ∧ row.drop j = todo ∧ kept.length < j ∧ kept ++ todo.filter propB = fl) ∧ Aside0 (Kd.R k33 33 wr base ok (.slice (some ⟨g, 0, none⟩) n c) row) ∧ Aside0 (w.grownBy wr (some g)))
 case atStart =>
  obtain ⟨kept, todo, row, q1, q2, q3, q4, q5⟩ := HS.out
  refine ⟨kept, todo, row, i0 + 1, hin, by omega, by rw [q1], by go_num, ⟨by rw [q2, HN.out], q3, q4, by omega, q5⟩, ⟨?_⟩, ⟨grown_of_below HB.out _⟩⟩
  rw [q2, HN.out]
  exact Kd.R_below HO.out HB.out
 case round =>
  clear HS HO HI
  obtain ⟨kept, todo, row, j, hj, hg, rfl, rfl, HD, HR, HG⟩ := hrel
  by_cases hlt : j < n
  ·
   have hltz : (j : Int) < (n : Int) := by omega
   have hrl : j < row.length := by rw [HD.out.1]; exact hlt
   obtain ⟨ad, e, d0, d1, d2⟩ := at_T33 (Kd.R_reads' HR.out).2.2 (j : Int) (by omega) (by omega)
   have hr : rd_T33 row (j : Int) = row[j] := by unfold rd_T33; rw [List.getD_eq_getElem?_getD, show (j : Int).toNat = j from by omega, List.getElem?_eq_getElem hrl]; rfl
   rw [hr, show (j : Int).toNat = j from by omega] at d0 d1 d2
   cases e
   obtain ⟨y, hy⟩ : ∃ y, y = row[j] := ⟨_, rfl⟩
   rw [← hy] at d0 d1 d2
   have HY := Aside0.mk (show ∃ h : j < row.length, y = row[j] from ⟨hrl, hy⟩)
   clear hr hy hrl
   obtain ⟨y0, y1, y2⟩ := y
   simp only [add_plain] at d0 d1 d2
   obtain ⟨p, hp⟩ : ∃ p, p = propB (⟨y0, y1, y2⟩ : S33) := ⟨_, rfl⟩
   have hpe := propB_eq (⟨y0, y1, y2⟩ : S33)
   rw [← hp] at hpe
   have HP := Aside0.mk hp
   have HC := Aside0.mk (fun W => improper_any y0 y1 y2 p W hpe)
   clear hpe hp
   go_wp2_with fail
   refine (HC.out _).mono ?_
   rintro e w' ⟨rfl, hb'⟩
   have HR2 := Aside0.mk (Kd.R_below (Kd.R_alloc HR.out _) hb')
   have HG2 := Aside0.mk ((HG.out.trans (World.grownBy_alloc wr _ _)).trans (grown_of_below hb' _))
   have HK := Aside0.mk (blk_below (blk_new wr _) hb')
   obtain ⟨G, hG⟩ : ∃ G, G = wr.heap.size := ⟨_, rfl⟩
   rw [← hG] at HK ⊢
   clear hb' HC hG HR HG d0 d1 d2
   have f0 : w'.cell? ⟨G, 0, none⟩ = some (.int .i64 y0) := (blk_cell HK.out 0).trans rfl
   have f1 : w'.cell? ⟨G, 1, none⟩ = some (.int .i64 y1) := (blk_cell HK.out 1).trans rfl
   have f2 : w'.cell? ⟨G, 2, none⟩ = some (.int .i64 y2) := (blk_cell HK.out 2).trans rfl
   obtain ⟨q1, q2, q3, q4, q5⟩ := HD.out
   have hkn : (kept.length : Int) < (n : Int) := by omega
   have hdr : row.drop j = ⟨y0, y1, y2⟩ :: row.drop (j + 1) := by
    obtain ⟨h1, h2⟩ := HY.out
    rw [List.drop_eq_getElem_cons h1, h2]
   cases p with
   | true =>
    obtain ⟨ad, e, e0, e1, e2⟩ := at_T33 (Kd.R_reads' HR2.out).2.2 (kept.length : Int) (by omega) (by omega)
    cases e
    simp only [add_plain] at e0 e1 e2
    have HE := Aside0.mk (show ∃ c0 c1 c2 : Value, w'.cell? ⟨g, kept.length * 3, none⟩ = some c0 ∧ w'.cell? ⟨g, kept.length * 3 + 1, none⟩ = some c1 ∧ w'.cell? ⟨g, kept.length * 3 + 2, none⟩ = some c2 from ⟨_, _, _, by simpa using e0, by simpa using e1, by simpa using e2⟩)
    have HQ := Aside0.mk (show (row.set kept.length (⟨y0, y1, y2⟩ : S33)).length = n ∧ (row.set kept.length (⟨y0, y1, y2⟩ : S33)).take (kept.length + 1) = kept ++ [⟨y0, y1, y2⟩] ∧ (row.set kept.length (⟨y0, y1, y2⟩ : S33)).drop (j + 1) = row.drop (j + 1) ∧ kept.length + 1 < j + 1 ∧ (kept ++ [⟨y0, y1, y2⟩]) ++ (row.drop (j + 1)).filter propB = fl from
     ⟨by rw [List.length_set]; exact q1, by rw [take_set_succ _ _ _ (by omega), q2], List.drop_set_of_lt (by omega), by omega, by rw [← q5, ← q3, hdr, List.filter_cons, if_pos HP.out.symm, List.append_assoc]; rfl⟩)
    clear e0 e1 e2 q2 q3 q5 hdr
    go_wp2_with (first | ((with_reducible refine gate_store (t := 33) (p := 33) rfl ?_); obtain ⟨z0, z1, z2, e0, e1, e2⟩ := HE.out; refine @Kd.R_store Try.prog _ _ _ _ _ S33 k33 w' w' base ?hN ?hgd 33 (.tmp 33) (.tmp 32) ?hoo 33 g n c (kept.length * 3) (kept.length : Int) 0 row (⟨y0, y1, y2⟩ : S33) (.agg #[.int .i64 y0, .int .i64 y1, .int .i64 y2]) [.int .i64 y0, .int .i64 y1, .int .i64 y2] [z0, z1, z2] ok (fun _ => False) ?ha ?hoff ?hx ?hu ?ht ?h1 HR2.out ?h0 ?hi ?hcl ?hcc ?hj ?hM ?hokp (Below.refl _ _) ?_; (case hN => rfl); (case hgd => rfl); (case hoo => rfl); (case ha => first | (go_simp; done) | (go_simp; rfl)); (case hoff => show kept.length * 3 = (kept.length : Int).toNat * 3 + 0; simp); (case hx => first | (go_simp; done) | (go_simp; rfl)); (case hu => rfl); (case ht => kernel_rfl); (case h1 => intro q hq; simp at hq; rcases hq with rfl | rfl | rfl <;> rfl); (case h0 => omega); (case hi => exact hkn); (case hcl => rfl); (case hcc => intro j u hj; show w'.cell? ⟨g, (kept.length : Int).toNat * 3 + j, none⟩ = some u; rw [show (kept.length : Int).toNat = kept.length by omega]; match j, hj with | 0, hj => (injection hj with hj; subst hj; exact e0) | 1, hj => (injection hj with hj; subst hj; exact e1) | 2, hj => (injection hj with hj; subst hj; exact e2)); (case hj => exact Nat.le_refl 3); (case hM => exact k33_mkM _ _ _ (⟨y0, y1, y2⟩ : S33)); (case hokp => exact fun _ h => h.elim); intro w2 ho _ hg2; have HR3 := Aside0.mk ho; have HG3 := Aside0.mk (HG2.out.trans hg2); clear ho hg2))
    go_roundg (n - (j + 1))
    case measure => omega
    case rel =>
     refine ⟨kept ++ [⟨y0, y1, y2⟩], row.drop (j + 1), row.set kept.length ⟨y0, y1, y2⟩, j + 1, by omega, by omega, by simp, by go_num, ⟨by obtain ⟨r1, r2, r3, r4, r5⟩ := HQ.out; rw [List.length_append]; exact ⟨r1, r2, r3, r4, r5⟩⟩, ⟨?_⟩, HG3⟩
     have := HR3.out
     rwa [show (kept.length : Int).toNat = kept.length by omega] at this
   | false =>
    go_wp2_with fail
    go_roundg (n - (j + 1))
    case measure => omega
    case rel => exact ⟨kept, row.drop (j + 1), row, j + 1, by omega, by omega, rfl, by go_num, ⟨q1, q2, rfl, by omega, by rw [← q5, ← q3, hdr, List.filter_cons, if_neg (by rw [← HP.out]; decide)]⟩, HR2, HG2⟩
  ·
   obtain ⟨q1, q2, q3, q4, q5⟩ := HD.out
   have hjn : j = n := by omega
   have hfl : kept = fl := by rw [← q5, ← q3, hjn, ← q1, List.drop_length]; simp
   have hnc := (Kd.R_reads' HR.out).2.1
   obtain ⟨h0, inner, hown, hr⟩ := HR.out
   have hinner := reps_enc hr
   subst hinner
   have hown2 := hown.2
   have hsz : k33.sz = 3 := rfl
   have hd := hown2.resolve_left (fun hh => by cases hh.1)
   obtain ⟨g', cap, cur, e, hbg, hgc, hncap, hcm, hcs, hct⟩ := hd
   injection e with ea eb ec
   injection ea with ea
   injection ea with ea
   subst ea ec
   clear eb
   have hct' : cur.toList.take (row.length * 3) = row.flatMap encE := hct
   have hcs' : cur.size = c * 3 := hcs
   have hkn : kept.length < n := by omega
   obtain ⟨L, hL, hrun⟩ := run_clear3 wr g (kept.length * 3) (n - kept.length) (c - kept.length) (by omega) 0 cur 33 hgc (by omega)
   obtain ⟨cur', hg2, hs2, hl2⟩ := setCells_row (g := g) (e := 33) L (kept.length * 3) wr cur hgc (by omega)
   have HF := Aside0.mk (show k33.R 33 (wr.setCells g (kept.length * 3) L) base ok (.slice (some ⟨g, 0, none⟩) kept.length c) fl ∧ w.grownBy (wr.setCells g (kept.length * 3) L) (some g) from by
    have hpre : cur'.toList.take (kept.length * 3) = fl.flatMap encE := by
     have htl : (cur.toList.take (kept.length * 3)).length = kept.length * 3 := by simp; omega
     rw [hl2, List.append_assoc, List.take_left' htl]
     have h5 : cur.toList.take (kept.length * 3) = (cur.toList.take (row.length * 3)).take (kept.length * 3) := by rw [List.take_take, Nat.min_eq_left (by omega)]
     rw [h5, hct', encE_take, q2, hfl]
    refine ⟨⟨h0, fl.flatMap encE, ⟨by rw [encE_len, hsz], .inr ⟨g, c, cur', by rw [hfl], hbg, hg2, by rw [← hfl]; omega, hcm, by rw [hs2]; exact hcs, by rw [← hfl] at hpre ⊢; exact hpre⟩⟩, enc_reps _⟩, ?_⟩
    obtain ⟨s1, s2, s3, s4⟩ := setCells_same g L (kept.length * 3) wr
    exact HG.out.trans ⟨s1, s2, s3, by rw [s4]; exact Nat.le_refl _, fun k _ hk => setCells_far L (kept.length * 3) k (fun e => hk (by rw [e]))⟩)
   have hkc : (kept.length : Int) ≤ (c : Int) := by omega
   have hkn2 : (kept.length : Int) ≤ (n : Int) := by omega
   have hcc : ¬ (c = kept.length) := by omega
   clear q1 q2 q3 q4 q5 hown hown2 hr h0 hgc hct hct' hcs hg2 hs2 hl2 hL HG HR HD hfl hjn
   go_wp2_with fail
   go_ret
   exact ⟨_, rfl, HF.out.1, HF.out.2⟩
instance : Inhabited S33 := ⟨z33⟩
theorem flat_get : ∀ (l : List S33) (t : Nat), t < l.length * 3 → (l.flatMap encE)[t]? = some ((encE (l[t / 3]!))[t % 3]!)
 | [], t, h => by simp at h
 | x :: l, t, h => by
  rw [List.flatMap_cons]
  by_cases h3 : t < 3
  ·
   rw [List.getElem?_append_left (by simpa [encE] using h3), show t / 3 = 0 by omega]
   match t, h3 with
   | 0, _ => rfl
   | 1, _ => rfl
   | 2, _ => rfl
  ·
   rw [List.getElem?_append_right (by simp [encE]; omega), show (encE x).length = 3 from rfl, flat_get l (t - 3) (by simp at h; omega), show t / 3 = (t - 3) / 3 + 1 by omega, show t % 3 = (t - 3) % 3 by omega]
   simp
theorem flatK_enc (d : Array S33) : Go.Sort.flatK encE 3 d = (d.toList.flatMap encE).toArray := by
 apply Array.ext
 ·
  rw [Go.Sort.size_flatK]; show _ = (d.toList.flatMap encE).length; rw [encE_len, Array.length_toList]
 ·
  intro t h1 h2
  have ht : t < d.size * 3 := by simpa using h1
  have e1 := Go.Sort.get_flatK encE 3 d t ht
  rw [getElem!_pos _ t h1] at e1
  rw [e1]
  have e2 := flat_get d.toList t (by simpa using ht)
  have e3 : (d.toList.flatMap encE).toArray[t]? = some ((encE (d.toList[t / 3]!))[t % 3]!) := by simpa using e2
  rw [Array.getElem?_eq_getElem h2] at e3
  have e4 := Option.some.inj e3
  rw [e4]
  congr 2
  have hd : t / 3 < d.size := by omega
  rw [getElem!_pos d _ hd, getElem!_pos d.toList _ (by simpa using hd)]
  simp
/-- What a row of extents holds, in the sort's words. -/
theorem holds_row {w : World} {g : Nat} {cur : Array Value} {t : TypeId} {l : List S33} (hg : w.heap[g]? = some (.cells cur t (0, 0))) (hc : cur.toList.take (l.length * 3) = l.flatMap encE) : Go.Sort.HoldsK encE 3 w g 0 l.toArray := by
 intro j hj
 have hj' : j < l.length * 3 := by simpa using hj
 rw [flatK_enc]
 simp only [Nat.zero_add, id]
 have h1 : (l.flatMap encE)[j]? = cur[j]? := by rw [← hc, List.getElem?_take, if_pos hj']; simp
 have h2 := flat_get l j hj'
 refine ⟨?_, by simp [World.frozen?, hg]⟩
 have h3 : w.cell? ⟨g, j, none⟩ = cur[j]? := by simp [World.cell?, hg]
 rw [h3, ← h1]
 have h4 : j < (l.flatMap encE).length := by rw [encE_len]; exact hj'
 have h5 : (l.flatMap encE).toArray[j]! = (l.flatMap encE)[j] := by rw [getElem!_pos _ j (by rw [List.size_toArray]; exact h4)]; simp
 rw [List.getElem?_eq_getElem h4, h5]
/-- .. and back: the row that the sort leaves. -/
theorem row_sorted {w : World} {g n m : Nat} {cur : Array Value} {t : TypeId} {d : Array S33} {os : Array Obj} (hg : w.heap[g]? = some (.cells cur t (0, 0))) (hd : d.size = n) (hn : n * 3 ≤ cur.size) :
  ∃ cur' : Array Value, (sortWorldK encE 3 w g 0 m d os).heap[g]? = some (.cells cur' t (0, 0)) ∧ cur'.size = cur.size ∧ cur'.toList.take (n * 3) = d.toList.flatMap encE := by
 have hlt : g < w.heap.size := (Array.getElem?_eq_some_iff.1 hg).1
 have hfs : (Go.Sort.flatK encE 3 d).size = n * 3 := by simp [hd]
 refine ⟨Go.Sort.putCells id 0 (Go.Sort.flatK encE 3 d) cur, ?_, by simp [Go.Sort.putCells], ?_⟩
 ·
  show ((w.heap.modify g (Go.Sort.onCells _)) ++ os)[g]? = _
  rw [Array.getElem?_append_left (by simpa using hlt), Array.getElem?_modify, if_pos rfl, hg]
  rfl
 ·
  apply List.ext_getElem?
  intro j
  by_cases hj : j < n * 3
  ·
   rw [List.getElem?_take, if_pos hj]
   have h1 : (d.toList.flatMap encE).toArray[j]? = (d.toList.flatMap encE)[j]? := by simp
   rw [← h1, ← flatK_enc]
   rw [Array.getElem?_toList]
   simp only [Go.Sort.putCells, Array.getElem?_mapIdx]
   rw [Array.getElem?_eq_getElem (show j < cur.size by omega), Array.getElem?_eq_getElem (by omega)]
   simp only [Option.map_some, Nat.zero_le, Nat.zero_add, true_and, id, Nat.sub_zero]
   rw [if_pos (by omega), getElem!_pos _ j (by omega)]
  ·
   rw [List.getElem?_take, if_neg hj, List.getElem?_eq_none]
   rw [encE_len]; simp; omega
theorem sorted_grown {w : World} {g m : Nat} {d : Array S33} {os : Array Obj} : w.grownBy (sortWorldK encE 3 w g 0 m d os) (some g) := by
 refine ⟨rfl, rfl, rfl, ?_, ?_⟩
 ·
  show w.heap.size ≤ ((w.heap.modify g (Go.Sort.onCells _)) ++ os).size
  simp
 ·
  intro k hk hne
  show ((w.heap.modify g (Go.Sort.onCells _)) ++ os)[k]? = _
  rw [Array.getElem?_append_left (by simpa using hk), Array.getElem?_modify, if_neg (fun e => hne (by rw [e]))]
open Go.Sort in
def cmpE (x y : Int) : Int := if x < y then -1 else if y < x then 1 else 0
set_option maxHeartbeats 1000000 in
theorem cmp_calls (x y : Int) (w : World) : Calls Try.prog 44 #[.int .i64 x, .int .i64 y] w fun e w' => e = .returned (.int .i64 (cmpE x y)) ∧ w' = w := by
 have hx : (x != x) = false := by simp
 have hy : (y != y) = false := by simp
 rcases Int.lt_trichotomy x y with h | h | h
 ·
  have e : cmpE x y = -1 := by unfold cmpE; rw [if_pos h]
  rw [e]
  go_enter Try.func44, Try.ntmps44
  go_wp2
  go_ret
  exact ⟨rfl, rfl⟩
 ·
  subst h
  have e : cmpE x x = 0 := by unfold cmpE; rw [if_neg (Int.lt_irrefl _), if_neg (Int.lt_irrefl _)]
  rw [e]
  go_enter Try.func44, Try.ntmps44
  go_wp2
  go_ret
  exact ⟨rfl, rfl⟩
 ·
  have e : cmpE x y = 1 := by unfold cmpE; rw [if_neg (by omega), if_pos h]
  have h1 : ¬ x < y := by omega
  rw [e]
  go_enter Try.func44, Try.ntmps44
  go_wp2
  go_ret
  exact ⟨rfl, rfl⟩
set_option maxHeartbeats 1000000 in
/-- Runs' second closure. -/
theorem order_calls (x y : S33) (W : World) : Calls Try.prog 43 #[.agg #[.int .i64 x.f0, .int .i64 x.f1, .int .i64 x.f2], .agg #[.int .i64 y.f0, .int .i64 y.f1, .int .i64 y.f2]] W fun e w' => e = .returned (.int .i64 (cmpE x.f2 y.f2)) ∧ ∃ q os', w' = Go.Sort.grow (W.drewN q) os' := by
 have hcon := fun W' => cmp_calls x.f2 y.f2 W'
 obtain ⟨x0, x1, x2⟩ := x
 obtain ⟨y0, y1, y2⟩ := y
 simp only at hcon ⊢
 generalize cmpE x2 y2 = r at hcon ⊢
 have HH := Aside0.mk hcon
 clear hcon
 have hu33 := Try.underlying33
 go_enter Try.func43, Try.ntmps43
 go_wp2_with (go_at_call 44; refine (HH.out _).mono ?_; rintro e w' ⟨rfl, rfl⟩)
 go_ret
 exact ⟨rfl, 0, _, by rw [Go.Sort.alloc_eq_grow, Go.Sort.alloc_eq_grow, Go.Sort.grow_grow]; rfl⟩
theorem ltE (x y : S33) : ltOf (fun x y : S33 => cmpE x.f2 y.f2) x y = decide (x.f2 < y.f2) := by
 unfold ltOf cmpE
 by_cases h : x.f2 < y.f2
 ·
  simp [h]
 ·
  by_cases h2 : y.f2 < x.f2 <;> simp [h, h2]
theorem swoE : Go.Sort.SWO (ltOf fun x y : S33 => cmpE x.f2 y.f2) where
 irrefl x := by rw [ltE]; simp
 trans x y z h1 h2 := by rw [ltE] at *; simp at *; omega
 ntrans x y z h1 h2 := by rw [ltE] at *; simp at *; omega
theorem aggE (w : World) : (isAgg 33).run Try.prog w = .ok true w := by kernel_rfl
theorem sizeE (w : World) : (Go.sizeOf 33).run Try.prog w = .ok 3 w := by kernel_rfl
/-- What slices.SortFunc makes of a list. -/
def sortL (l : List S33) : List S33 := (Go.Sort.pdq (ltOf fun x y : S33 => cmpE x.f2 y.f2) l.toArray 0 l.toArray.size (Lib.bitLen l.toArray.size) true true).toList
theorem sortL_facts (l : List S33) : (sortL l).Perm l ∧ (sortL l).Pairwise (fun a b => a.f2 ≤ b.f2) := by
 obtain ⟨⟨hp1, _, hp3⟩, hs⟩ := Go.Sort.pdq_sorts (ltOf fun x y : S33 => cmpE x.f2 y.f2) swoE l.toArray 0 l.toArray.size (Lib.bitLen l.toArray.size) true true (Nat.zero_le _) (Nat.le_refl _) (Or.inl rfl)
 unfold sortL
 generalize Go.Sort.pdq (ltOf fun x y : S33 => cmpE x.f2 y.f2) l.toArray 0 l.toArray.size (Lib.bitLen l.toArray.size) true true = d' at *
 refine ⟨?_, ?_⟩
 ·
  have e1 : d'.extract 0 l.toArray.size = d' := by rw [← hp1]; exact Array.extract_size
  have e2 : l.toArray.extract 0 l.toArray.size = l.toArray := Array.extract_size
  rw [e1, e2] at hp3
  simpa using hp3
 ·
  rw [List.pairwise_iff_getElem]
  intro i j hi hj hij
  have := hs i j (Nat.zero_le _) hij (by rw [← hp1]; simpa using hj)
  rw [ltE] at this
  simp only [decide_eq_false_iff_not] at this
  have hi' : i < d'.size := by simpa using hi
  have hj' : j < d'.size := by simpa using hj
  rw [getElem!_pos d' i hi', getElem!_pos d' j hj'] at this
  simp only [Array.getElem_toList]
  omega
theorem sortL_length (l : List S33) : (sortL l).length = l.length := (sortL_facts l).1.length_eq
/-- slices.SortFunc by the slots, on a row of the call's own. -/
theorem sort_calls (v : Value) (l : List S33) (w : World) (base : Nat) (ok : Nat → Prop) (h : Kd.R k33 33 w base ok v l) (hl : l.length ≤ 1000000000) :
  Calls Try.prog 42 #[v, .func (.func 43) #[] #[]] w fun e w' => e = .returned (.tuple #[]) ∧ Kd.R k33 33 w' base ok v (sortL l) ∧ w.grownBy w' v.ownBlock := by
 have hd0 := sortL_length l
 obtain ⟨h0, inner, hown, hr⟩ := h
 have hinner := reps_enc hr
 subst hinner
 rcases hown.2 with ⟨rfl, hn0⟩ | ⟨g, cap, cur, rfl, hbg, hg, hnc, hcm, hcs, hct⟩
 ·
  have hn : l = [] := List.eq_nil_of_length_eq_zero hn0
  subst hn
  have hS := AnyF.slices_SortFunc_none (P := Try.prog) (ρ := Try.sortE_ren) Try.sortE none 0 (.func (.func 43) #[] #[]) w
  change Calls Try.prog 42 _ _ _ at hS
  have hn : sortL [] = [] := List.eq_nil_of_length_eq_zero hd0
  rw [hn]
  refine hS.mono ?_
  rintro e w' ⟨rfl, rfl⟩
  exact ⟨rfl, Kd.R_nil _ _ _ _ _, ⟨rfl, rfl, rfl, Nat.le_refl _, fun _ _ _ => rfl⟩⟩
 ·
  have hgw : g < w.heap.size := (Array.getElem?_eq_some_iff.1 hg).1
  have eg : ∀ args w, (callFunc 43 args).run Try.prog w = .ok (.enter 43 args) w := enters_of Try.func43 (by kernel_rfl) rfl
  have hS := AnyQ.slices_SortFunc_eq Try.sortE 3 aggE sizeE encE (fun _ => rfl) (fun x v hv => by simp [encE] at hv; rcases hv with rfl | rfl | rfl <;> rfl) (fun x y : S33 => cmpE x.f2 y.f2) swoE 43 #[] g 0 cap l.toArray w eg (fun _ _ _ _ x y => order_calls x y _) (holds_row hg hct) hgw (by simp; omega)
  change Calls Try.prog 42 _ _ _ at hS
  have es : (Go.Sort.pdq (ltOf fun x y : S33 => cmpE x.f2 y.f2) l.toArray 0 l.toArray.size (Lib.bitLen l.toArray.size) true true) = (sortL l).toArray := by unfold sortL; simp
  rw [es] at hS
  generalize sortL l = l' at *
  rw [List.size_toArray] at hS
  refine hS.mono ?_
  rintro e w' ⟨rfl, n, os, rfl⟩
  have hd : l'.toArray.size = l.length := by simpa using hd0
  have hcs' : cur.size = cap * 3 := hcs
  obtain ⟨cur', hg', hs', ht'⟩ := row_sorted (m := n) (d := l'.toArray) (os := os) hg hd (by omega)
  have hsz : k33.sz = 3 := rfl
  refine ⟨rfl, ⟨h0, l'.flatMap encE, ⟨by rw [encE_len, hsz], .inr ⟨g, cap, cur', ?_, hbg, hg', by omega, hcm, ?_, ?_⟩⟩, enc_reps _⟩, sorted_grown⟩
  ·
   rw [hd0]
  ·
   rw [hs']; exact hcs
  ·
   rw [hd0]; exact ht'
/-- slices.DeleteFunc on a row of the call's own. -/
theorem delete_full (v : Value) (l : List S33) (w : World) (base : Nat) (ok : Nat → Prop) (h : Kd.R k33 33 w base ok v l) (hl : l.length ≤ 1000000000) :
  Calls Try.prog 39 #[v, .func (.func 41) #[] #[]] w fun e w' => ∃ v', e = .returned v' ∧ Kd.R k33 33 w' base ok v' (l.filter propB) ∧ w.grownBy w' v.ownBlock := by
 rcases first_bad l with hall | ⟨pre, x, post, e, h1, h2⟩
 ·
  obtain ⟨A, c, rfl, _, hC⟩ := Kd.R_reads h
  refine (delete_none A c l w hC hl fun x hx => by rw [propB_eq, hall x hx]).mono ?_
  rintro e w' ⟨rfl, hb⟩
  refine ⟨_, rfl, ?_, grown_of_below hb _⟩
  rw [List.filter_eq_self.2 hall]
  exact Kd.R_below h hb
 ·
  obtain ⟨g, cap, rfl, _, _, _⟩ := Kd.R_form h (by rw [e, List.length_append, List.length_cons]; omega)
  exact delete_some g cap l w base ok h hl pre post x e h1 h2
theorem below_sorted {b : Nat} {w0 w w' : World} {v : Value} {l : List S33} {ok : Nat → Prop} (hb : Below b w0 w) (h : Kd.R k33 33 w b ok v l) (hg : w.grownBy w' v.ownBlock) (hs : b ≤ w.heap.size) : Below b w0 w' := by
 obtain ⟨h0, inner, hown, hr⟩ := h
 exact hb.grown hg hs (fun k_ hk => own_base hown k_ hk)
/-- slices.Clone, slices.DeleteFunc and slices.SortFunc, as Runs calls them one behind the other. -/
def api_Extent_39.f (l : List S33) : Option (List S33) := if l.length ≤ 1000000000 then some (sortL (l.filter propB)) else none
theorem api_Extent_39.told {l r : List S33} (h : api_Extent_39.f l = some r) : l.length ≤ 1000000000 ∧ (l.filter propB).length ≤ 1000000000 ∧ r = sortL (l.filter propB) := by
 unfold api_Extent_39.f at h
 split at h
 ·
  rename_i hc
  exact ⟨hc, Nat.le_trans (List.length_filter_le _ _) hc, (Option.some.inj h).symm⟩
 ·
  cases h

-- NOT PRINTED: function 52 (api_Extent_52)

-- NOT PRINTED: function 63 (api_Extent_63)

-- NOT PRINTED: function 53 (api_Extent_53)

-- NOT PRINTED: function 60 (bits_Len32)

-- NOT PRINTED: function 61 (bits_Len64)

-- NOT PRINTED: function 49 (bits_Len)

-- NOT PRINTED: function 64 (slices_nextPowerOfTwo)

-- NOT PRINTED: function 65 (slices_xorshift_Next)

-- NOT PRINTED: function 54 (api_Extent_54)

-- NOT PRINTED: function 68 (api_Extent_68)

-- NOT PRINTED: function 67 (api_Extent_67)

-- NOT PRINTED: function 66 (api_Extent_66)

-- NOT PRINTED: function 55 (api_Extent_55)

-- NOT PRINTED: function 56 (api_Extent_56)

-- NOT PRINTED: function 57 (api_Extent_57)

-- NOT PRINTED: function 58 (api_Extent_58)

-- NOT PRINTED: function 59 (api_Extent_59)

-- NOT PRINTED: function 48 (api_Extent_48)

-- NOT PRINTED: function 42 (api_Extent_42)

end Go.Proofs.Ytcgihjpnemnkeaa.PExtentRuns
