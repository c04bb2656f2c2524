-- Written for this claim by a program of this session (wip/), out of the translation's own print: Lean checks it
import Derived.Test.YtcgihjpnemnkeaaPExtentPutx0
import Derived.Test.YtcgihjpnemnkeaaIns4
import Derived.Test.YtcgihjpnemnkeaaWRepsOne
import Derived.Test.YtcgihjpnemnkeaaWGuard
import Derived.Test.YtcgihjpnemnkeaaPExtentPutx2
import Derived.Test.YtcgihjpnemnkeaaPExtentPutx3
import Derived.Test.YtcgihjpnemnkeaaPExtentPutx6
namespace Go.Proofs.Ytcgihjpnemnkeaa.PExtentPut
open Go.RowKit Go.Proofs.YtcgihjpnemnkeaaW.PrintWords Go.Proofs.YtcgihjpnemnkeaaW.PrintLast Go.Proofs.YtcgihjpnemnkeaaW.PrintMore
attribute [local go_sem] max2_int min2_int max_two min_two max_three min_three max_four min_four   -- for this text's walks alone
set_option linter.unusedVariables false
set_option linter.unusedSimpArgs false

/-! ### tegulalaw32_awake: function 11 -/
def tegulalaw32_awake.f (k : Nat)  : Option (Bool) := (some (([(⟨0, 4, 10⟩ : S33), (⟨4, 2, 14⟩ : S33)] : List (S33)) : List (S33))).bind fun y165 => ((extent_Join.f k y165).bind fun bt168 => ((extent_Cut.f k y165 2 2).bind fun bt172 => (if bt168.2 = 0 then (if bt172.2.2 = 0 then ((tegularef32_Same.f k bt168.1 (([(⟨0, 6, 10⟩ : S33)] : List (S33)))).bind fun t182 => (if t182 = true then ((tegularef32_Same.f k bt172.1 (([(⟨0, 2, 10⟩ : S33), (⟨4, 2, 14⟩ : S33)] : List (S33)))).bind fun t186 => (if t186 = true then ((tegularef32_Same.f k bt172.2.1 (([(⟨2, 2, 12⟩ : S33)] : List (S33)))).bind fun t190 => (if t190 = true then ((extent_Valid.f k y165).bind fun t191 => (some t191)) else (some false))) else (some false))) else (some false))) else (some false)) else (some false))))
theorem tegulalaw32_awake.mono : ∀ k, LeO (tegulalaw32_awake.f k ) (tegulalaw32_awake.f (k + 1) ) := by
 intro  k
 unfold tegulalaw32_awake.f
 repeat' first
   | (with_reducible exact extent_Cut.mono _ _ _ _)
   | (with_reducible exact extent_Join.mono _ _)
   | (with_reducible exact extent_Valid.mono _ _)
   | (with_reducible exact tegularef32_Same.mono _ _ _)
   | (with_reducible exact LeO.refl _)
   | (with_reducible exact LeO.none _)
   | (with_reducible refine LeO.ite ?_ ?_)
   | (with_reducible refine LeO.bind ?_ (fun _ => ?_))
   | exact extent_Cut.mono _ _ _ _
   | exact extent_Join.mono _ _
   | exact extent_Valid.mono _ _
   | exact tegularef32_Same.mono _ _ _
   | exact LeO.none _
   | refine LeO.ite ?_ ?_
   | refine LeO.bind ?_ (fun _ => ?_)
set_option maxHeartbeats 8000000 in
set_option maxRecDepth 100000 in
theorem tegulalaw32_awake.calls (k : Nat)  (r : Bool) (w : World) (h : tegulalaw32_awake.f k  = some r) :
  Calls Try.prog 11 #[] w fun e w' => e = .returned (.bool r) ∧ Below w.heap.size w w' := by
 have hu33 := Try.underlying33
 have HB := Aside0.mk (Below.refl w.heap.size w)
 have H : ((some (([(⟨0, 4, 10⟩ : S33), (⟨4, 2, 14⟩ : S33)] : List (S33)) : List (S33))).bind fun y165 => ((extent_Join.f k y165).bind fun bt168 => ((extent_Cut.f k y165 2 2).bind fun bt172 => (if bt168.2 = 0 then (if bt172.2.2 = 0 then ((tegularef32_Same.f k bt168.1 (([(⟨0, 6, 10⟩ : S33)] : List (S33)))).bind fun t182 => (if t182 = true then ((tegularef32_Same.f k bt172.1 (([(⟨0, 2, 10⟩ : S33), (⟨4, 2, 14⟩ : S33)] : List (S33)))).bind fun t186 => (if t186 = true then ((tegularef32_Same.f k bt172.2.1 (([(⟨2, 2, 12⟩ : S33)] : List (S33)))).bind fun t190 => (if t190 = true then ((extent_Valid.f k y165).bind fun t191 => (some t191)) else (some false))) else (some false))) else (some false))) else (some false)) else (some false))))) = some r := h
 clear h
 obtain ⟨y165, hy165⟩ : ∃ y_ : List (S33), y_ = (([(⟨0, 4, 10⟩ : S33), (⟨4, 2, 14⟩ : S33)] : List (S33))) := ⟨_, rfl⟩
 replace H : ((extent_Join.f k y165).bind fun bt168 => ((extent_Cut.f k y165 2 2).bind fun bt172 => (if bt168.2 = 0 then (if bt172.2.2 = 0 then ((tegularef32_Same.f k bt168.1 (([(⟨0, 6, 10⟩ : S33)] : List (S33)))).bind fun t182 => (if t182 = true then ((tegularef32_Same.f k bt172.1 (([(⟨0, 2, 10⟩ : S33), (⟨4, 2, 14⟩ : S33)] : List (S33)))).bind fun t186 => (if t186 = true then ((tegularef32_Same.f k bt172.2.1 (([(⟨2, 2, 12⟩ : S33)] : List (S33)))).bind fun t190 => (if t190 = true then ((extent_Valid.f k y165).bind fun t191 => (some t191)) else (some false))) else (some false))) else (some false))) else (some false)) else (some false)))) = some r := by first | (rw [hy165]; with_reducible exact H) | (have H2_ := (Option.bind_some _ _).symm.trans H; rw [hy165]; with_reducible exact H2_) | (have H2_ := (Option.bind_some _ _).symm.trans H; with_reducible exact H2_) | with_reducible exact H | (rw [hy165]; exact H) | exact H
 have Ny165 := Aside0.mk hy165
 clear hy165
 replace H := Option.bind_eq_some_iff.mp H
 obtain ⟨⟨t168, t169⟩, A10, H⟩ := H
 replace H : ((extent_Cut.f k y165 2 2).bind fun bt172 => (if t169 = 0 then (if bt172.2.2 = 0 then ((tegularef32_Same.f k t168 (([(⟨0, 6, 10⟩ : S33)] : List (S33)))).bind fun t182 => (if t182 = true then ((tegularef32_Same.f k bt172.1 (([(⟨0, 2, 10⟩ : S33), (⟨4, 2, 14⟩ : S33)] : List (S33)))).bind fun t186 => (if t186 = true then ((tegularef32_Same.f k bt172.2.1 (([(⟨2, 2, 12⟩ : S33)] : List (S33)))).bind fun t190 => (if t190 = true then ((extent_Valid.f k y165).bind fun t191 => (some t191)) else (some false))) else (some false))) else (some false))) else (some false)) else (some false))) = some r := H
 have A1 := Aside0.mk A10
 clear A10
 replace H := Option.bind_eq_some_iff.mp H
 obtain ⟨⟨t172, t173, t174⟩, A20, H⟩ := H
 replace H : (if t169 = 0 then (if t174 = 0 then ((tegularef32_Same.f k t168 (([(⟨0, 6, 10⟩ : S33)] : List (S33)))).bind fun t182 => (if t182 = true then ((tegularef32_Same.f k t172 (([(⟨0, 2, 10⟩ : S33), (⟨4, 2, 14⟩ : S33)] : List (S33)))).bind fun t186 => (if t186 = true then ((tegularef32_Same.f k t173 (([(⟨2, 2, 12⟩ : S33)] : List (S33)))).bind fun t190 => (if t190 = true then ((extent_Valid.f k y165).bind fun t191 => (some t191)) else (some false))) else (some false))) else (some false))) else (some false)) else (some false)) = some r := H
 have A2 := Aside0.mk A20
 clear A20
 by_cases c3 : t169 = 0
 ·
  rw [if_pos c3] at H
  have c3b0 : (t169 == 0) = true := beq_iff_eq.mpr c3
  have c3b1 : (t169 != 0) = false := bne_eq_false_iff_eq.mpr c3
  clear c3
  by_cases c4 : t174 = 0
  ·
   rw [if_pos c4] at H
   have c4b0 : (t174 == 0) = true := beq_iff_eq.mpr c4
   have c4b1 : (t174 != 0) = false := bne_eq_false_iff_eq.mpr c4
   clear c4
   obtain ⟨y179, hy179⟩ : ∃ y_ : List (S33), y_ = (([(⟨0, 6, 10⟩ : S33)] : List (S33))) := ⟨_, rfl⟩
   replace H : ((tegularef32_Same.f k t168 y179).bind fun t182 => (if t182 = true then ((tegularef32_Same.f k t172 (([(⟨0, 2, 10⟩ : S33), (⟨4, 2, 14⟩ : S33)] : List (S33)))).bind fun t186 => (if t186 = true then ((tegularef32_Same.f k t173 (([(⟨2, 2, 12⟩ : S33)] : List (S33)))).bind fun t190 => (if t190 = true then ((extent_Valid.f k y165).bind fun t191 => (some t191)) else (some false))) else (some false))) else (some false))) = some r := by first | (rw [hy179]; with_reducible exact H) | (have H2_ := (Option.bind_some _ _).symm.trans H; rw [hy179]; with_reducible exact H2_) | (have H2_ := (Option.bind_some _ _).symm.trans H; with_reducible exact H2_) | with_reducible exact H | (rw [hy179]; exact H) | exact H
   have Ny179 := Aside0.mk hy179
   clear hy179
   replace H := Option.bind_eq_some_iff.mp H
   obtain ⟨t182, A50, H⟩ := H
   replace H : (if t182 = true then ((tegularef32_Same.f k t172 (([(⟨0, 2, 10⟩ : S33), (⟨4, 2, 14⟩ : S33)] : List (S33)))).bind fun t186 => (if t186 = true then ((tegularef32_Same.f k t173 (([(⟨2, 2, 12⟩ : S33)] : List (S33)))).bind fun t190 => (if t190 = true then ((extent_Valid.f k y165).bind fun t191 => (some t191)) else (some false))) else (some false))) else (some false)) = some r := H
   have A5 := Aside0.mk A50
   clear A50
   by_cases c6 : t182 = true
   ·
    subst c6
    have H1 : ((tegularef32_Same.f k t172 (([(⟨0, 2, 10⟩ : S33), (⟨4, 2, 14⟩ : S33)] : List (S33)))).bind fun t186 => (if t186 = true then ((tegularef32_Same.f k t173 (([(⟨2, 2, 12⟩ : S33)] : List (S33)))).bind fun t190 => (if t190 = true then ((extent_Valid.f k y165).bind fun t191 => (some t191)) else (some false))) else (some false))) = some r := by rw [if_pos rfl] at H; exact H
    clear H
    have H := H1
    clear H1
    obtain ⟨y183, hy183⟩ : ∃ y_ : List (S33), y_ = (([(⟨0, 2, 10⟩ : S33), (⟨4, 2, 14⟩ : S33)] : List (S33))) := ⟨_, rfl⟩
    replace H : ((tegularef32_Same.f k t172 y183).bind fun t186 => (if t186 = true then ((tegularef32_Same.f k t173 (([(⟨2, 2, 12⟩ : S33)] : List (S33)))).bind fun t190 => (if t190 = true then ((extent_Valid.f k y165).bind fun t191 => (some t191)) else (some false))) else (some false))) = some r := by first | (rw [hy183]; with_reducible exact H) | (have H2_ := (Option.bind_some _ _).symm.trans H; rw [hy183]; with_reducible exact H2_) | (have H2_ := (Option.bind_some _ _).symm.trans H; with_reducible exact H2_) | with_reducible exact H | (rw [hy183]; exact H) | exact H
    have Ny183 := Aside0.mk hy183
    clear hy183
    replace H := Option.bind_eq_some_iff.mp H
    obtain ⟨t186, A70, H⟩ := H
    replace H : (if t186 = true then ((tegularef32_Same.f k t173 (([(⟨2, 2, 12⟩ : S33)] : List (S33)))).bind fun t190 => (if t190 = true then ((extent_Valid.f k y165).bind fun t191 => (some t191)) else (some false))) else (some false)) = some r := H
    have A7 := Aside0.mk A70
    clear A70
    by_cases c8 : t186 = true
    ·
     subst c8
     have H1 : ((tegularef32_Same.f k t173 (([(⟨2, 2, 12⟩ : S33)] : List (S33)))).bind fun t190 => (if t190 = true then ((extent_Valid.f k y165).bind fun t191 => (some t191)) else (some false))) = some r := by rw [if_pos rfl] at H; exact H
     clear H
     have H := H1
     clear H1
     obtain ⟨y187, hy187⟩ : ∃ y_ : List (S33), y_ = (([(⟨2, 2, 12⟩ : S33)] : List (S33))) := ⟨_, rfl⟩
     replace H : ((tegularef32_Same.f k t173 y187).bind fun t190 => (if t190 = true then ((extent_Valid.f k y165).bind fun t191 => (some t191)) else (some false))) = some r := by first | (rw [hy187]; with_reducible exact H) | (have H2_ := (Option.bind_some _ _).symm.trans H; rw [hy187]; with_reducible exact H2_) | (have H2_ := (Option.bind_some _ _).symm.trans H; with_reducible exact H2_) | with_reducible exact H | (rw [hy187]; exact H) | exact H
     have Ny187 := Aside0.mk hy187
     clear hy187
     replace H := Option.bind_eq_some_iff.mp H
     obtain ⟨t190, A90, H⟩ := H
     replace H : (if t190 = true then ((extent_Valid.f k y165).bind fun t191 => (some t191)) else (some false)) = some r := H
     have A9 := Aside0.mk A90
     clear A90
     by_cases c10 : t190 = true
     ·
      subst c10
      have H1 : ((extent_Valid.f k y165).bind fun t191 => (some t191)) = some r := by rw [if_pos rfl] at H; exact H
      clear H
      have H := H1
      clear H1
      replace H := Option.bind_eq_some_iff.mp H
      obtain ⟨t191, A110, H⟩ := H
      replace H : (some t191) = some r := H
      have A11 := Aside0.mk A110
      clear A110
      obtain rfl := Option.some.inj H
      go_enter Try.func11, Try.ntmps11
      go_wp2_with (first | ((with_reducible refine gate_dst (N := 9) rfl ?_); (try (refine gate_guard (by rfl) ?_; dsimp only)); refine Kd.R_lit k33 _ 33 ?hg (N := 9) ?hd (xs := ([(⟨0, 4, 10⟩ : S33), (⟨4, 2, 14⟩ : S33)] : List (S33))) (inner := [.int .i64 0, .int .i64 4, .int .i64 10, .int .i64 4, .int .i64 2, .int .i64 14]) (ok := fun _ => True) (okp := fun _ => True) ?hr ?hp (fun _ hk => hk) trivial (Below.refl _ _) (Nat.le_refl _) (by simp) ?_; (case hd => rfl); (case hg => rfl); (case hr => first | (go_simp; done) | (go_simp; rfl)); (case hp => exact (Reps.c3 (show Kd.M k33 _ _ _ (⟨0, 4, 10⟩ : S33) [.int .i64 0, .int .i64 4, .int .i64 10] from (k33_mkM _ _ _ (⟨0, 4, 10⟩ : S33) )) (Reps.c3 (show Kd.M k33 _ _ _ (⟨4, 2, 14⟩ : S33) [.int .i64 4, .int .i64 2, .int .i64 14] from (k33_mkM _ _ _ (⟨4, 2, 14⟩ : S33) )) (Reps.none _ _)))); intro v166 w12 ho13 hb hg_ hnew_; clear hg_ hnew_; (first | rw [← Ny165.out] at ho13 | (simp only [Int.reduceToNat] at ho13; rw [← Ny165.out] at ho13)); have n0_ := Aside0.mk (Kd.R_lower ho13 (below_size (by repeat (first | (with_reducible first | exact HB.out | apply below_alloc | apply pw_below_drewN | apply below_drew1) | exact HB.out)))); have n1_ := Aside0.mk (below_step (by repeat (first | (with_reducible first | exact HB.out | apply below_alloc | apply pw_below_drewN | apply below_drew1) | exact HB.out)) hb); clear HB; have HO167 := n0_; have HB := n1_; clear n0_ n1_; clear hb ho13; obtain ⟨Ao14, co14, eo14⟩ := Kd.R_slice HO167.out; subst eo14) | ((with_reducible refine gate_callee (f := 17) rfl ?_); refine goesL_ (some 12) rfl rfl Try.func17 (by kernel_rfl) rfl #[.slice Ao14 y165.length co14] rfl (by (try simp only [List.map_toArray, List.map_cons, List.map_nil]); first | done | rfl | (simp only [List.length_drop, List.length_take]; rfl)) ?_; (with_reducible refine (extent_Join.calls k _ _ y165 t168 t169 _ ?side1 ?side2 A1.out).mono ?_); (case side1 => repeat (first | exact (Kd.R_reads' HO167.out).2.2 | (with_reducible refine Kd.C_alloc ?_ _) | (with_reducible refine Kd.C_drewN ?_ _) | (with_reducible refine Kd.C_drew ?_))); (case side2 => exact (Kd.R_reads' HO167.out).2.1); rintro e w15 ⟨v170, rfl, ho0, hb⟩; refine ⟨_, rfl, ?_⟩; have n0_ := Aside0.mk (Kd.R_elder' (by (with_reducible repeat (first | apply Kd.R_alloc | apply Kd.R_drewN | apply Kd.R_drew)); exact HO167.out) (Kd.R_base ho0) hb); have n1_ := Aside0.mk (Kd.R_lower (Kd.R_new' ho0 (Kd.R_lt (by (with_reducible repeat (first | apply Kd.R_alloc | apply Kd.R_drewN | apply Kd.R_drew)); exact HO167.out))) (below_size (by repeat (first | (with_reducible first | exact HB.out | apply below_alloc | apply pw_below_drewN | apply below_drew1) | exact HB.out)))); have n2_ := Aside0.mk (below_step (by repeat (first | (with_reducible first | exact HB.out | apply below_alloc | apply pw_below_drewN | apply below_drew1) | exact HB.out)) hb); clear HO167; clear HB; have HO167 := n0_; have HO171 := n1_; have HB := n2_; clear n0_ n1_ n2_; (try clear hb); (try clear hb2); (try clear hk); (try clear hi); (try clear ho0)) | ((with_reducible refine gate_callee (f := 13) rfl ?_); refine goesL_ (some 17) rfl rfl Try.func13 (by kernel_rfl) rfl #[.slice Ao14 y165.length co14, .int .i64 2, .int .i64 2] rfl (by (try simp only [List.map_toArray, List.map_cons, List.map_nil]); first | done | rfl | (simp only [List.length_drop, List.length_take]; rfl)) ?_; (with_reducible refine (extent_Cut.calls k _ _ y165 2 2 t172 t173 t174 _ ?side1 ?side2 A2.out).mono ?_); (case side1 => repeat (first | exact (Kd.R_reads' HO167.out).2.2 | (with_reducible refine Kd.C_alloc ?_ _) | (with_reducible refine Kd.C_drewN ?_ _) | (with_reducible refine Kd.C_drew ?_))); (case side2 => exact (Kd.R_reads' HO167.out).2.1); rintro e w16 ⟨v175, v177, rfl, ho0, ho1, hb⟩; refine ⟨_, rfl, ?_⟩; have n0_ := Aside0.mk (Kd.R_mono (Kd.R_told (Kd.R_told (Kd.R_old (by (with_reducible repeat (first | apply Kd.R_alloc | apply Kd.R_drewN | apply Kd.R_drew)); exact HO167.out) hb) (Kd.R_base ho0)) (Kd.R_base ho1)) (fun _ h_ => h_.1)); have n1_ := Aside0.mk (Kd.R_mono (Kd.R_told (Kd.R_told (Kd.R_old (by (with_reducible repeat (first | apply Kd.R_alloc | apply Kd.R_drewN | apply Kd.R_drew)); exact HO171.out) hb) (Kd.R_base ho0)) (Kd.R_base ho1)) (fun _ h_ => h_.1)); have n2_ := Aside0.mk (Kd.R_lower (Kd.R_new' (Kd.R_new' ho0 (Kd.R_lt (by (with_reducible repeat (first | apply Kd.R_alloc | apply Kd.R_drewN | apply Kd.R_drew)); exact HO167.out))) (Kd.R_lt (by (with_reducible repeat (first | apply Kd.R_alloc | apply Kd.R_drewN | apply Kd.R_drew)); exact HO171.out))) (below_size (by repeat (first | (with_reducible first | exact HB.out | apply below_alloc | apply pw_below_drewN | apply below_drew1) | exact HB.out)))); have n3_ := Aside0.mk (Kd.R_lower (Kd.R_new' (Kd.R_new' ho1 (Kd.R_lt (by (with_reducible repeat (first | apply Kd.R_alloc | apply Kd.R_drewN | apply Kd.R_drew)); exact HO167.out))) (Kd.R_lt (by (with_reducible repeat (first | apply Kd.R_alloc | apply Kd.R_drewN | apply Kd.R_drew)); exact HO171.out))) (below_size (by repeat (first | (with_reducible first | exact HB.out | apply below_alloc | apply pw_below_drewN | apply below_drew1) | exact HB.out)))); have n4_ := Aside0.mk (below_step (by repeat (first | (with_reducible first | exact HB.out | apply below_alloc | apply pw_below_drewN | apply below_drew1) | exact HB.out)) hb); clear HO167; clear HO171; clear HB; have HO167 := n0_; have HO171 := n1_; have HO176 := n2_; have HO178 := n3_; have HB := n4_; clear n0_ n1_ n2_ n3_ n4_; (try clear hb); (try clear hb2); (try clear hk); (try clear hi); (try clear ho0); (try clear ho1)) | ((with_reducible refine gate_dst (N := 30) rfl ?_); (try (refine gate_guard (by rfl) ?_; dsimp only)); refine Kd.R_lit k33 _ 33 ?hg (N := 30) ?hd (xs := ([(⟨0, 6, 10⟩ : S33)] : List (S33))) (inner := [.int .i64 0, .int .i64 6, .int .i64 10]) (ok := fun _ => True) (okp := fun _ => True) ?hr ?hp (fun _ hk => hk) trivial (Below.refl _ _) (Nat.le_refl _) (by simp) ?_; (case hd => rfl); (case hg => rfl); (case hr => first | (go_simp; done) | (go_simp; rfl)); (case hp => exact (Reps.c3 (show Kd.M k33 _ _ _ (⟨0, 6, 10⟩ : S33) [.int .i64 0, .int .i64 6, .int .i64 10] from (k33_mkM _ _ _ (⟨0, 6, 10⟩ : S33) )) (Reps.none _ _))); intro v180 w17 ho18 hb hg_ hnew_; clear hg_ hnew_; (first | rw [← Ny179.out] at ho18 | (simp only [Int.reduceToNat] at ho18; rw [← Ny179.out] at ho18)); have n0_ := Aside0.mk (Kd.R_elder' (by (with_reducible repeat (first | apply Kd.R_alloc | apply Kd.R_drewN | apply Kd.R_drew)); exact HO167.out) (Kd.R_base ho18) hb); have n1_ := Aside0.mk (Kd.R_elder' (by (with_reducible repeat (first | apply Kd.R_alloc | apply Kd.R_drewN | apply Kd.R_drew)); exact HO171.out) (Kd.R_base ho18) hb); have n2_ := Aside0.mk (Kd.R_elder' (by (with_reducible repeat (first | apply Kd.R_alloc | apply Kd.R_drewN | apply Kd.R_drew)); exact HO176.out) (Kd.R_base ho18) hb); have n3_ := Aside0.mk (Kd.R_elder' (by (with_reducible repeat (first | apply Kd.R_alloc | apply Kd.R_drewN | apply Kd.R_drew)); exact HO178.out) (Kd.R_base ho18) hb); have n4_ := Aside0.mk (Kd.R_lower (Kd.R_new' (Kd.R_new' (Kd.R_new' (Kd.R_new' ho18 (Kd.R_lt (by (with_reducible repeat (first | apply Kd.R_alloc | apply Kd.R_drewN | apply Kd.R_drew)); exact HO167.out))) (Kd.R_lt (by (with_reducible repeat (first | apply Kd.R_alloc | apply Kd.R_drewN | apply Kd.R_drew)); exact HO171.out))) (Kd.R_lt (by (with_reducible repeat (first | apply Kd.R_alloc | apply Kd.R_drewN | apply Kd.R_drew)); exact HO176.out))) (Kd.R_lt (by (with_reducible repeat (first | apply Kd.R_alloc | apply Kd.R_drewN | apply Kd.R_drew)); exact HO178.out))) (below_size (by repeat (first | (with_reducible first | exact HB.out | apply below_alloc | apply pw_below_drewN | apply below_drew1) | exact HB.out)))); have n5_ := Aside0.mk (below_step (by repeat (first | (with_reducible first | exact HB.out | apply below_alloc | apply pw_below_drewN | apply below_drew1) | exact HB.out)) hb); clear HO167; clear HO171; clear HO176; clear HO178; clear HB; have HO167 := n0_; have HO171 := n1_; have HO176 := n2_; have HO178 := n3_; have HO181 := n4_; have HB := n5_; clear n0_ n1_ n2_ n3_ n4_ n5_; clear hb ho18; obtain ⟨Ao19, co19, eo19⟩ := Kd.R_slice HO171.out; subst eo19; obtain ⟨Ao20, co20, eo20⟩ := Kd.R_slice HO181.out; subst eo20) | (go_at_call 15; (with_reducible refine (tegularef32_Same.calls k _ _ t168 _ _ y179 true _ ?side1 ?side2 ?side3 ?side4 A5.out).mono ?_); (case side1 => repeat (first | exact (Kd.R_reads' HO171.out).2.2 | (with_reducible refine Kd.C_alloc ?_ _) | (with_reducible refine Kd.C_drewN ?_ _) | (with_reducible refine Kd.C_drew ?_))); (case side2 => exact (Kd.R_reads' HO171.out).2.1); (case side3 => repeat (first | exact (Kd.R_reads' HO181.out).2.2 | (with_reducible refine Kd.C_alloc ?_ _) | (with_reducible refine Kd.C_drewN ?_ _) | (with_reducible refine Kd.C_drew ?_))); (case side4 => exact (Kd.R_reads' HO181.out).2.1); rintro e w' ⟨rfl, ⟨nd, rfl⟩⟩) | ((with_reducible refine gate_dst (N := 37) rfl ?_); (try (refine gate_guard (by rfl) ?_; dsimp only)); refine Kd.R_lit k33 _ 33 ?hg (N := 37) ?hd (xs := ([(⟨0, 2, 10⟩ : S33), (⟨4, 2, 14⟩ : S33)] : List (S33))) (inner := [.int .i64 0, .int .i64 2, .int .i64 10, .int .i64 4, .int .i64 2, .int .i64 14]) (ok := fun _ => True) (okp := fun _ => True) ?hr ?hp (fun _ hk => hk) trivial (Below.refl _ _) (Nat.le_refl _) (by simp) ?_; (case hd => rfl); (case hg => rfl); (case hr => first | (go_simp; done) | (go_simp; rfl)); (case hp => exact (Reps.c3 (show Kd.M k33 _ _ _ (⟨0, 2, 10⟩ : S33) [.int .i64 0, .int .i64 2, .int .i64 10] from (k33_mkM _ _ _ (⟨0, 2, 10⟩ : S33) )) (Reps.c3 (show Kd.M k33 _ _ _ (⟨4, 2, 14⟩ : S33) [.int .i64 4, .int .i64 2, .int .i64 14] from (k33_mkM _ _ _ (⟨4, 2, 14⟩ : S33) )) (Reps.none _ _)))); intro v184 w21 ho22 hb hg_ hnew_; clear hg_ hnew_; (first | rw [← Ny183.out] at ho22 | (simp only [Int.reduceToNat] at ho22; rw [← Ny183.out] at ho22)); have n0_ := Aside0.mk (Kd.R_elder' (by (with_reducible repeat (first | apply Kd.R_alloc | apply Kd.R_drewN | apply Kd.R_drew)); exact HO167.out) (Kd.R_base ho22) hb); have n1_ := Aside0.mk (Kd.R_elder' (by (with_reducible repeat (first | apply Kd.R_alloc | apply Kd.R_drewN | apply Kd.R_drew)); exact HO171.out) (Kd.R_base ho22) hb); have n2_ := Aside0.mk (Kd.R_elder' (by (with_reducible repeat (first | apply Kd.R_alloc | apply Kd.R_drewN | apply Kd.R_drew)); exact HO176.out) (Kd.R_base ho22) hb); have n3_ := Aside0.mk (Kd.R_elder' (by (with_reducible repeat (first | apply Kd.R_alloc | apply Kd.R_drewN | apply Kd.R_drew)); exact HO178.out) (Kd.R_base ho22) hb); have n4_ := Aside0.mk (Kd.R_elder' (by (with_reducible repeat (first | apply Kd.R_alloc | apply Kd.R_drewN | apply Kd.R_drew)); exact HO181.out) (Kd.R_base ho22) hb); have n5_ := Aside0.mk (Kd.R_lower (Kd.R_new' (Kd.R_new' (Kd.R_new' (Kd.R_new' (Kd.R_new' ho22 (Kd.R_lt (by (with_reducible repeat (first | apply Kd.R_alloc | apply Kd.R_drewN | apply Kd.R_drew)); exact HO167.out))) (Kd.R_lt (by (with_reducible repeat (first | apply Kd.R_alloc | apply Kd.R_drewN | apply Kd.R_drew)); exact HO171.out))) (Kd.R_lt (by (with_reducible repeat (first | apply Kd.R_alloc | apply Kd.R_drewN | apply Kd.R_drew)); exact HO176.out))) (Kd.R_lt (by (with_reducible repeat (first | apply Kd.R_alloc | apply Kd.R_drewN | apply Kd.R_drew)); exact HO178.out))) (Kd.R_lt (by (with_reducible repeat (first | apply Kd.R_alloc | apply Kd.R_drewN | apply Kd.R_drew)); exact HO181.out))) (below_size (by repeat (first | (with_reducible first | exact HB.out | apply below_alloc | apply pw_below_drewN | apply below_drew1) | exact HB.out)))); have n6_ := Aside0.mk (below_step (by repeat (first | (with_reducible first | exact HB.out | apply below_alloc | apply pw_below_drewN | apply below_drew1) | exact HB.out)) hb); clear HO167; clear HO171; clear HO176; clear HO178; clear HO181; clear HB; have HO167 := n0_; have HO171 := n1_; have HO176 := n2_; have HO178 := n3_; have HO181 := n4_; have HO185 := n5_; have HB := n6_; clear n0_ n1_ n2_ n3_ n4_ n5_ n6_; clear hb ho22; obtain ⟨Ao23, co23, eo23⟩ := Kd.R_slice HO176.out; subst eo23; obtain ⟨Ao24, co24, eo24⟩ := Kd.R_slice HO185.out; subst eo24) | (go_at_call 15; (with_reducible refine (tegularef32_Same.calls k _ _ t172 _ _ y183 true _ ?side1 ?side2 ?side3 ?side4 A7.out).mono ?_); (case side1 => repeat (first | exact (Kd.R_reads' HO176.out).2.2 | (with_reducible refine Kd.C_alloc ?_ _) | (with_reducible refine Kd.C_drewN ?_ _) | (with_reducible refine Kd.C_drew ?_))); (case side2 => exact (Kd.R_reads' HO176.out).2.1); (case side3 => repeat (first | exact (Kd.R_reads' HO185.out).2.2 | (with_reducible refine Kd.C_alloc ?_ _) | (with_reducible refine Kd.C_drewN ?_ _) | (with_reducible refine Kd.C_drew ?_))); (case side4 => exact (Kd.R_reads' HO185.out).2.1); rintro e w' ⟨rfl, ⟨nd, rfl⟩⟩) | ((with_reducible refine gate_dst (N := 43) rfl ?_); (try (refine gate_guard (by rfl) ?_; dsimp only)); refine Kd.R_lit k33 _ 33 ?hg (N := 43) ?hd (xs := ([(⟨2, 2, 12⟩ : S33)] : List (S33))) (inner := [.int .i64 2, .int .i64 2, .int .i64 12]) (ok := fun _ => True) (okp := fun _ => True) ?hr ?hp (fun _ hk => hk) trivial (Below.refl _ _) (Nat.le_refl _) (by simp) ?_; (case hd => rfl); (case hg => rfl); (case hr => first | (go_simp; done) | (go_simp; rfl)); (case hp => exact (Reps.c3 (show Kd.M k33 _ _ _ (⟨2, 2, 12⟩ : S33) [.int .i64 2, .int .i64 2, .int .i64 12] from (k33_mkM _ _ _ (⟨2, 2, 12⟩ : S33) )) (Reps.none _ _))); intro v188 w25 ho26 hb hg_ hnew_; clear hg_ hnew_; (first | rw [← Ny187.out] at ho26 | (simp only [Int.reduceToNat] at ho26; rw [← Ny187.out] at ho26)); have n0_ := Aside0.mk (Kd.R_elder' (by (with_reducible repeat (first | apply Kd.R_alloc | apply Kd.R_drewN | apply Kd.R_drew)); exact HO167.out) (Kd.R_base ho26) hb); have n1_ := Aside0.mk (Kd.R_elder' (by (with_reducible repeat (first | apply Kd.R_alloc | apply Kd.R_drewN | apply Kd.R_drew)); exact HO171.out) (Kd.R_base ho26) hb); have n2_ := Aside0.mk (Kd.R_elder' (by (with_reducible repeat (first | apply Kd.R_alloc | apply Kd.R_drewN | apply Kd.R_drew)); exact HO176.out) (Kd.R_base ho26) hb); have n3_ := Aside0.mk (Kd.R_elder' (by (with_reducible repeat (first | apply Kd.R_alloc | apply Kd.R_drewN | apply Kd.R_drew)); exact HO178.out) (Kd.R_base ho26) hb); have n4_ := Aside0.mk (Kd.R_elder' (by (with_reducible repeat (first | apply Kd.R_alloc | apply Kd.R_drewN | apply Kd.R_drew)); exact HO181.out) (Kd.R_base ho26) hb); have n5_ := Aside0.mk (Kd.R_elder' (by (with_reducible repeat (first | apply Kd.R_alloc | apply Kd.R_drewN | apply Kd.R_drew)); exact HO185.out) (Kd.R_base ho26) hb); have n6_ := Aside0.mk (Kd.R_lower (Kd.R_new' (Kd.R_new' (Kd.R_new' (Kd.R_new' (Kd.R_new' (Kd.R_new' ho26 (Kd.R_lt (by (with_reducible repeat (first | apply Kd.R_alloc | apply Kd.R_drewN | apply Kd.R_drew)); exact HO167.out))) (Kd.R_lt (by (with_reducible repeat (first | apply Kd.R_alloc | apply Kd.R_drewN | apply Kd.R_drew)); exact HO171.out))) (Kd.R_lt (by (with_reducible repeat (first | apply Kd.R_alloc | apply Kd.R_drewN | apply Kd.R_drew)); exact HO176.out))) (Kd.R_lt (by (with_reducible repeat (first | apply Kd.R_alloc | apply Kd.R_drewN | apply Kd.R_drew)); exact HO178.out))) (Kd.R_lt (by (with_reducible repeat (first | apply Kd.R_alloc | apply Kd.R_drewN | apply Kd.R_drew)); exact HO181.out))) (Kd.R_lt (by (with_reducible repeat (first | apply Kd.R_alloc | apply Kd.R_drewN | apply Kd.R_drew)); exact HO185.out))) (below_size (by repeat (first | (with_reducible first | exact HB.out | apply below_alloc | apply pw_below_drewN | apply below_drew1) | exact HB.out)))); have n7_ := Aside0.mk (below_step (by repeat (first | (with_reducible first | exact HB.out | apply below_alloc | apply pw_below_drewN | apply below_drew1) | exact HB.out)) hb); clear HO167; clear HO171; clear HO176; clear HO178; clear HO181; clear HO185; clear HB; have HO167 := n0_; have HO171 := n1_; have HO176 := n2_; have HO178 := n3_; have HO181 := n4_; have HO185 := n5_; have HO189 := n6_; have HB := n7_; clear n0_ n1_ n2_ n3_ n4_ n5_ n6_ n7_; clear hb ho26; obtain ⟨Ao27, co27, eo27⟩ := Kd.R_slice HO178.out; subst eo27; obtain ⟨Ao28, co28, eo28⟩ := Kd.R_slice HO189.out; subst eo28) | (go_at_call 15; (with_reducible refine (tegularef32_Same.calls k _ _ t173 _ _ y187 true _ ?side1 ?side2 ?side3 ?side4 A9.out).mono ?_); (case side1 => repeat (first | exact (Kd.R_reads' HO178.out).2.2 | (with_reducible refine Kd.C_alloc ?_ _) | (with_reducible refine Kd.C_drewN ?_ _) | (with_reducible refine Kd.C_drew ?_))); (case side2 => exact (Kd.R_reads' HO178.out).2.1); (case side3 => repeat (first | exact (Kd.R_reads' HO189.out).2.2 | (with_reducible refine Kd.C_alloc ?_ _) | (with_reducible refine Kd.C_drewN ?_ _) | (with_reducible refine Kd.C_drew ?_))); (case side4 => exact (Kd.R_reads' HO189.out).2.1); rintro e w' ⟨rfl, ⟨nd, rfl⟩⟩) | (go_at_call 19; (with_reducible refine (extent_Valid.calls k _ _ y165 t191 _ ?side1 ?side2 A11.out).mono ?_); (case side1 => repeat (first | exact (Kd.R_reads' HO167.out).2.2 | (with_reducible refine Kd.C_alloc ?_ _) | (with_reducible refine Kd.C_drewN ?_ _) | (with_reducible refine Kd.C_drew ?_))); (case side2 => exact (Kd.R_reads' HO167.out).2.1); rintro e w29 ⟨rfl, hb⟩; have n0_ := Aside0.mk (Kd.R_below (by (with_reducible repeat (first | apply Kd.R_alloc | apply Kd.R_drewN | apply Kd.R_drew)); exact HO167.out) hb); have n1_ := Aside0.mk (Kd.R_below (by (with_reducible repeat (first | apply Kd.R_alloc | apply Kd.R_drewN | apply Kd.R_drew)); exact HO171.out) hb); have n2_ := Aside0.mk (Kd.R_below (by (with_reducible repeat (first | apply Kd.R_alloc | apply Kd.R_drewN | apply Kd.R_drew)); exact HO176.out) hb); have n3_ := Aside0.mk (Kd.R_below (by (with_reducible repeat (first | apply Kd.R_alloc | apply Kd.R_drewN | apply Kd.R_drew)); exact HO178.out) hb); have n4_ := Aside0.mk (Kd.R_below (by (with_reducible repeat (first | apply Kd.R_alloc | apply Kd.R_drewN | apply Kd.R_drew)); exact HO181.out) hb); have n5_ := Aside0.mk (Kd.R_below (by (with_reducible repeat (first | apply Kd.R_alloc | apply Kd.R_drewN | apply Kd.R_drew)); exact HO185.out) hb); have n6_ := Aside0.mk (Kd.R_below (by (with_reducible repeat (first | apply Kd.R_alloc | apply Kd.R_drewN | apply Kd.R_drew)); exact HO189.out) hb); have n7_ := Aside0.mk (below_step (by repeat (first | (with_reducible first | exact HB.out | apply below_alloc | apply pw_below_drewN | apply below_drew1) | exact HB.out)) hb); clear HO167; clear HO171; clear HO176; clear HO178; clear HO181; clear HO185; clear HO189; clear HB; have HO167 := n0_; have HO171 := n1_; have HO176 := n2_; have HO178 := n3_; have HO181 := n4_; have HO185 := n5_; have HO189 := n6_; have HB := n7_; clear n0_ n1_ n2_ n3_ n4_ n5_ n6_ n7_; (try clear hb); (try clear hb2); (try clear hk); (try clear hi)))
      go_ret
      exact ⟨by first | rfl | (simp [errW_none, errW_some] <;> rfl) | (simp [*, errW_none, errW_some] <;> rfl), by repeat (first | (with_reducible first | exact HB.out | apply below_alloc | apply pw_below_drewN | apply below_drew1) | exact HB.out)⟩
     ·
      replace c10 := Bool.eq_false_iff.mpr c10
      subst c10
      have H1 : (some false) = some r := by rw [if_neg (show ¬ (false = true) by decide)] at H; exact H
      clear H
      have H := H1
      clear H1
      obtain rfl := Option.some.inj H
      go_enter Try.func11, Try.ntmps11
      go_wp2_with (first | ((with_reducible refine gate_dst (N := 9) rfl ?_); (try (refine gate_guard (by rfl) ?_; dsimp only)); refine Kd.R_lit k33 _ 33 ?hg (N := 9) ?hd (xs := ([(⟨0, 4, 10⟩ : S33), (⟨4, 2, 14⟩ : S33)] : List (S33))) (inner := [.int .i64 0, .int .i64 4, .int .i64 10, .int .i64 4, .int .i64 2, .int .i64 14]) (ok := fun _ => True) (okp := fun _ => True) ?hr ?hp (fun _ hk => hk) trivial (Below.refl _ _) (Nat.le_refl _) (by simp) ?_; (case hd => rfl); (case hg => rfl); (case hr => first | (go_simp; done) | (go_simp; rfl)); (case hp => exact (Reps.c3 (show Kd.M k33 _ _ _ (⟨0, 4, 10⟩ : S33) [.int .i64 0, .int .i64 4, .int .i64 10] from (k33_mkM _ _ _ (⟨0, 4, 10⟩ : S33) )) (Reps.c3 (show Kd.M k33 _ _ _ (⟨4, 2, 14⟩ : S33) [.int .i64 4, .int .i64 2, .int .i64 14] from (k33_mkM _ _ _ (⟨4, 2, 14⟩ : S33) )) (Reps.none _ _)))); intro v166 w30 ho31 hb hg_ hnew_; clear hg_ hnew_; (first | rw [← Ny165.out] at ho31 | (simp only [Int.reduceToNat] at ho31; rw [← Ny165.out] at ho31)); have n0_ := Aside0.mk (Kd.R_lower ho31 (below_size (by repeat (first | (with_reducible first | exact HB.out | apply below_alloc | apply pw_below_drewN | apply below_drew1) | exact HB.out)))); have n1_ := Aside0.mk (below_step (by repeat (first | (with_reducible first | exact HB.out | apply below_alloc | apply pw_below_drewN | apply below_drew1) | exact HB.out)) hb); clear HB; have HO167 := n0_; have HB := n1_; clear n0_ n1_; clear hb ho31; obtain ⟨Ao32, co32, eo32⟩ := Kd.R_slice HO167.out; subst eo32) | ((with_reducible refine gate_callee (f := 17) rfl ?_); refine goesL_ (some 12) rfl rfl Try.func17 (by kernel_rfl) rfl #[.slice Ao32 y165.length co32] rfl (by (try simp only [List.map_toArray, List.map_cons, List.map_nil]); first | done | rfl | (simp only [List.length_drop, List.length_take]; rfl)) ?_; (with_reducible refine (extent_Join.calls k _ _ y165 t168 t169 _ ?side1 ?side2 A1.out).mono ?_); (case side1 => repeat (first | exact (Kd.R_reads' HO167.out).2.2 | (with_reducible refine Kd.C_alloc ?_ _) | (with_reducible refine Kd.C_drewN ?_ _) | (with_reducible refine Kd.C_drew ?_))); (case side2 => exact (Kd.R_reads' HO167.out).2.1); rintro e w33 ⟨v170, rfl, ho0, hb⟩; refine ⟨_, rfl, ?_⟩; have n0_ := Aside0.mk (Kd.R_elder' (by (with_reducible repeat (first | apply Kd.R_alloc | apply Kd.R_drewN | apply Kd.R_drew)); exact HO167.out) (Kd.R_base ho0) hb); have n1_ := Aside0.mk (Kd.R_lower (Kd.R_new' ho0 (Kd.R_lt (by (with_reducible repeat (first | apply Kd.R_alloc | apply Kd.R_drewN | apply Kd.R_drew)); exact HO167.out))) (below_size (by repeat (first | (with_reducible first | exact HB.out | apply below_alloc | apply pw_below_drewN | apply below_drew1) | exact HB.out)))); have n2_ := Aside0.mk (below_step (by repeat (first | (with_reducible first | exact HB.out | apply below_alloc | apply pw_below_drewN | apply below_drew1) | exact HB.out)) hb); clear HO167; clear HB; have HO167 := n0_; have HO171 := n1_; have HB := n2_; clear n0_ n1_ n2_; (try clear hb); (try clear hb2); (try clear hk); (try clear hi); (try clear ho0)) | ((with_reducible refine gate_callee (f := 13) rfl ?_); refine goesL_ (some 17) rfl rfl Try.func13 (by kernel_rfl) rfl #[.slice Ao32 y165.length co32, .int .i64 2, .int .i64 2] rfl (by (try simp only [List.map_toArray, List.map_cons, List.map_nil]); first | done | rfl | (simp only [List.length_drop, List.length_take]; rfl)) ?_; (with_reducible refine (extent_Cut.calls k _ _ y165 2 2 t172 t173 t174 _ ?side1 ?side2 A2.out).mono ?_); (case side1 => repeat (first | exact (Kd.R_reads' HO167.out).2.2 | (with_reducible refine Kd.C_alloc ?_ _) | (with_reducible refine Kd.C_drewN ?_ _) | (with_reducible refine Kd.C_drew ?_))); (case side2 => exact (Kd.R_reads' HO167.out).2.1); rintro e w34 ⟨v175, v177, rfl, ho0, ho1, hb⟩; refine ⟨_, rfl, ?_⟩; have n0_ := Aside0.mk (Kd.R_mono (Kd.R_told (Kd.R_told (Kd.R_old (by (with_reducible repeat (first | apply Kd.R_alloc | apply Kd.R_drewN | apply Kd.R_drew)); exact HO167.out) hb) (Kd.R_base ho0)) (Kd.R_base ho1)) (fun _ h_ => h_.1)); have n1_ := Aside0.mk (Kd.R_mono (Kd.R_told (Kd.R_told (Kd.R_old (by (with_reducible repeat (first | apply Kd.R_alloc | apply Kd.R_drewN | apply Kd.R_drew)); exact HO171.out) hb) (Kd.R_base ho0)) (Kd.R_base ho1)) (fun _ h_ => h_.1)); have n2_ := Aside0.mk (Kd.R_lower (Kd.R_new' (Kd.R_new' ho0 (Kd.R_lt (by (with_reducible repeat (first | apply Kd.R_alloc | apply Kd.R_drewN | apply Kd.R_drew)); exact HO167.out))) (Kd.R_lt (by (with_reducible repeat (first | apply Kd.R_alloc | apply Kd.R_drewN | apply Kd.R_drew)); exact HO171.out))) (below_size (by repeat (first | (with_reducible first | exact HB.out | apply below_alloc | apply pw_below_drewN | apply below_drew1) | exact HB.out)))); have n3_ := Aside0.mk (Kd.R_lower (Kd.R_new' (Kd.R_new' ho1 (Kd.R_lt (by (with_reducible repeat (first | apply Kd.R_alloc | apply Kd.R_drewN | apply Kd.R_drew)); exact HO167.out))) (Kd.R_lt (by (with_reducible repeat (first | apply Kd.R_alloc | apply Kd.R_drewN | apply Kd.R_drew)); exact HO171.out))) (below_size (by repeat (first | (with_reducible first | exact HB.out | apply below_alloc | apply pw_below_drewN | apply below_drew1) | exact HB.out)))); have n4_ := Aside0.mk (below_step (by repeat (first | (with_reducible first | exact HB.out | apply below_alloc | apply pw_below_drewN | apply below_drew1) | exact HB.out)) hb); clear HO167; clear HO171; clear HB; have HO167 := n0_; have HO171 := n1_; have HO176 := n2_; have HO178 := n3_; have HB := n4_; clear n0_ n1_ n2_ n3_ n4_; (try clear hb); (try clear hb2); (try clear hk); (try clear hi); (try clear ho0); (try clear ho1)) | ((with_reducible refine gate_dst (N := 30) rfl ?_); (try (refine gate_guard (by rfl) ?_; dsimp only)); refine Kd.R_lit k33 _ 33 ?hg (N := 30) ?hd (xs := ([(⟨0, 6, 10⟩ : S33)] : List (S33))) (inner := [.int .i64 0, .int .i64 6, .int .i64 10]) (ok := fun _ => True) (okp := fun _ => True) ?hr ?hp (fun _ hk => hk) trivial (Below.refl _ _) (Nat.le_refl _) (by simp) ?_; (case hd => rfl); (case hg => rfl); (case hr => first | (go_simp; done) | (go_simp; rfl)); (case hp => exact (Reps.c3 (show Kd.M k33 _ _ _ (⟨0, 6, 10⟩ : S33) [.int .i64 0, .int .i64 6, .int .i64 10] from (k33_mkM _ _ _ (⟨0, 6, 10⟩ : S33) )) (Reps.none _ _))); intro v180 w35 ho36 hb hg_ hnew_; clear hg_ hnew_; (first | rw [← Ny179.out] at ho36 | (simp only [Int.reduceToNat] at ho36; rw [← Ny179.out] at ho36)); have n0_ := Aside0.mk (Kd.R_elder' (by (with_reducible repeat (first | apply Kd.R_alloc | apply Kd.R_drewN | apply Kd.R_drew)); exact HO167.out) (Kd.R_base ho36) hb); have n1_ := Aside0.mk (Kd.R_elder' (by (with_reducible repeat (first | apply Kd.R_alloc | apply Kd.R_drewN | apply Kd.R_drew)); exact HO171.out) (Kd.R_base ho36) hb); have n2_ := Aside0.mk (Kd.R_elder' (by (with_reducible repeat (first | apply Kd.R_alloc | apply Kd.R_drewN | apply Kd.R_drew)); exact HO176.out) (Kd.R_base ho36) hb); have n3_ := Aside0.mk (Kd.R_elder' (by (with_reducible repeat (first | apply Kd.R_alloc | apply Kd.R_drewN | apply Kd.R_drew)); exact HO178.out) (Kd.R_base ho36) hb); have n4_ := Aside0.mk (Kd.R_lower (Kd.R_new' (Kd.R_new' (Kd.R_new' (Kd.R_new' ho36 (Kd.R_lt (by (with_reducible repeat (first | apply Kd.R_alloc | apply Kd.R_drewN | apply Kd.R_drew)); exact HO167.out))) (Kd.R_lt (by (with_reducible repeat (first | apply Kd.R_alloc | apply Kd.R_drewN | apply Kd.R_drew)); exact HO171.out))) (Kd.R_lt (by (with_reducible repeat (first | apply Kd.R_alloc | apply Kd.R_drewN | apply Kd.R_drew)); exact HO176.out))) (Kd.R_lt (by (with_reducible repeat (first | apply Kd.R_alloc | apply Kd.R_drewN | apply Kd.R_drew)); exact HO178.out))) (below_size (by repeat (first | (with_reducible first | exact HB.out | apply below_alloc | apply pw_below_drewN | apply below_drew1) | exact HB.out)))); have n5_ := Aside0.mk (below_step (by repeat (first | (with_reducible first | exact HB.out | apply below_alloc | apply pw_below_drewN | apply below_drew1) | exact HB.out)) hb); clear HO167; clear HO171; clear HO176; clear HO178; clear HB; have HO167 := n0_; have HO171 := n1_; have HO176 := n2_; have HO178 := n3_; have HO181 := n4_; have HB := n5_; clear n0_ n1_ n2_ n3_ n4_ n5_; clear hb ho36; obtain ⟨Ao37, co37, eo37⟩ := Kd.R_slice HO171.out; subst eo37; obtain ⟨Ao38, co38, eo38⟩ := Kd.R_slice HO181.out; subst eo38) | (go_at_call 15; (with_reducible refine (tegularef32_Same.calls k _ _ t168 _ _ y179 true _ ?side1 ?side2 ?side3 ?side4 A5.out).mono ?_); (case side1 => repeat (first | exact (Kd.R_reads' HO171.out).2.2 | (with_reducible refine Kd.C_alloc ?_ _) | (with_reducible refine Kd.C_drewN ?_ _) | (with_reducible refine Kd.C_drew ?_))); (case side2 => exact (Kd.R_reads' HO171.out).2.1); (case side3 => repeat (first | exact (Kd.R_reads' HO181.out).2.2 | (with_reducible refine Kd.C_alloc ?_ _) | (with_reducible refine Kd.C_drewN ?_ _) | (with_reducible refine Kd.C_drew ?_))); (case side4 => exact (Kd.R_reads' HO181.out).2.1); rintro e w' ⟨rfl, ⟨nd, rfl⟩⟩) | ((with_reducible refine gate_dst (N := 37) rfl ?_); (try (refine gate_guard (by rfl) ?_; dsimp only)); refine Kd.R_lit k33 _ 33 ?hg (N := 37) ?hd (xs := ([(⟨0, 2, 10⟩ : S33), (⟨4, 2, 14⟩ : S33)] : List (S33))) (inner := [.int .i64 0, .int .i64 2, .int .i64 10, .int .i64 4, .int .i64 2, .int .i64 14]) (ok := fun _ => True) (okp := fun _ => True) ?hr ?hp (fun _ hk => hk) trivial (Below.refl _ _) (Nat.le_refl _) (by simp) ?_; (case hd => rfl); (case hg => rfl); (case hr => first | (go_simp; done) | (go_simp; rfl)); (case hp => exact (Reps.c3 (show Kd.M k33 _ _ _ (⟨0, 2, 10⟩ : S33) [.int .i64 0, .int .i64 2, .int .i64 10] from (k33_mkM _ _ _ (⟨0, 2, 10⟩ : S33) )) (Reps.c3 (show Kd.M k33 _ _ _ (⟨4, 2, 14⟩ : S33) [.int .i64 4, .int .i64 2, .int .i64 14] from (k33_mkM _ _ _ (⟨4, 2, 14⟩ : S33) )) (Reps.none _ _)))); intro v184 w39 ho40 hb hg_ hnew_; clear hg_ hnew_; (first | rw [← Ny183.out] at ho40 | (simp only [Int.reduceToNat] at ho40; rw [← Ny183.out] at ho40)); have n0_ := Aside0.mk (Kd.R_elder' (by (with_reducible repeat (first | apply Kd.R_alloc | apply Kd.R_drewN | apply Kd.R_drew)); exact HO167.out) (Kd.R_base ho40) hb); have n1_ := Aside0.mk (Kd.R_elder' (by (with_reducible repeat (first | apply Kd.R_alloc | apply Kd.R_drewN | apply Kd.R_drew)); exact HO171.out) (Kd.R_base ho40) hb); have n2_ := Aside0.mk (Kd.R_elder' (by (with_reducible repeat (first | apply Kd.R_alloc | apply Kd.R_drewN | apply Kd.R_drew)); exact HO176.out) (Kd.R_base ho40) hb); have n3_ := Aside0.mk (Kd.R_elder' (by (with_reducible repeat (first | apply Kd.R_alloc | apply Kd.R_drewN | apply Kd.R_drew)); exact HO178.out) (Kd.R_base ho40) hb); have n4_ := Aside0.mk (Kd.R_elder' (by (with_reducible repeat (first | apply Kd.R_alloc | apply Kd.R_drewN | apply Kd.R_drew)); exact HO181.out) (Kd.R_base ho40) hb); have n5_ := Aside0.mk (Kd.R_lower (Kd.R_new' (Kd.R_new' (Kd.R_new' (Kd.R_new' (Kd.R_new' ho40 (Kd.R_lt (by (with_reducible repeat (first | apply Kd.R_alloc | apply Kd.R_drewN | apply Kd.R_drew)); exact HO167.out))) (Kd.R_lt (by (with_reducible repeat (first | apply Kd.R_alloc | apply Kd.R_drewN | apply Kd.R_drew)); exact HO171.out))) (Kd.R_lt (by (with_reducible repeat (first | apply Kd.R_alloc | apply Kd.R_drewN | apply Kd.R_drew)); exact HO176.out))) (Kd.R_lt (by (with_reducible repeat (first | apply Kd.R_alloc | apply Kd.R_drewN | apply Kd.R_drew)); exact HO178.out))) (Kd.R_lt (by (with_reducible repeat (first | apply Kd.R_alloc | apply Kd.R_drewN | apply Kd.R_drew)); exact HO181.out))) (below_size (by repeat (first | (with_reducible first | exact HB.out | apply below_alloc | apply pw_below_drewN | apply below_drew1) | exact HB.out)))); have n6_ := Aside0.mk (below_step (by repeat (first | (with_reducible first | exact HB.out | apply below_alloc | apply pw_below_drewN | apply below_drew1) | exact HB.out)) hb); clear HO167; clear HO171; clear HO176; clear HO178; clear HO181; clear HB; have HO167 := n0_; have HO171 := n1_; have HO176 := n2_; have HO178 := n3_; have HO181 := n4_; have HO185 := n5_; have HB := n6_; clear n0_ n1_ n2_ n3_ n4_ n5_ n6_; clear hb ho40; obtain ⟨Ao41, co41, eo41⟩ := Kd.R_slice HO176.out; subst eo41; obtain ⟨Ao42, co42, eo42⟩ := Kd.R_slice HO185.out; subst eo42) | (go_at_call 15; (with_reducible refine (tegularef32_Same.calls k _ _ t172 _ _ y183 true _ ?side1 ?side2 ?side3 ?side4 A7.out).mono ?_); (case side1 => repeat (first | exact (Kd.R_reads' HO176.out).2.2 | (with_reducible refine Kd.C_alloc ?_ _) | (with_reducible refine Kd.C_drewN ?_ _) | (with_reducible refine Kd.C_drew ?_))); (case side2 => exact (Kd.R_reads' HO176.out).2.1); (case side3 => repeat (first | exact (Kd.R_reads' HO185.out).2.2 | (with_reducible refine Kd.C_alloc ?_ _) | (with_reducible refine Kd.C_drewN ?_ _) | (with_reducible refine Kd.C_drew ?_))); (case side4 => exact (Kd.R_reads' HO185.out).2.1); rintro e w' ⟨rfl, ⟨nd, rfl⟩⟩) | ((with_reducible refine gate_dst (N := 43) rfl ?_); (try (refine gate_guard (by rfl) ?_; dsimp only)); refine Kd.R_lit k33 _ 33 ?hg (N := 43) ?hd (xs := ([(⟨2, 2, 12⟩ : S33)] : List (S33))) (inner := [.int .i64 2, .int .i64 2, .int .i64 12]) (ok := fun _ => True) (okp := fun _ => True) ?hr ?hp (fun _ hk => hk) trivial (Below.refl _ _) (Nat.le_refl _) (by simp) ?_; (case hd => rfl); (case hg => rfl); (case hr => first | (go_simp; done) | (go_simp; rfl)); (case hp => exact (Reps.c3 (show Kd.M k33 _ _ _ (⟨2, 2, 12⟩ : S33) [.int .i64 2, .int .i64 2, .int .i64 12] from (k33_mkM _ _ _ (⟨2, 2, 12⟩ : S33) )) (Reps.none _ _))); intro v188 w43 ho44 hb hg_ hnew_; clear hg_ hnew_; (first | rw [← Ny187.out] at ho44 | (simp only [Int.reduceToNat] at ho44; rw [← Ny187.out] at ho44)); have n0_ := Aside0.mk (Kd.R_elder' (by (with_reducible repeat (first | apply Kd.R_alloc | apply Kd.R_drewN | apply Kd.R_drew)); exact HO167.out) (Kd.R_base ho44) hb); have n1_ := Aside0.mk (Kd.R_elder' (by (with_reducible repeat (first | apply Kd.R_alloc | apply Kd.R_drewN | apply Kd.R_drew)); exact HO171.out) (Kd.R_base ho44) hb); have n2_ := Aside0.mk (Kd.R_elder' (by (with_reducible repeat (first | apply Kd.R_alloc | apply Kd.R_drewN | apply Kd.R_drew)); exact HO176.out) (Kd.R_base ho44) hb); have n3_ := Aside0.mk (Kd.R_elder' (by (with_reducible repeat (first | apply Kd.R_alloc | apply Kd.R_drewN | apply Kd.R_drew)); exact HO178.out) (Kd.R_base ho44) hb); have n4_ := Aside0.mk (Kd.R_elder' (by (with_reducible repeat (first | apply Kd.R_alloc | apply Kd.R_drewN | apply Kd.R_drew)); exact HO181.out) (Kd.R_base ho44) hb); have n5_ := Aside0.mk (Kd.R_elder' (by (with_reducible repeat (first | apply Kd.R_alloc | apply Kd.R_drewN | apply Kd.R_drew)); exact HO185.out) (Kd.R_base ho44) hb); have n6_ := Aside0.mk (Kd.R_lower (Kd.R_new' (Kd.R_new' (Kd.R_new' (Kd.R_new' (Kd.R_new' (Kd.R_new' ho44 (Kd.R_lt (by (with_reducible repeat (first | apply Kd.R_alloc | apply Kd.R_drewN | apply Kd.R_drew)); exact HO167.out))) (Kd.R_lt (by (with_reducible repeat (first | apply Kd.R_alloc | apply Kd.R_drewN | apply Kd.R_drew)); exact HO171.out))) (Kd.R_lt (by (with_reducible repeat (first | apply Kd.R_alloc | apply Kd.R_drewN | apply Kd.R_drew)); exact HO176.out))) (Kd.R_lt (by (with_reducible repeat (first | apply Kd.R_alloc | apply Kd.R_drewN | apply Kd.R_drew)); exact HO178.out))) (Kd.R_lt (by (with_reducible repeat (first | apply Kd.R_alloc | apply Kd.R_drewN | apply Kd.R_drew)); exact HO181.out))) (Kd.R_lt (by (with_reducible repeat (first | apply Kd.R_alloc | apply Kd.R_drewN | apply Kd.R_drew)); exact HO185.out))) (below_size (by repeat (first | (with_reducible first | exact HB.out | apply below_alloc | apply pw_below_drewN | apply below_drew1) | exact HB.out)))); have n7_ := Aside0.mk (below_step (by repeat (first | (with_reducible first | exact HB.out | apply below_alloc | apply pw_below_drewN | apply below_drew1) | exact HB.out)) hb); clear HO167; clear HO171; clear HO176; clear HO178; clear HO181; clear HO185; clear HB; have HO167 := n0_; have HO171 := n1_; have HO176 := n2_; have HO178 := n3_; have HO181 := n4_; have HO185 := n5_; have HO189 := n6_; have HB := n7_; clear n0_ n1_ n2_ n3_ n4_ n5_ n6_ n7_; clear hb ho44; obtain ⟨Ao45, co45, eo45⟩ := Kd.R_slice HO178.out; subst eo45; obtain ⟨Ao46, co46, eo46⟩ := Kd.R_slice HO189.out; subst eo46) | (go_at_call 15; (with_reducible refine (tegularef32_Same.calls k _ _ t173 _ _ y187 false _ ?side1 ?side2 ?side3 ?side4 A9.out).mono ?_); (case side1 => repeat (first | exact (Kd.R_reads' HO178.out).2.2 | (with_reducible refine Kd.C_alloc ?_ _) | (with_reducible refine Kd.C_drewN ?_ _) | (with_reducible refine Kd.C_drew ?_))); (case side2 => exact (Kd.R_reads' HO178.out).2.1); (case side3 => repeat (first | exact (Kd.R_reads' HO189.out).2.2 | (with_reducible refine Kd.C_alloc ?_ _) | (with_reducible refine Kd.C_drewN ?_ _) | (with_reducible refine Kd.C_drew ?_))); (case side4 => exact (Kd.R_reads' HO189.out).2.1); rintro e w' ⟨rfl, ⟨nd, rfl⟩⟩))
      go_ret
      exact ⟨by first | rfl | (simp [errW_none, errW_some] <;> rfl) | (simp [*, errW_none, errW_some] <;> rfl), by repeat (first | (with_reducible first | exact HB.out | apply below_alloc | apply pw_below_drewN | apply below_drew1) | exact HB.out)⟩
    ·
     replace c8 := Bool.eq_false_iff.mpr c8
     subst c8
     have H1 : (some false) = some r := by rw [if_neg (show ¬ (false = true) by decide)] at H; exact H
     clear H
     have H := H1
     clear H1
     obtain rfl := Option.some.inj H
     go_enter Try.func11, Try.ntmps11
     go_wp2_with (first | ((with_reducible refine gate_dst (N := 9) rfl ?_); (try (refine gate_guard (by rfl) ?_; dsimp only)); refine Kd.R_lit k33 _ 33 ?hg (N := 9) ?hd (xs := ([(⟨0, 4, 10⟩ : S33), (⟨4, 2, 14⟩ : S33)] : List (S33))) (inner := [.int .i64 0, .int .i64 4, .int .i64 10, .int .i64 4, .int .i64 2, .int .i64 14]) (ok := fun _ => True) (okp := fun _ => True) ?hr ?hp (fun _ hk => hk) trivial (Below.refl _ _) (Nat.le_refl _) (by simp) ?_; (case hd => rfl); (case hg => rfl); (case hr => first | (go_simp; done) | (go_simp; rfl)); (case hp => exact (Reps.c3 (show Kd.M k33 _ _ _ (⟨0, 4, 10⟩ : S33) [.int .i64 0, .int .i64 4, .int .i64 10] from (k33_mkM _ _ _ (⟨0, 4, 10⟩ : S33) )) (Reps.c3 (show Kd.M k33 _ _ _ (⟨4, 2, 14⟩ : S33) [.int .i64 4, .int .i64 2, .int .i64 14] from (k33_mkM _ _ _ (⟨4, 2, 14⟩ : S33) )) (Reps.none _ _)))); intro v166 w47 ho48 hb hg_ hnew_; clear hg_ hnew_; (first | rw [← Ny165.out] at ho48 | (simp only [Int.reduceToNat] at ho48; rw [← Ny165.out] at ho48)); have n0_ := Aside0.mk (Kd.R_lower ho48 (below_size (by repeat (first | (with_reducible first | exact HB.out | apply below_alloc | apply pw_below_drewN | apply below_drew1) | exact HB.out)))); have n1_ := Aside0.mk (below_step (by repeat (first | (with_reducible first | exact HB.out | apply below_alloc | apply pw_below_drewN | apply below_drew1) | exact HB.out)) hb); clear HB; have HO167 := n0_; have HB := n1_; clear n0_ n1_; clear hb ho48; obtain ⟨Ao49, co49, eo49⟩ := Kd.R_slice HO167.out; subst eo49) | ((with_reducible refine gate_callee (f := 17) rfl ?_); refine goesL_ (some 12) rfl rfl Try.func17 (by kernel_rfl) rfl #[.slice Ao49 y165.length co49] rfl (by (try simp only [List.map_toArray, List.map_cons, List.map_nil]); first | done | rfl | (simp only [List.length_drop, List.length_take]; rfl)) ?_; (with_reducible refine (extent_Join.calls k _ _ y165 t168 t169 _ ?side1 ?side2 A1.out).mono ?_); (case side1 => repeat (first | exact (Kd.R_reads' HO167.out).2.2 | (with_reducible refine Kd.C_alloc ?_ _) | (with_reducible refine Kd.C_drewN ?_ _) | (with_reducible refine Kd.C_drew ?_))); (case side2 => exact (Kd.R_reads' HO167.out).2.1); rintro e w50 ⟨v170, rfl, ho0, hb⟩; refine ⟨_, rfl, ?_⟩; have n0_ := Aside0.mk (Kd.R_elder' (by (with_reducible repeat (first | apply Kd.R_alloc | apply Kd.R_drewN | apply Kd.R_drew)); exact HO167.out) (Kd.R_base ho0) hb); have n1_ := Aside0.mk (Kd.R_lower (Kd.R_new' ho0 (Kd.R_lt (by (with_reducible repeat (first | apply Kd.R_alloc | apply Kd.R_drewN | apply Kd.R_drew)); exact HO167.out))) (below_size (by repeat (first | (with_reducible first | exact HB.out | apply below_alloc | apply pw_below_drewN | apply below_drew1) | exact HB.out)))); have n2_ := Aside0.mk (below_step (by repeat (first | (with_reducible first | exact HB.out | apply below_alloc | apply pw_below_drewN | apply below_drew1) | exact HB.out)) hb); clear HO167; clear HB; have HO167 := n0_; have HO171 := n1_; have HB := n2_; clear n0_ n1_ n2_; (try clear hb); (try clear hb2); (try clear hk); (try clear hi); (try clear ho0)) | ((with_reducible refine gate_callee (f := 13) rfl ?_); refine goesL_ (some 17) rfl rfl Try.func13 (by kernel_rfl) rfl #[.slice Ao49 y165.length co49, .int .i64 2, .int .i64 2] rfl (by (try simp only [List.map_toArray, List.map_cons, List.map_nil]); first | done | rfl | (simp only [List.length_drop, List.length_take]; rfl)) ?_; (with_reducible refine (extent_Cut.calls k _ _ y165 2 2 t172 t173 t174 _ ?side1 ?side2 A2.out).mono ?_); (case side1 => repeat (first | exact (Kd.R_reads' HO167.out).2.2 | (with_reducible refine Kd.C_alloc ?_ _) | (with_reducible refine Kd.C_drewN ?_ _) | (with_reducible refine Kd.C_drew ?_))); (case side2 => exact (Kd.R_reads' HO167.out).2.1); rintro e w51 ⟨v175, v177, rfl, ho0, ho1, hb⟩; refine ⟨_, rfl, ?_⟩; have n0_ := Aside0.mk (Kd.R_mono (Kd.R_told (Kd.R_told (Kd.R_old (by (with_reducible repeat (first | apply Kd.R_alloc | apply Kd.R_drewN | apply Kd.R_drew)); exact HO167.out) hb) (Kd.R_base ho0)) (Kd.R_base ho1)) (fun _ h_ => h_.1)); have n1_ := Aside0.mk (Kd.R_mono (Kd.R_told (Kd.R_told (Kd.R_old (by (with_reducible repeat (first | apply Kd.R_alloc | apply Kd.R_drewN | apply Kd.R_drew)); exact HO171.out) hb) (Kd.R_base ho0)) (Kd.R_base ho1)) (fun _ h_ => h_.1)); have n2_ := Aside0.mk (Kd.R_lower (Kd.R_new' (Kd.R_new' ho0 (Kd.R_lt (by (with_reducible repeat (first | apply Kd.R_alloc | apply Kd.R_drewN | apply Kd.R_drew)); exact HO167.out))) (Kd.R_lt (by (with_reducible repeat (first | apply Kd.R_alloc | apply Kd.R_drewN | apply Kd.R_drew)); exact HO171.out))) (below_size (by repeat (first | (with_reducible first | exact HB.out | apply below_alloc | apply pw_below_drewN | apply below_drew1) | exact HB.out)))); have n3_ := Aside0.mk (Kd.R_lower (Kd.R_new' (Kd.R_new' ho1 (Kd.R_lt (by (with_reducible repeat (first | apply Kd.R_alloc | apply Kd.R_drewN | apply Kd.R_drew)); exact HO167.out))) (Kd.R_lt (by (with_reducible repeat (first | apply Kd.R_alloc | apply Kd.R_drewN | apply Kd.R_drew)); exact HO171.out))) (below_size (by repeat (first | (with_reducible first | exact HB.out | apply below_alloc | apply pw_below_drewN | apply below_drew1) | exact HB.out)))); have n4_ := Aside0.mk (below_step (by repeat (first | (with_reducible first | exact HB.out | apply below_alloc | apply pw_below_drewN | apply below_drew1) | exact HB.out)) hb); clear HO167; clear HO171; clear HB; have HO167 := n0_; have HO171 := n1_; have HO176 := n2_; have HO178 := n3_; have HB := n4_; clear n0_ n1_ n2_ n3_ n4_; (try clear hb); (try clear hb2); (try clear hk); (try clear hi); (try clear ho0); (try clear ho1)) | ((with_reducible refine gate_dst (N := 30) rfl ?_); (try (refine gate_guard (by rfl) ?_; dsimp only)); refine Kd.R_lit k33 _ 33 ?hg (N := 30) ?hd (xs := ([(⟨0, 6, 10⟩ : S33)] : List (S33))) (inner := [.int .i64 0, .int .i64 6, .int .i64 10]) (ok := fun _ => True) (okp := fun _ => True) ?hr ?hp (fun _ hk => hk) trivial (Below.refl _ _) (Nat.le_refl _) (by simp) ?_; (case hd => rfl); (case hg => rfl); (case hr => first | (go_simp; done) | (go_simp; rfl)); (case hp => exact (Reps.c3 (show Kd.M k33 _ _ _ (⟨0, 6, 10⟩ : S33) [.int .i64 0, .int .i64 6, .int .i64 10] from (k33_mkM _ _ _ (⟨0, 6, 10⟩ : S33) )) (Reps.none _ _))); intro v180 w52 ho53 hb hg_ hnew_; clear hg_ hnew_; (first | rw [← Ny179.out] at ho53 | (simp only [Int.reduceToNat] at ho53; rw [← Ny179.out] at ho53)); have n0_ := Aside0.mk (Kd.R_elder' (by (with_reducible repeat (first | apply Kd.R_alloc | apply Kd.R_drewN | apply Kd.R_drew)); exact HO167.out) (Kd.R_base ho53) hb); have n1_ := Aside0.mk (Kd.R_elder' (by (with_reducible repeat (first | apply Kd.R_alloc | apply Kd.R_drewN | apply Kd.R_drew)); exact HO171.out) (Kd.R_base ho53) hb); have n2_ := Aside0.mk (Kd.R_elder' (by (with_reducible repeat (first | apply Kd.R_alloc | apply Kd.R_drewN | apply Kd.R_drew)); exact HO176.out) (Kd.R_base ho53) hb); have n3_ := Aside0.mk (Kd.R_elder' (by (with_reducible repeat (first | apply Kd.R_alloc | apply Kd.R_drewN | apply Kd.R_drew)); exact HO178.out) (Kd.R_base ho53) hb); have n4_ := Aside0.mk (Kd.R_lower (Kd.R_new' (Kd.R_new' (Kd.R_new' (Kd.R_new' ho53 (Kd.R_lt (by (with_reducible repeat (first | apply Kd.R_alloc | apply Kd.R_drewN | apply Kd.R_drew)); exact HO167.out))) (Kd.R_lt (by (with_reducible repeat (first | apply Kd.R_alloc | apply Kd.R_drewN | apply Kd.R_drew)); exact HO171.out))) (Kd.R_lt (by (with_reducible repeat (first | apply Kd.R_alloc | apply Kd.R_drewN | apply Kd.R_drew)); exact HO176.out))) (Kd.R_lt (by (with_reducible repeat (first | apply Kd.R_alloc | apply Kd.R_drewN | apply Kd.R_drew)); exact HO178.out))) (below_size (by repeat (first | (with_reducible first | exact HB.out | apply below_alloc | apply pw_below_drewN | apply below_drew1) | exact HB.out)))); have n5_ := Aside0.mk (below_step (by repeat (first | (with_reducible first | exact HB.out | apply below_alloc | apply pw_below_drewN | apply below_drew1) | exact HB.out)) hb); clear HO167; clear HO171; clear HO176; clear HO178; clear HB; have HO167 := n0_; have HO171 := n1_; have HO176 := n2_; have HO178 := n3_; have HO181 := n4_; have HB := n5_; clear n0_ n1_ n2_ n3_ n4_ n5_; clear hb ho53; obtain ⟨Ao54, co54, eo54⟩ := Kd.R_slice HO171.out; subst eo54; obtain ⟨Ao55, co55, eo55⟩ := Kd.R_slice HO181.out; subst eo55) | (go_at_call 15; (with_reducible refine (tegularef32_Same.calls k _ _ t168 _ _ y179 true _ ?side1 ?side2 ?side3 ?side4 A5.out).mono ?_); (case side1 => repeat (first | exact (Kd.R_reads' HO171.out).2.2 | (with_reducible refine Kd.C_alloc ?_ _) | (with_reducible refine Kd.C_drewN ?_ _) | (with_reducible refine Kd.C_drew ?_))); (case side2 => exact (Kd.R_reads' HO171.out).2.1); (case side3 => repeat (first | exact (Kd.R_reads' HO181.out).2.2 | (with_reducible refine Kd.C_alloc ?_ _) | (with_reducible refine Kd.C_drewN ?_ _) | (with_reducible refine Kd.C_drew ?_))); (case side4 => exact (Kd.R_reads' HO181.out).2.1); rintro e w' ⟨rfl, ⟨nd, rfl⟩⟩) | ((with_reducible refine gate_dst (N := 37) rfl ?_); (try (refine gate_guard (by rfl) ?_; dsimp only)); refine Kd.R_lit k33 _ 33 ?hg (N := 37) ?hd (xs := ([(⟨0, 2, 10⟩ : S33), (⟨4, 2, 14⟩ : S33)] : List (S33))) (inner := [.int .i64 0, .int .i64 2, .int .i64 10, .int .i64 4, .int .i64 2, .int .i64 14]) (ok := fun _ => True) (okp := fun _ => True) ?hr ?hp (fun _ hk => hk) trivial (Below.refl _ _) (Nat.le_refl _) (by simp) ?_; (case hd => rfl); (case hg => rfl); (case hr => first | (go_simp; done) | (go_simp; rfl)); (case hp => exact (Reps.c3 (show Kd.M k33 _ _ _ (⟨0, 2, 10⟩ : S33) [.int .i64 0, .int .i64 2, .int .i64 10] from (k33_mkM _ _ _ (⟨0, 2, 10⟩ : S33) )) (Reps.c3 (show Kd.M k33 _ _ _ (⟨4, 2, 14⟩ : S33) [.int .i64 4, .int .i64 2, .int .i64 14] from (k33_mkM _ _ _ (⟨4, 2, 14⟩ : S33) )) (Reps.none _ _)))); intro v184 w56 ho57 hb hg_ hnew_; clear hg_ hnew_; (first | rw [← Ny183.out] at ho57 | (simp only [Int.reduceToNat] at ho57; rw [← Ny183.out] at ho57)); have n0_ := Aside0.mk (Kd.R_elder' (by (with_reducible repeat (first | apply Kd.R_alloc | apply Kd.R_drewN | apply Kd.R_drew)); exact HO167.out) (Kd.R_base ho57) hb); have n1_ := Aside0.mk (Kd.R_elder' (by (with_reducible repeat (first | apply Kd.R_alloc | apply Kd.R_drewN | apply Kd.R_drew)); exact HO171.out) (Kd.R_base ho57) hb); have n2_ := Aside0.mk (Kd.R_elder' (by (with_reducible repeat (first | apply Kd.R_alloc | apply Kd.R_drewN | apply Kd.R_drew)); exact HO176.out) (Kd.R_base ho57) hb); have n3_ := Aside0.mk (Kd.R_elder' (by (with_reducible repeat (first | apply Kd.R_alloc | apply Kd.R_drewN | apply Kd.R_drew)); exact HO178.out) (Kd.R_base ho57) hb); have n4_ := Aside0.mk (Kd.R_elder' (by (with_reducible repeat (first | apply Kd.R_alloc | apply Kd.R_drewN | apply Kd.R_drew)); exact HO181.out) (Kd.R_base ho57) hb); have n5_ := Aside0.mk (Kd.R_lower (Kd.R_new' (Kd.R_new' (Kd.R_new' (Kd.R_new' (Kd.R_new' ho57 (Kd.R_lt (by (with_reducible repeat (first | apply Kd.R_alloc | apply Kd.R_drewN | apply Kd.R_drew)); exact HO167.out))) (Kd.R_lt (by (with_reducible repeat (first | apply Kd.R_alloc | apply Kd.R_drewN | apply Kd.R_drew)); exact HO171.out))) (Kd.R_lt (by (with_reducible repeat (first | apply Kd.R_alloc | apply Kd.R_drewN | apply Kd.R_drew)); exact HO176.out))) (Kd.R_lt (by (with_reducible repeat (first | apply Kd.R_alloc | apply Kd.R_drewN | apply Kd.R_drew)); exact HO178.out))) (Kd.R_lt (by (with_reducible repeat (first | apply Kd.R_alloc | apply Kd.R_drewN | apply Kd.R_drew)); exact HO181.out))) (below_size (by repeat (first | (with_reducible first | exact HB.out | apply below_alloc | apply pw_below_drewN | apply below_drew1) | exact HB.out)))); have n6_ := Aside0.mk (below_step (by repeat (first | (with_reducible first | exact HB.out | apply below_alloc | apply pw_below_drewN | apply below_drew1) | exact HB.out)) hb); clear HO167; clear HO171; clear HO176; clear HO178; clear HO181; clear HB; have HO167 := n0_; have HO171 := n1_; have HO176 := n2_; have HO178 := n3_; have HO181 := n4_; have HO185 := n5_; have HB := n6_; clear n0_ n1_ n2_ n3_ n4_ n5_ n6_; clear hb ho57; obtain ⟨Ao58, co58, eo58⟩ := Kd.R_slice HO176.out; subst eo58; obtain ⟨Ao59, co59, eo59⟩ := Kd.R_slice HO185.out; subst eo59) | (go_at_call 15; (with_reducible refine (tegularef32_Same.calls k _ _ t172 _ _ y183 false _ ?side1 ?side2 ?side3 ?side4 A7.out).mono ?_); (case side1 => repeat (first | exact (Kd.R_reads' HO176.out).2.2 | (with_reducible refine Kd.C_alloc ?_ _) | (with_reducible refine Kd.C_drewN ?_ _) | (with_reducible refine Kd.C_drew ?_))); (case side2 => exact (Kd.R_reads' HO176.out).2.1); (case side3 => repeat (first | exact (Kd.R_reads' HO185.out).2.2 | (with_reducible refine Kd.C_alloc ?_ _) | (with_reducible refine Kd.C_drewN ?_ _) | (with_reducible refine Kd.C_drew ?_))); (case side4 => exact (Kd.R_reads' HO185.out).2.1); rintro e w' ⟨rfl, ⟨nd, rfl⟩⟩))
     go_ret
     exact ⟨by first | rfl | (simp [errW_none, errW_some] <;> rfl) | (simp [*, errW_none, errW_some] <;> rfl), by repeat (first | (with_reducible first | exact HB.out | apply below_alloc | apply pw_below_drewN | apply below_drew1) | exact HB.out)⟩
   ·
    replace c6 := Bool.eq_false_iff.mpr c6
    subst c6
    have H1 : (some false) = some r := by rw [if_neg (show ¬ (false = true) by decide)] at H; exact H
    clear H
    have H := H1
    clear H1
    obtain rfl := Option.some.inj H
    go_enter Try.func11, Try.ntmps11
    go_wp2_with (first | ((with_reducible refine gate_dst (N := 9) rfl ?_); (try (refine gate_guard (by rfl) ?_; dsimp only)); refine Kd.R_lit k33 _ 33 ?hg (N := 9) ?hd (xs := ([(⟨0, 4, 10⟩ : S33), (⟨4, 2, 14⟩ : S33)] : List (S33))) (inner := [.int .i64 0, .int .i64 4, .int .i64 10, .int .i64 4, .int .i64 2, .int .i64 14]) (ok := fun _ => True) (okp := fun _ => True) ?hr ?hp (fun _ hk => hk) trivial (Below.refl _ _) (Nat.le_refl _) (by simp) ?_; (case hd => rfl); (case hg => rfl); (case hr => first | (go_simp; done) | (go_simp; rfl)); (case hp => exact (Reps.c3 (show Kd.M k33 _ _ _ (⟨0, 4, 10⟩ : S33) [.int .i64 0, .int .i64 4, .int .i64 10] from (k33_mkM _ _ _ (⟨0, 4, 10⟩ : S33) )) (Reps.c3 (show Kd.M k33 _ _ _ (⟨4, 2, 14⟩ : S33) [.int .i64 4, .int .i64 2, .int .i64 14] from (k33_mkM _ _ _ (⟨4, 2, 14⟩ : S33) )) (Reps.none _ _)))); intro v166 w60 ho61 hb hg_ hnew_; clear hg_ hnew_; (first | rw [← Ny165.out] at ho61 | (simp only [Int.reduceToNat] at ho61; rw [← Ny165.out] at ho61)); have n0_ := Aside0.mk (Kd.R_lower ho61 (below_size (by repeat (first | (with_reducible first | exact HB.out | apply below_alloc | apply pw_below_drewN | apply below_drew1) | exact HB.out)))); have n1_ := Aside0.mk (below_step (by repeat (first | (with_reducible first | exact HB.out | apply below_alloc | apply pw_below_drewN | apply below_drew1) | exact HB.out)) hb); clear HB; have HO167 := n0_; have HB := n1_; clear n0_ n1_; clear hb ho61; obtain ⟨Ao62, co62, eo62⟩ := Kd.R_slice HO167.out; subst eo62) | ((with_reducible refine gate_callee (f := 17) rfl ?_); refine goesL_ (some 12) rfl rfl Try.func17 (by kernel_rfl) rfl #[.slice Ao62 y165.length co62] rfl (by (try simp only [List.map_toArray, List.map_cons, List.map_nil]); first | done | rfl | (simp only [List.length_drop, List.length_take]; rfl)) ?_; (with_reducible refine (extent_Join.calls k _ _ y165 t168 t169 _ ?side1 ?side2 A1.out).mono ?_); (case side1 => repeat (first | exact (Kd.R_reads' HO167.out).2.2 | (with_reducible refine Kd.C_alloc ?_ _) | (with_reducible refine Kd.C_drewN ?_ _) | (with_reducible refine Kd.C_drew ?_))); (case side2 => exact (Kd.R_reads' HO167.out).2.1); rintro e w63 ⟨v170, rfl, ho0, hb⟩; refine ⟨_, rfl, ?_⟩; have n0_ := Aside0.mk (Kd.R_elder' (by (with_reducible repeat (first | apply Kd.R_alloc | apply Kd.R_drewN | apply Kd.R_drew)); exact HO167.out) (Kd.R_base ho0) hb); have n1_ := Aside0.mk (Kd.R_lower (Kd.R_new' ho0 (Kd.R_lt (by (with_reducible repeat (first | apply Kd.R_alloc | apply Kd.R_drewN | apply Kd.R_drew)); exact HO167.out))) (below_size (by repeat (first | (with_reducible first | exact HB.out | apply below_alloc | apply pw_below_drewN | apply below_drew1) | exact HB.out)))); have n2_ := Aside0.mk (below_step (by repeat (first | (with_reducible first | exact HB.out | apply below_alloc | apply pw_below_drewN | apply below_drew1) | exact HB.out)) hb); clear HO167; clear HB; have HO167 := n0_; have HO171 := n1_; have HB := n2_; clear n0_ n1_ n2_; (try clear hb); (try clear hb2); (try clear hk); (try clear hi); (try clear ho0)) | ((with_reducible refine gate_callee (f := 13) rfl ?_); refine goesL_ (some 17) rfl rfl Try.func13 (by kernel_rfl) rfl #[.slice Ao62 y165.length co62, .int .i64 2, .int .i64 2] rfl (by (try simp only [List.map_toArray, List.map_cons, List.map_nil]); first | done | rfl | (simp only [List.length_drop, List.length_take]; rfl)) ?_; (with_reducible refine (extent_Cut.calls k _ _ y165 2 2 t172 t173 t174 _ ?side1 ?side2 A2.out).mono ?_); (case side1 => repeat (first | exact (Kd.R_reads' HO167.out).2.2 | (with_reducible refine Kd.C_alloc ?_ _) | (with_reducible refine Kd.C_drewN ?_ _) | (with_reducible refine Kd.C_drew ?_))); (case side2 => exact (Kd.R_reads' HO167.out).2.1); rintro e w64 ⟨v175, v177, rfl, ho0, ho1, hb⟩; refine ⟨_, rfl, ?_⟩; have n0_ := Aside0.mk (Kd.R_mono (Kd.R_told (Kd.R_told (Kd.R_old (by (with_reducible repeat (first | apply Kd.R_alloc | apply Kd.R_drewN | apply Kd.R_drew)); exact HO167.out) hb) (Kd.R_base ho0)) (Kd.R_base ho1)) (fun _ h_ => h_.1)); have n1_ := Aside0.mk (Kd.R_mono (Kd.R_told (Kd.R_told (Kd.R_old (by (with_reducible repeat (first | apply Kd.R_alloc | apply Kd.R_drewN | apply Kd.R_drew)); exact HO171.out) hb) (Kd.R_base ho0)) (Kd.R_base ho1)) (fun _ h_ => h_.1)); have n2_ := Aside0.mk (Kd.R_lower (Kd.R_new' (Kd.R_new' ho0 (Kd.R_lt (by (with_reducible repeat (first | apply Kd.R_alloc | apply Kd.R_drewN | apply Kd.R_drew)); exact HO167.out))) (Kd.R_lt (by (with_reducible repeat (first | apply Kd.R_alloc | apply Kd.R_drewN | apply Kd.R_drew)); exact HO171.out))) (below_size (by repeat (first | (with_reducible first | exact HB.out | apply below_alloc | apply pw_below_drewN | apply below_drew1) | exact HB.out)))); have n3_ := Aside0.mk (Kd.R_lower (Kd.R_new' (Kd.R_new' ho1 (Kd.R_lt (by (with_reducible repeat (first | apply Kd.R_alloc | apply Kd.R_drewN | apply Kd.R_drew)); exact HO167.out))) (Kd.R_lt (by (with_reducible repeat (first | apply Kd.R_alloc | apply Kd.R_drewN | apply Kd.R_drew)); exact HO171.out))) (below_size (by repeat (first | (with_reducible first | exact HB.out | apply below_alloc | apply pw_below_drewN | apply below_drew1) | exact HB.out)))); have n4_ := Aside0.mk (below_step (by repeat (first | (with_reducible first | exact HB.out | apply below_alloc | apply pw_below_drewN | apply below_drew1) | exact HB.out)) hb); clear HO167; clear HO171; clear HB; have HO167 := n0_; have HO171 := n1_; have HO176 := n2_; have HO178 := n3_; have HB := n4_; clear n0_ n1_ n2_ n3_ n4_; (try clear hb); (try clear hb2); (try clear hk); (try clear hi); (try clear ho0); (try clear ho1)) | ((with_reducible refine gate_dst (N := 30) rfl ?_); (try (refine gate_guard (by rfl) ?_; dsimp only)); refine Kd.R_lit k33 _ 33 ?hg (N := 30) ?hd (xs := ([(⟨0, 6, 10⟩ : S33)] : List (S33))) (inner := [.int .i64 0, .int .i64 6, .int .i64 10]) (ok := fun _ => True) (okp := fun _ => True) ?hr ?hp (fun _ hk => hk) trivial (Below.refl _ _) (Nat.le_refl _) (by simp) ?_; (case hd => rfl); (case hg => rfl); (case hr => first | (go_simp; done) | (go_simp; rfl)); (case hp => exact (Reps.c3 (show Kd.M k33 _ _ _ (⟨0, 6, 10⟩ : S33) [.int .i64 0, .int .i64 6, .int .i64 10] from (k33_mkM _ _ _ (⟨0, 6, 10⟩ : S33) )) (Reps.none _ _))); intro v180 w65 ho66 hb hg_ hnew_; clear hg_ hnew_; (first | rw [← Ny179.out] at ho66 | (simp only [Int.reduceToNat] at ho66; rw [← Ny179.out] at ho66)); have n0_ := Aside0.mk (Kd.R_elder' (by (with_reducible repeat (first | apply Kd.R_alloc | apply Kd.R_drewN | apply Kd.R_drew)); exact HO167.out) (Kd.R_base ho66) hb); have n1_ := Aside0.mk (Kd.R_elder' (by (with_reducible repeat (first | apply Kd.R_alloc | apply Kd.R_drewN | apply Kd.R_drew)); exact HO171.out) (Kd.R_base ho66) hb); have n2_ := Aside0.mk (Kd.R_elder' (by (with_reducible repeat (first | apply Kd.R_alloc | apply Kd.R_drewN | apply Kd.R_drew)); exact HO176.out) (Kd.R_base ho66) hb); have n3_ := Aside0.mk (Kd.R_elder' (by (with_reducible repeat (first | apply Kd.R_alloc | apply Kd.R_drewN | apply Kd.R_drew)); exact HO178.out) (Kd.R_base ho66) hb); have n4_ := Aside0.mk (Kd.R_lower (Kd.R_new' (Kd.R_new' (Kd.R_new' (Kd.R_new' ho66 (Kd.R_lt (by (with_reducible repeat (first | apply Kd.R_alloc | apply Kd.R_drewN | apply Kd.R_drew)); exact HO167.out))) (Kd.R_lt (by (with_reducible repeat (first | apply Kd.R_alloc | apply Kd.R_drewN | apply Kd.R_drew)); exact HO171.out))) (Kd.R_lt (by (with_reducible repeat (first | apply Kd.R_alloc | apply Kd.R_drewN | apply Kd.R_drew)); exact HO176.out))) (Kd.R_lt (by (with_reducible repeat (first | apply Kd.R_alloc | apply Kd.R_drewN | apply Kd.R_drew)); exact HO178.out))) (below_size (by repeat (first | (with_reducible first | exact HB.out | apply below_alloc | apply pw_below_drewN | apply below_drew1) | exact HB.out)))); have n5_ := Aside0.mk (below_step (by repeat (first | (with_reducible first | exact HB.out | apply below_alloc | apply pw_below_drewN | apply below_drew1) | exact HB.out)) hb); clear HO167; clear HO171; clear HO176; clear HO178; clear HB; have HO167 := n0_; have HO171 := n1_; have HO176 := n2_; have HO178 := n3_; have HO181 := n4_; have HB := n5_; clear n0_ n1_ n2_ n3_ n4_ n5_; clear hb ho66; obtain ⟨Ao67, co67, eo67⟩ := Kd.R_slice HO171.out; subst eo67; obtain ⟨Ao68, co68, eo68⟩ := Kd.R_slice HO181.out; subst eo68) | (go_at_call 15; (with_reducible refine (tegularef32_Same.calls k _ _ t168 _ _ y179 false _ ?side1 ?side2 ?side3 ?side4 A5.out).mono ?_); (case side1 => repeat (first | exact (Kd.R_reads' HO171.out).2.2 | (with_reducible refine Kd.C_alloc ?_ _) | (with_reducible refine Kd.C_drewN ?_ _) | (with_reducible refine Kd.C_drew ?_))); (case side2 => exact (Kd.R_reads' HO171.out).2.1); (case side3 => repeat (first | exact (Kd.R_reads' HO181.out).2.2 | (with_reducible refine Kd.C_alloc ?_ _) | (with_reducible refine Kd.C_drewN ?_ _) | (with_reducible refine Kd.C_drew ?_))); (case side4 => exact (Kd.R_reads' HO181.out).2.1); rintro e w' ⟨rfl, ⟨nd, rfl⟩⟩))
    go_ret
    exact ⟨by first | rfl | (simp [errW_none, errW_some] <;> rfl) | (simp [*, errW_none, errW_some] <;> rfl), by repeat (first | (with_reducible first | exact HB.out | apply below_alloc | apply pw_below_drewN | apply below_drew1) | exact HB.out)⟩
  ·
   rw [if_neg c4] at H
   have c4b0 : (t174 == 0) = false := beq_eq_false_iff_ne.mpr c4
   have c4b1 : (t174 != 0) = true := bne_iff_ne.mpr c4
   obtain rfl := Option.some.inj H
   go_enter Try.func11, Try.ntmps11
   go_wp2_with (first | ((with_reducible refine gate_dst (N := 9) rfl ?_); (try (refine gate_guard (by rfl) ?_; dsimp only)); refine Kd.R_lit k33 _ 33 ?hg (N := 9) ?hd (xs := ([(⟨0, 4, 10⟩ : S33), (⟨4, 2, 14⟩ : S33)] : List (S33))) (inner := [.int .i64 0, .int .i64 4, .int .i64 10, .int .i64 4, .int .i64 2, .int .i64 14]) (ok := fun _ => True) (okp := fun _ => True) ?hr ?hp (fun _ hk => hk) trivial (Below.refl _ _) (Nat.le_refl _) (by simp) ?_; (case hd => rfl); (case hg => rfl); (case hr => first | (go_simp; done) | (go_simp; rfl)); (case hp => exact (Reps.c3 (show Kd.M k33 _ _ _ (⟨0, 4, 10⟩ : S33) [.int .i64 0, .int .i64 4, .int .i64 10] from (k33_mkM _ _ _ (⟨0, 4, 10⟩ : S33) )) (Reps.c3 (show Kd.M k33 _ _ _ (⟨4, 2, 14⟩ : S33) [.int .i64 4, .int .i64 2, .int .i64 14] from (k33_mkM _ _ _ (⟨4, 2, 14⟩ : S33) )) (Reps.none _ _)))); intro v166 w69 ho70 hb hg_ hnew_; clear hg_ hnew_; (first | rw [← Ny165.out] at ho70 | (simp only [Int.reduceToNat] at ho70; rw [← Ny165.out] at ho70)); have n0_ := Aside0.mk (Kd.R_lower ho70 (below_size (by repeat (first | (with_reducible first | exact HB.out | apply below_alloc | apply pw_below_drewN | apply below_drew1) | exact HB.out)))); have n1_ := Aside0.mk (below_step (by repeat (first | (with_reducible first | exact HB.out | apply below_alloc | apply pw_below_drewN | apply below_drew1) | exact HB.out)) hb); clear HB; have HO167 := n0_; have HB := n1_; clear n0_ n1_; clear hb ho70; obtain ⟨Ao71, co71, eo71⟩ := Kd.R_slice HO167.out; subst eo71) | ((with_reducible refine gate_callee (f := 17) rfl ?_); refine goesL_ (some 12) rfl rfl Try.func17 (by kernel_rfl) rfl #[.slice Ao71 y165.length co71] rfl (by (try simp only [List.map_toArray, List.map_cons, List.map_nil]); first | done | rfl | (simp only [List.length_drop, List.length_take]; rfl)) ?_; (with_reducible refine (extent_Join.calls k _ _ y165 t168 t169 _ ?side1 ?side2 A1.out).mono ?_); (case side1 => repeat (first | exact (Kd.R_reads' HO167.out).2.2 | (with_reducible refine Kd.C_alloc ?_ _) | (with_reducible refine Kd.C_drewN ?_ _) | (with_reducible refine Kd.C_drew ?_))); (case side2 => exact (Kd.R_reads' HO167.out).2.1); rintro e w72 ⟨v170, rfl, ho0, hb⟩; refine ⟨_, rfl, ?_⟩; have n0_ := Aside0.mk (Kd.R_elder' (by (with_reducible repeat (first | apply Kd.R_alloc | apply Kd.R_drewN | apply Kd.R_drew)); exact HO167.out) (Kd.R_base ho0) hb); have n1_ := Aside0.mk (Kd.R_lower (Kd.R_new' ho0 (Kd.R_lt (by (with_reducible repeat (first | apply Kd.R_alloc | apply Kd.R_drewN | apply Kd.R_drew)); exact HO167.out))) (below_size (by repeat (first | (with_reducible first | exact HB.out | apply below_alloc | apply pw_below_drewN | apply below_drew1) | exact HB.out)))); have n2_ := Aside0.mk (below_step (by repeat (first | (with_reducible first | exact HB.out | apply below_alloc | apply pw_below_drewN | apply below_drew1) | exact HB.out)) hb); clear HO167; clear HB; have HO167 := n0_; have HO171 := n1_; have HB := n2_; clear n0_ n1_ n2_; (try clear hb); (try clear hb2); (try clear hk); (try clear hi); (try clear ho0)) | ((with_reducible refine gate_callee (f := 13) rfl ?_); refine goesL_ (some 17) rfl rfl Try.func13 (by kernel_rfl) rfl #[.slice Ao71 y165.length co71, .int .i64 2, .int .i64 2] rfl (by (try simp only [List.map_toArray, List.map_cons, List.map_nil]); first | done | rfl | (simp only [List.length_drop, List.length_take]; rfl)) ?_; (with_reducible refine (extent_Cut.calls k _ _ y165 2 2 t172 t173 t174 _ ?side1 ?side2 A2.out).mono ?_); (case side1 => repeat (first | exact (Kd.R_reads' HO167.out).2.2 | (with_reducible refine Kd.C_alloc ?_ _) | (with_reducible refine Kd.C_drewN ?_ _) | (with_reducible refine Kd.C_drew ?_))); (case side2 => exact (Kd.R_reads' HO167.out).2.1); rintro e w73 ⟨v175, v177, rfl, ho0, ho1, hb⟩; refine ⟨_, rfl, ?_⟩; have n0_ := Aside0.mk (Kd.R_mono (Kd.R_told (Kd.R_told (Kd.R_old (by (with_reducible repeat (first | apply Kd.R_alloc | apply Kd.R_drewN | apply Kd.R_drew)); exact HO167.out) hb) (Kd.R_base ho0)) (Kd.R_base ho1)) (fun _ h_ => h_.1)); have n1_ := Aside0.mk (Kd.R_mono (Kd.R_told (Kd.R_told (Kd.R_old (by (with_reducible repeat (first | apply Kd.R_alloc | apply Kd.R_drewN | apply Kd.R_drew)); exact HO171.out) hb) (Kd.R_base ho0)) (Kd.R_base ho1)) (fun _ h_ => h_.1)); have n2_ := Aside0.mk (Kd.R_lower (Kd.R_new' (Kd.R_new' ho0 (Kd.R_lt (by (with_reducible repeat (first | apply Kd.R_alloc | apply Kd.R_drewN | apply Kd.R_drew)); exact HO167.out))) (Kd.R_lt (by (with_reducible repeat (first | apply Kd.R_alloc | apply Kd.R_drewN | apply Kd.R_drew)); exact HO171.out))) (below_size (by repeat (first | (with_reducible first | exact HB.out | apply below_alloc | apply pw_below_drewN | apply below_drew1) | exact HB.out)))); have n3_ := Aside0.mk (Kd.R_lower (Kd.R_new' (Kd.R_new' ho1 (Kd.R_lt (by (with_reducible repeat (first | apply Kd.R_alloc | apply Kd.R_drewN | apply Kd.R_drew)); exact HO167.out))) (Kd.R_lt (by (with_reducible repeat (first | apply Kd.R_alloc | apply Kd.R_drewN | apply Kd.R_drew)); exact HO171.out))) (below_size (by repeat (first | (with_reducible first | exact HB.out | apply below_alloc | apply pw_below_drewN | apply below_drew1) | exact HB.out)))); have n4_ := Aside0.mk (below_step (by repeat (first | (with_reducible first | exact HB.out | apply below_alloc | apply pw_below_drewN | apply below_drew1) | exact HB.out)) hb); clear HO167; clear HO171; clear HB; have HO167 := n0_; have HO171 := n1_; have HO176 := n2_; have HO178 := n3_; have HB := n4_; clear n0_ n1_ n2_ n3_ n4_; (try clear hb); (try clear hb2); (try clear hk); (try clear hi); (try clear ho0); (try clear ho1)))
   go_ret
   exact ⟨by first | rfl | (simp [errW_none, errW_some] <;> rfl) | (simp [*, errW_none, errW_some] <;> rfl), by repeat (first | (with_reducible first | exact HB.out | apply below_alloc | apply pw_below_drewN | apply below_drew1) | exact HB.out)⟩
 ·
  rw [if_neg c3] at H
  have c3b0 : (t169 == 0) = false := beq_eq_false_iff_ne.mpr c3
  have c3b1 : (t169 != 0) = true := bne_iff_ne.mpr c3
  obtain rfl := Option.some.inj H
  go_enter Try.func11, Try.ntmps11
  go_wp2_with (first | ((with_reducible refine gate_dst (N := 9) rfl ?_); (try (refine gate_guard (by rfl) ?_; dsimp only)); refine Kd.R_lit k33 _ 33 ?hg (N := 9) ?hd (xs := ([(⟨0, 4, 10⟩ : S33), (⟨4, 2, 14⟩ : S33)] : List (S33))) (inner := [.int .i64 0, .int .i64 4, .int .i64 10, .int .i64 4, .int .i64 2, .int .i64 14]) (ok := fun _ => True) (okp := fun _ => True) ?hr ?hp (fun _ hk => hk) trivial (Below.refl _ _) (Nat.le_refl _) (by simp) ?_; (case hd => rfl); (case hg => rfl); (case hr => first | (go_simp; done) | (go_simp; rfl)); (case hp => exact (Reps.c3 (show Kd.M k33 _ _ _ (⟨0, 4, 10⟩ : S33) [.int .i64 0, .int .i64 4, .int .i64 10] from (k33_mkM _ _ _ (⟨0, 4, 10⟩ : S33) )) (Reps.c3 (show Kd.M k33 _ _ _ (⟨4, 2, 14⟩ : S33) [.int .i64 4, .int .i64 2, .int .i64 14] from (k33_mkM _ _ _ (⟨4, 2, 14⟩ : S33) )) (Reps.none _ _)))); intro v166 w74 ho75 hb hg_ hnew_; clear hg_ hnew_; (first | rw [← Ny165.out] at ho75 | (simp only [Int.reduceToNat] at ho75; rw [← Ny165.out] at ho75)); have n0_ := Aside0.mk (Kd.R_lower ho75 (below_size (by repeat (first | (with_reducible first | exact HB.out | apply below_alloc | apply pw_below_drewN | apply below_drew1) | exact HB.out)))); have n1_ := Aside0.mk (below_step (by repeat (first | (with_reducible first | exact HB.out | apply below_alloc | apply pw_below_drewN | apply below_drew1) | exact HB.out)) hb); clear HB; have HO167 := n0_; have HB := n1_; clear n0_ n1_; clear hb ho75; obtain ⟨Ao76, co76, eo76⟩ := Kd.R_slice HO167.out; subst eo76) | ((with_reducible refine gate_callee (f := 17) rfl ?_); refine goesL_ (some 12) rfl rfl Try.func17 (by kernel_rfl) rfl #[.slice Ao76 y165.length co76] rfl (by (try simp only [List.map_toArray, List.map_cons, List.map_nil]); first | done | rfl | (simp only [List.length_drop, List.length_take]; rfl)) ?_; (with_reducible refine (extent_Join.calls k _ _ y165 t168 t169 _ ?side1 ?side2 A1.out).mono ?_); (case side1 => repeat (first | exact (Kd.R_reads' HO167.out).2.2 | (with_reducible refine Kd.C_alloc ?_ _) | (with_reducible refine Kd.C_drewN ?_ _) | (with_reducible refine Kd.C_drew ?_))); (case side2 => exact (Kd.R_reads' HO167.out).2.1); rintro e w77 ⟨v170, rfl, ho0, hb⟩; refine ⟨_, rfl, ?_⟩; have n0_ := Aside0.mk (Kd.R_elder' (by (with_reducible repeat (first | apply Kd.R_alloc | apply Kd.R_drewN | apply Kd.R_drew)); exact HO167.out) (Kd.R_base ho0) hb); have n1_ := Aside0.mk (Kd.R_lower (Kd.R_new' ho0 (Kd.R_lt (by (with_reducible repeat (first | apply Kd.R_alloc | apply Kd.R_drewN | apply Kd.R_drew)); exact HO167.out))) (below_size (by repeat (first | (with_reducible first | exact HB.out | apply below_alloc | apply pw_below_drewN | apply below_drew1) | exact HB.out)))); have n2_ := Aside0.mk (below_step (by repeat (first | (with_reducible first | exact HB.out | apply below_alloc | apply pw_below_drewN | apply below_drew1) | exact HB.out)) hb); clear HO167; clear HB; have HO167 := n0_; have HO171 := n1_; have HB := n2_; clear n0_ n1_ n2_; (try clear hb); (try clear hb2); (try clear hk); (try clear hi); (try clear ho0)) | ((with_reducible refine gate_callee (f := 13) rfl ?_); refine goesL_ (some 17) rfl rfl Try.func13 (by kernel_rfl) rfl #[.slice Ao76 y165.length co76, .int .i64 2, .int .i64 2] rfl (by (try simp only [List.map_toArray, List.map_cons, List.map_nil]); first | done | rfl | (simp only [List.length_drop, List.length_take]; rfl)) ?_; (with_reducible refine (extent_Cut.calls k _ _ y165 2 2 t172 t173 t174 _ ?side1 ?side2 A2.out).mono ?_); (case side1 => repeat (first | exact (Kd.R_reads' HO167.out).2.2 | (with_reducible refine Kd.C_alloc ?_ _) | (with_reducible refine Kd.C_drewN ?_ _) | (with_reducible refine Kd.C_drew ?_))); (case side2 => exact (Kd.R_reads' HO167.out).2.1); rintro e w78 ⟨v175, v177, rfl, ho0, ho1, hb⟩; refine ⟨_, rfl, ?_⟩; have n0_ := Aside0.mk (Kd.R_mono (Kd.R_told (Kd.R_told (Kd.R_old (by (with_reducible repeat (first | apply Kd.R_alloc | apply Kd.R_drewN | apply Kd.R_drew)); exact HO167.out) hb) (Kd.R_base ho0)) (Kd.R_base ho1)) (fun _ h_ => h_.1)); have n1_ := Aside0.mk (Kd.R_mono (Kd.R_told (Kd.R_told (Kd.R_old (by (with_reducible repeat (first | apply Kd.R_alloc | apply Kd.R_drewN | apply Kd.R_drew)); exact HO171.out) hb) (Kd.R_base ho0)) (Kd.R_base ho1)) (fun _ h_ => h_.1)); have n2_ := Aside0.mk (Kd.R_lower (Kd.R_new' (Kd.R_new' ho0 (Kd.R_lt (by (with_reducible repeat (first | apply Kd.R_alloc | apply Kd.R_drewN | apply Kd.R_drew)); exact HO167.out))) (Kd.R_lt (by (with_reducible repeat (first | apply Kd.R_alloc | apply Kd.R_drewN | apply Kd.R_drew)); exact HO171.out))) (below_size (by repeat (first | (with_reducible first | exact HB.out | apply below_alloc | apply pw_below_drewN | apply below_drew1) | exact HB.out)))); have n3_ := Aside0.mk (Kd.R_lower (Kd.R_new' (Kd.R_new' ho1 (Kd.R_lt (by (with_reducible repeat (first | apply Kd.R_alloc | apply Kd.R_drewN | apply Kd.R_drew)); exact HO167.out))) (Kd.R_lt (by (with_reducible repeat (first | apply Kd.R_alloc | apply Kd.R_drewN | apply Kd.R_drew)); exact HO171.out))) (below_size (by repeat (first | (with_reducible first | exact HB.out | apply below_alloc | apply pw_below_drewN | apply below_drew1) | exact HB.out)))); have n4_ := Aside0.mk (below_step (by repeat (first | (with_reducible first | exact HB.out | apply below_alloc | apply pw_below_drewN | apply below_drew1) | exact HB.out)) hb); clear HO167; clear HO171; clear HB; have HO167 := n0_; have HO171 := n1_; have HO176 := n2_; have HO178 := n3_; have HB := n4_; clear n0_ n1_ n2_ n3_ n4_; (try clear hb); (try clear hb2); (try clear hk); (try clear hi); (try clear ho0); (try clear ho1)))
  go_ret
  exact ⟨by first | rfl | (simp [errW_none, errW_some] <;> rfl) | (simp [*, errW_none, errW_some] <;> rfl), by repeat (first | (with_reducible first | exact HB.out | apply below_alloc | apply pw_below_drewN | apply below_drew1) | exact HB.out)⟩

/-! ### tegulalaw32_copied: function 12 -/
def tegulalaw32_copied.f (l0 : List (S33)) : Option ((List (S33))) := (some (([] : List (S33)) : List (S33))).bind fun y192 => (if y192.length + l0.length < 5864062014805 then (some (y192 ++ l0)) else (none))
set_option maxHeartbeats 8000000 in
set_option maxRecDepth 100000 in
theorem tegulalaw32_copied.calls (A0 : Option Addr) (c0 : Nat) (l0 : List (S33)) (r : List (S33)) (w : World) (hr0 : Kd.C k33 w A0 l0.length l0) (hc0 : l0.length ≤ c0) (h : tegulalaw32_copied.f l0 = some r) :
  Calls Try.prog 12 #[.slice A0 l0.length c0] w fun e w' => ∃ v0_ : Value, e = .returned (v0_) ∧ Kd.R k33 33 w' w.heap.size (fun _ => True) v0_ r ∧ Below w.heap.size w w' := by
 have HR0 := Aside0.mk hr0
 have HC0 := Aside0.mk hc0
 clear hr0 hc0
 have HB := Aside0.mk (Below.refl w.heap.size w)
 have H : ((some (([] : List (S33)) : List (S33))).bind fun y192 => (if y192.length + l0.length < 5864062014805 then (some (y192 ++ l0)) else (none))) = some r := h
 clear h
 obtain ⟨y192, hy192⟩ : ∃ y_ : List (S33), y_ = (([] : List (S33))) := ⟨_, rfl⟩
 replace H : (if y192.length + l0.length < 5864062014805 then (some (y192 ++ l0)) else (none)) = some r := by first | (rw [hy192]; with_reducible exact H) | (have H2_ := (Option.bind_some _ _).symm.trans H; rw [hy192]; with_reducible exact H2_) | (have H2_ := (Option.bind_some _ _).symm.trans H; with_reducible exact H2_) | with_reducible exact H | (rw [hy192]; exact H) | exact H
 have Ny192 := Aside0.mk hy192
 clear hy192
 by_cases c2 : y192.length + l0.length < 5864062014805
 ·
  rw [if_pos c2] at H
  have LMc2 := Aside0.mk c2
  clear c2
  obtain ⟨y195, hy195⟩ : ∃ y_ : List (S33), y_ = (y192 ++ l0) := ⟨_, rfl⟩
  replace H : (some y195) = some r := by first | (rw [hy195]; with_reducible exact H) | (have H2_ := (Option.bind_some _ _).symm.trans H; rw [hy195]; with_reducible exact H2_) | (have H2_ := (Option.bind_some _ _).symm.trans H; with_reducible exact H2_) | with_reducible exact H | (rw [hy195]; exact H) | exact H
  have Ny195 := Aside0.mk hy195
  clear hy195
  obtain rfl := Option.some.inj H
  go_enter Try.func12, Try.ntmps12
  go_wp2_with (first | ((with_reducible refine gate_dst (N := 3) rfl ?_); refine Kd.R_lit k33 _ 33 ?hg (N := 3) ?hd (xs := ([] : List (S33))) (inner := []) (ok := fun _ => True) (okp := fun _ => True) ?hr ?hp (fun _ hk => hk) trivial (Below.refl _ _) (Nat.le_refl _) (by simp) ?_; (case hd => rfl); (case hg => rfl); (case hr => first | (go_simp; done) | (go_simp; rfl)); (case hp => exact (Reps.none _ _)); intro v193 w3 ho4 hb hg_ hnew_; clear hg_ hnew_; (first | rw [← Ny192.out] at ho4 | (simp only [Int.reduceToNat] at ho4; rw [← Ny192.out] at ho4)); have n0_ := Aside0.mk (Kd.R_lower ho4 (below_size (by repeat (first | (with_reducible first | exact HB.out | apply below_alloc | apply pw_below_drewN | apply below_drew1) | exact HB.out)))); have n1_ := Aside0.mk (below_step (by repeat (first | (with_reducible first | exact HB.out | apply below_alloc | apply pw_below_drewN | apply below_drew1) | exact HB.out)) hb); clear HB; have HO194 := n0_; have HB := n1_; clear n0_ n1_; clear hb ho4) | ((with_reducible refine gate_builtin (b := .append) (xs := #[.tmp 3, .tmp 4]) rfl ?_); at_builtin; refine Kd.R_append_rows k33 (w0 := w) w.heap.size rfl (.tmp 3) (.tmp 4) 22 33 (.agg #[(.int .i64 0), (.int .i64 0), (.int .i64 0)]) 24 rfl Try.underlying22 info33 rfl (by decide) (by omega) v193 y192 l0 _ _ _ (fun _ => True) (fun _ => False) rfl rfl ?aO ?aR (fun _ _ h => h) (fun _ h => h.elim) ?aF ?aB ?aS ?aL ?_; (case aR => repeat (first | exact (Kd.C_below HR0.out HB.out) | (with_reducible refine Kd.C_alloc ?_ _) | (with_reducible refine Kd.C_drewN ?_ _) | (with_reducible refine Kd.C_drew ?_))); (case aB => exact (by repeat (first | (with_reducible first | exact HB.out | apply below_alloc | apply pw_below_drewN | apply below_drew1) | exact HB.out))); (case aF => exact (fun _ _ => trivial)); (case aO => exact (by (with_reducible repeat (first | apply Kd.R_alloc | apply Kd.R_drewN | apply Kd.R_drew)); exact HO194.out)); (case aS => exact (below_size (by repeat (first | (with_reducible first | exact HB.out | apply below_alloc | apply pw_below_drewN | apply below_drew1) | exact HB.out)))); (case aL => have := LMc2.out; omega); intro v196 w5 ho hb hg hat; rw [← Ny195.out] at ho; have n0_ := Aside0.mk (hb); have n1_ := Aside0.mk (ho); clear HB; clear HO194; have HB := n0_; have HO197 := n1_; clear n0_ n1_; clear ho hb hg hat))
  go_ret
  exact ⟨_, by first | rfl | (simp [errW_none, errW_some] <;> rfl) | (simp [*, errW_none, errW_some] <;> rfl), by (with_reducible repeat (first | apply Kd.R_alloc | apply Kd.R_drewN | apply Kd.R_drew)); exact HO197.out, by repeat (first | (with_reducible first | exact HB.out | apply below_alloc | apply pw_below_drewN | apply below_drew1) | exact HB.out)⟩
 ·
  rw [if_neg c2] at H
  exact absurd H (by simp)

-- NOT PRINTED: function 36 (api_Extent_36)

-- NOT PRINTED: function 46 (api_Extent_46)

-- NOT PRINTED: function 62 (api_Extent_62)

-- NOT PRINTED: function 51 (api_Extent_51)

-- NOT PRINTED: function 47 (api_Extent_47)

-- NOT PRINTED: function 38 (api_Extent_38)

-- ROUNDS MAKES
-- MAKES
/-- The cells of a list of extents. -/
def encE (x : S33) : List Value := [.int .i64 x.f0, .int .i64 x.f1, .int .i64 x.f2]
theorem encE_len (l : List S33) : (l.flatMap encE).length = l.length * 3 := by
 induction l with
 | nil => rfl
 | cons x l ih => simp only [List.flatMap_cons, List.length_append, ih, encE, List.length_cons, List.length_nil]; omega
theorem encE_one (l : List S33) : ∀ v ∈ l.flatMap encE, v.oneCell' = true := by
 intro v hv
 obtain ⟨x, _, hx⟩ := List.mem_flatMap.1 hv
 simp [encE] at hx
 rcases hx with rfl | rfl | rfl <;> rfl
theorem encE_take (l : List S33) (i : Nat) : (l.flatMap encE).take (i * 3) = (l.take i).flatMap encE := by
 induction l generalizing i with
 | nil => simp
 | cons x l ih =>
  cases i with
  | zero => simp
  | succ i => rw [List.flatMap_cons, show (i + 1) * 3 = (encE x).length + i * 3 by simp [encE]; omega, List.take_length_add_append, ih]; rfl
theorem encE_drop (l : List S33) (i : Nat) : (l.flatMap encE).drop (i * 3) = (l.drop i).flatMap encE := by
 induction l generalizing i with
 | nil => simp
 | cons x l ih =>
  cases i with
  | zero => simp
  | succ i => rw [List.flatMap_cons, show (i + 1) * 3 = (encE x).length + i * 3 by simp [encE]; omega, List.drop_length_add_append, ih]; rfl
theorem reps_enc {w : World} {b : Nat} {ok : Nat → Prop} : ∀ {ps : List S33} {cs : List Value}, Reps (k33.M w b ok) 3 ps cs → cs = ps.flatMap encE
 | [], cs, h => by have := h.1; simp at this; simpa using this
 | p :: ps, cs, h => by
  have h0 := h.2 0 p rfl
  have h0' := k33_openM h0
  have hl := h.1
  simp only [List.length_cons] at hl
  have hd : Reps (k33.M w b ok) 3 ps (cs.drop 3) := ⟨by rw [List.length_drop]; omega, fun j q hq => by
   have := h.2 (j + 1) q hq
   rw [List.drop_drop, show 3 + j * 3 = (j + 1) * 3 by omega]
   exact this⟩
  have ih := reps_enc hd
  rw [List.flatMap_cons, ← ih]
  simp only [Nat.zero_mul, List.drop_zero] at h0'
  have := List.take_append_drop 3 cs
  rw [h0'] at this
  exact this.symm
theorem enc_reps {w : World} {b : Nat} {ok : Nat → Prop} (ps : List S33) : Reps (k33.M w b ok) 3 ps (ps.flatMap encE) := by
 refine ⟨encE_len ps, fun j p hp => ?_⟩
 have hj := (List.getElem?_eq_some_iff.1 hp).1
 rw [encE_drop, List.drop_eq_getElem_cons hj, List.flatMap_cons, show 3 = (encE ps[j]).length by rfl, List.take_left]
 have hpj : ps[j] = p := (List.getElem?_eq_some_iff.1 hp).2
 rw [hpj]
 exact k33_mkM w b ok p
/-- Where an extent is put: ahead of the first one that begins behind it. -/
def posE (X : Int) : List S33 → Nat
 | [] => 0
 | x :: l => if X < x.f0 then 0 else posE X l + 1
theorem posE_le (X : Int) : ∀ l : List S33, posE X l ≤ l.length
 | [] => Nat.le_refl _
 | x :: l => by
  have := posE_le X l
  simp only [posE, List.length_cons]
  split <;> omega
theorem idx_pos (X : Int) : ∀ (l : List S33) (k : Nat), YtcgihjpnemnkeaaIns.idxB X (l.map fun x => (x.f0, x.f1, x.f2)) k = if posE X l < l.length then ((k + posE X l : Nat) : Int) else -1
 | [], k => rfl
 | x :: l, k => by
  simp only [List.map_cons, YtcgihjpnemnkeaaIns.idxB]
  by_cases h : X < x.f0
  ·
   have e : posE X (x :: l) = 0 := by simp only [posE]; rw [if_pos h]
   rw [if_pos h, e, if_pos (by simp)]
   rfl
  ·
   have e : posE X (x :: l) = posE X l + 1 := by simp only [posE]; rw [if_neg h]
   rw [if_neg h, e, idx_pos X l (k + 1)]
   by_cases h2 : posE X l < l.length
   ·
    rw [if_pos h2, if_pos (by simpa using h2)]
    congr 1; omega
   ·
    rw [if_neg h2, if_neg (by simpa using h2)]
def insE (X : Int) (l : List S33) (x : S33) : List S33 := l.take (posE X l) ++ [x] ++ l.drop (posE X l)
theorem insE_len (X : Int) (l : List S33) (x : S33) : (insE X l x).length = l.length + 1 := by
 have := posE_le X l
 simp [insE]; omega

def extent_Put.f (k : Nat) (l0 : List (S33)) (a1_0 : Int) (a1_1 : Int) (a1_2 : Int) : Option ((List (S33)) × (List (S33)) × Int) :=
 (extent_proper.f a1_0 a1_1 a1_2).bind fun t => if t = true then (extent_Cut.f k l0 a1_0 a1_1).bind fun r => if r.2.2 = 0 then (if r.1.length ≤ 1000000000 then (extent_Join.f k (insE a1_0 r.1 ⟨a1_0, a1_1, a1_2⟩)).bind fun q => some (q.1, r.2.1, q.2) else none) else some ([], [], r.2.2) else some ([], [], 1)
theorem extent_Put.mono : ∀ a0 a1 a2 a3 k, LeO (extent_Put.f k a0 a1 a2 a3) (extent_Put.f (k + 1) a0 a1 a2 a3) := by
 intro l a b c k r h
 unfold extent_Put.f at h ⊢
 obtain ⟨t, ht, h⟩ := Option.bind_eq_some_iff.1 h
 rw [ht]
 simp only [Option.bind_some]
 by_cases h1 : t = true
 ·
  rw [if_pos h1] at h ⊢
  obtain ⟨q, hq, h⟩ := Option.bind_eq_some_iff.1 h
  rw [extent_Cut.mono l a b k q hq]
  simp only [Option.bind_some]
  by_cases h2 : q.2.2 = 0
  ·
   rw [if_pos h2] at h ⊢
   by_cases h3 : q.1.length ≤ 1000000000
   ·
    rw [if_pos h3] at h ⊢
    obtain ⟨z, hz, h⟩ := Option.bind_eq_some_iff.1 h
    rw [extent_Join.mono _ k z hz]
    exact h
   ·
    rw [if_neg h3] at h
    cases h
  ·
   rw [if_neg h2] at h ⊢
   exact h
 ·
  rw [if_neg h1] at h ⊢
  exact h
theorem c_of_row {w : World} {A : Option Addr} {c : Nat} {l : List S33} {base : Nat} {ok : Nat → Prop} (h : Kd.R k33 33 w base ok (.slice A l.length c) l) : ∀ j (hj : j < (l.map fun x => (x.f0, x.f1, x.f2)).length), ∃ g, A = some ⟨g, 0, none⟩ ∧ g < w.heap.size ∧ w.cell? ⟨g, j * 3, none⟩ = some (.int .i64 ((l.map fun x => (x.f0, x.f1, x.f2))[j]).1) ∧ w.cell? ⟨g, j * 3 + 1, none⟩ = some (.int .i64 ((l.map fun x => (x.f0, x.f1, x.f2))[j]).2.1) ∧ w.cell? ⟨g, j * 3 + 2, none⟩ = some (.int .i64 ((l.map fun x => (x.f0, x.f1, x.f2))[j]).2.2) := by
 intro j hj
 have hjl : j < l.length := by simpa using hj
 obtain ⟨g, cap, he, _, hg, _⟩ := Kd.R_form h (by omega)
 injection he with hA _ _
 subst hA
 obtain ⟨ad, e, c0, c1, c2⟩ := at_T33 (Kd.R_reads' h).2.2 (j : Int) (by omega) (by omega)
 injection e with e
 subst e
 have hr : rd_T33 l (j : Int) = l[j] := by unfold rd_T33; rw [List.getD_eq_getElem?_getD, show (j : Int).toNat = j from by omega, List.getElem?_eq_getElem hjl]; rfl
 rw [hr] at c0 c1 c2
 have ha : (⟨g, 0, none⟩ : Addr).add ((j : Int).toNat * 3) = ⟨g, j * 3, none⟩ := by rw [show (j : Int).toNat = j from by omega]; unfold Addr.add; split <;> simp_all
 rw [ha] at c0 c1 c2
 exact ⟨g, rfl, hg, by simpa using c0, by simpa using c1, by simpa using c2⟩

set_option maxHeartbeats 4000000 in
set_option maxRecDepth 100000 in
theorem extent_Put.calls (k : Nat) (A0 : Option Addr) (c0 : Nat) (l0 : List (S33)) (a1_0 : Int) (a1_1 : Int) (a1_2 : Int) (r1 : List (S33)) (r2 : List (S33)) (r3 : Int) (w : World) (hr0 : Kd.C k33 w A0 l0.length l0) (hc0 : l0.length ≤ c0) (h : extent_Put.f k l0 a1_0 a1_1 a1_2 = some (r1, r2, r3)) :
  Calls Try.prog 24 #[.slice A0 l0.length c0, .agg #[.int .i64 a1_0, .int .i64 a1_1, .int .i64 a1_2]] w fun e w' => ∃ v0_ v1_ : Value, e = .returned (.tuple #[v0_, v1_, .int .i64 r3]) ∧ Kd.R k33 33 w' w.heap.size (fun k_ => some k_ ≠ (v1_ : Value).ownBlock) v0_ r1 ∧ Kd.R k33 33 w' w.heap.size (fun k_ => some k_ ≠ (v0_ : Value).ownBlock) v1_ r2 ∧ Below w.heap.size w w' := by
 have hu33 := Try.underlying33
 have HR0 := Aside0.mk hr0
 have HC0 := Aside0.mk hc0
 clear hr0 hc0
 unfold extent_Put.f at h
 obtain ⟨t, ht, h⟩ := Option.bind_eq_some_iff.1 h
 have HT := Aside0.mk ht
 clear ht
 obtain ⟨bx, hbx⟩ : ∃ bx, bx = w.heap.size := ⟨_, rfl⟩
 have HBX := Aside0.mk hbx
 clear hbx
 cases t with
 | false =>
  simp only [Bool.false_eq_true, if_false, Option.some.injEq, Prod.mk.injEq] at h
  obtain ⟨rfl, rfl, rfl⟩ := h
  go_enter Try.func24, Try.ntmps24
  go_wp2_with fail
  refine (extent_proper.calls _ _ _ _ _ HT.out).mono ?_
  rintro e w1 ⟨rfl, hb⟩
  have HB := Aside0.mk hb
  clear hb
  go_wp2_with fail
  go_ret3
  exact ⟨_, _, rfl, Kd.R_nil _ _ _ _ _, Kd.R_nil _ _ _ _ _, ((Below.refl _ _).alloc (Nat.le_refl _) _).trans (HB.out.mono (by simp))⟩
 | true =>
  simp only [if_true] at h
  obtain ⟨q, hq, h⟩ := Option.bind_eq_some_iff.1 h
  obtain ⟨q1, q2, q3⟩ := q
  have HQ := Aside0.mk hq
  clear hq
  simp only at h
  have HH := Aside0.mk h
  clear h
  go_enter Try.func24, Try.ntmps24
  go_wp2_with fail
  refine (extent_proper.calls _ _ _ _ _ HT.out).mono ?_
  rintro e w1 ⟨rfl, hb⟩
  have b0 : w1.cell? ⟨w.heap.size, 0, none⟩ = some (.int .i64 a1_0) := (hb.cell (p := ⟨w.heap.size, 0, none⟩) (by simp)).trans (by simp)
  have b1 : w1.cell? ⟨w.heap.size, 1, none⟩ = some (.int .i64 a1_1) := (hb.cell (p := ⟨w.heap.size, 1, none⟩) (by simp)).trans (by simp)
  have b2 : w1.cell? ⟨w.heap.size, 2, none⟩ = some (.int .i64 a1_2) := (hb.cell (p := ⟨w.heap.size, 2, none⟩) (by simp)).trans (by simp)
  have hs1 : w.heap.size < w1.heap.size := by have := hb.size; simp at this; omega
  have HB1 := Aside0.mk (((Below.refl w.heap.size w).alloc (Nat.le_refl _) _).trans (hb.mono (by simp)))
  have HS1 := Aside0.mk hs1
  clear hb hs1
  go_wp2_with fail
  refine (extent_Cut.calls k A0 c0 l0 a1_0 a1_1 q1 q2 q3 _ (Kd.C_below HR0.out HB1.out) HC0.out HQ.out).mono ?_
  rintro e w2 ⟨v0, v1, rfl, ho0, ho1, hb⟩
  have HO0 := Aside0.mk (Kd.R_lower ho0 (Nat.le_of_lt HS1.out))
  have HO1 := Aside0.mk (Kd.R_lower ho1 (Nat.le_of_lt HS1.out))
  have d0 : w2.cell? ⟨w.heap.size, 0, none⟩ = some (.int .i64 a1_0) := (hb.cell (p := ⟨w.heap.size, 0, none⟩) HS1.out).trans b0
  have d1 : w2.cell? ⟨w.heap.size, 1, none⟩ = some (.int .i64 a1_1) := (hb.cell (p := ⟨w.heap.size, 1, none⟩) HS1.out).trans b1
  have d2 : w2.cell? ⟨w.heap.size, 2, none⟩ = some (.int .i64 a1_2) := (hb.cell (p := ⟨w.heap.size, 2, none⟩) HS1.out).trans b2
  have HS2 := Aside0.mk (Nat.lt_of_lt_of_le HS1.out hb.size)
  have HB2 := Aside0.mk (HB1.out.trans (hb.mono (Nat.le_of_lt HS1.out)))
  clear ho0 ho1 hb b0 b1 b2
  have H := HH.out
  clear HH
  by_cases hq3 : q3 = 0
  ·
   subst hq3
   rw [if_pos rfl] at H
   by_cases hlen : q1.length ≤ 1000000000
   ·
    rw [if_pos hlen] at H
    obtain ⟨z, hz, H⟩ := Option.bind_eq_some_iff.1 H
    obtain ⟨z1, z2⟩ := z
    simp only [Option.some.injEq, Prod.mk.injEq] at H
    obtain ⟨rfl, rfl, rfl⟩ := H
    have HZ := Aside0.mk hz
    clear hz
    obtain ⟨A1, e1, he1⟩ := Kd.R_slice HO0.out
    subst he1
    have hidx := YtcgihjpnemnkeaaIns.index_calls A1 e1 w.heap.size a1_0 (q1.map fun x => (x.f0, x.f1, x.f2)) w2 HS2.out d0 (by simpa using hlen) (c_of_row HO0.out)
    rw [List.length_map, idx_pos] at hidx
    have HIX := Aside0.mk hidx
    clear hidx
    go_wp2_with fail
    refine HIX.out.mono ?_
    rintro e w3 ⟨rfl, hb⟩
    have g0 : w3.cell? ⟨w.heap.size, 0, none⟩ = some (.int .i64 a1_0) := (hb.cell (p := ⟨w.heap.size, 0, none⟩) HS2.out).trans d0
    have g1 : w3.cell? ⟨w.heap.size, 1, none⟩ = some (.int .i64 a1_1) := (hb.cell (p := ⟨w.heap.size, 1, none⟩) HS2.out).trans d1
    have g2 : w3.cell? ⟨w.heap.size, 2, none⟩ = some (.int .i64 a1_2) := (hb.cell (p := ⟨w.heap.size, 2, none⟩) HS2.out).trans d2
    have HP0 := Aside0.mk (Kd.R_below HO0.out hb)
    have HP1 := Aside0.mk (Kd.R_below HO1.out hb)
    have HS3 := Aside0.mk (Nat.lt_of_lt_of_le HS2.out hb.size)
    have HB3 := Aside0.mk (HB2.out.trans (hb.mono (Nat.le_of_lt HS2.out)))
    clear hb d0 d1 d2 HO0 HO1 HIX
    by_cases hp : posE a1_0 q1 < q1.length
    ·
     rw [if_pos hp]
     have hp0 : ¬ (((0 + posE a1_0 q1 : Nat) : Int) < 0) := by omega
     have HPP := Aside0.mk hp
     clear hp
     go_wp2_with fail
     obtain ⟨h0, inner, hown, hr⟩ := HP0.out
     have hinner := reps_enc hr
     subst hinner
     have hlt3 : ∀ k_, (Value.slice A1 q1.length e1).ownBlock = some k_ → k_ < w3.heap.size := fun k_ hk => own_lt hown k_ hk
     have HI := YtcgihjpnemnkeaaIns.insert_any w.heap.size q1.length (posE a1_0 q1) w3.heap.size 1 (.slice A1 q1.length e1) (q1.flatMap encE) [.int .i64 a1_0, .int .i64 a1_1, .int .i64 a1_2] (w3.alloc (.cells #[.int .i64 a1_0, .int .i64 a1_1, .int .i64 a1_2] 33)) (Nat.le_of_lt HPP.out) hlen (Nat.le_trans (Nat.le_of_lt HS3.out) (by simp)) (hown.alloc _) (fun e => by have := hlt3 _ e; omega) (by exact YtcgihjpnemnkeaaIns.heap_new w3 _) rfl (by intro v hv; simp at hv; rcases hv with rfl | rfl | rfl <;> rfl) (encE_one q1)
     refine HI.mono ?_
     rintro e w4 ⟨v4, rfl, hown4, hg4⟩
     have hins : (q1.flatMap encE).take ((posE a1_0 q1) * 3) ++ [.int .i64 a1_0, .int .i64 a1_1, .int .i64 a1_2] ++ (q1.flatMap encE).drop ((posE a1_0 q1) * 3) = (insE a1_0 q1 ⟨a1_0, a1_1, a1_2⟩).flatMap encE := by
      rw [encE_take, encE_drop, insE]; simp [encE]
     rw [hins] at hown4
     have hR4 : Kd.R k33 33 w4 w.heap.size (fun _ => True) v4 (insE a1_0 q1 ⟨a1_0, a1_1, a1_2⟩) := ⟨fun _ _ => trivial, _, by rw [insE_len]; exact hown4, enc_reps _⟩
     have hb3 : Below w3.heap.size w3 (w3.alloc (.cells #[.int .i64 a1_0, .int .i64 a1_1, .int .i64 a1_2] 33)) := (Below.refl _ _).alloc (Nat.le_refl _) _
     have HR1 := Aside0.mk (Kd.R_grown (Kd.R_below HP1.out hb3) hg4 (fun _ hk => hk))
     have hb4 : Below w.heap.size w w4 := (HB3.out.trans (hb3.mono (Nat.le_of_lt HS3.out))).grown hg4 (Nat.le_trans (Nat.le_of_lt HS3.out) (by simp)) (fun k_ hk => own_base hown k_ hk)
     obtain ⟨A4, e4, he4, hle4, hC4⟩ := Kd.R_reads hR4
     subst he4
     have HB4 := Aside0.mk hb4
     have HC4 := Aside0.mk hC4
     have HL4 := Aside0.mk hle4
     have HS4 := Aside0.mk (Nat.le_of_lt (Nat.lt_of_lt_of_le HS3.out (Nat.le_trans (by simp) hg4.size)))
     clear hins hown4 hR4 hb3 hb4 hle4 hC4 hg4 HI hlt3 hown hr h0 g0 g1 g2 HP0 HP1
     go_wp2_with fail
     refine (extent_Join.calls k A4 e4 (insE a1_0 q1 ⟨a1_0, a1_1, a1_2⟩) z1 z2 _ HC4.out HL4.out HZ.out).mono ?_
     rintro e w5 ⟨v5, rfl, ho5, hb5⟩
     have HO5 := Aside0.mk ho5
     have HB5 := Aside0.mk hb5
     clear ho5 hb5
     go_wp2_with fail
     go_ret3
     exact ⟨v5, v1, rfl, Kd.R_mono (Kd.R_lower (Kd.R_new' HO5.out (Kd.R_lt HR1.out)) HS4.out) (fun _ hk => hk.2), Kd.R_mono (Kd.R_told (Kd.R_old HR1.out HB5.out) (Kd.R_base HO5.out)) (fun _ hk => hk.1.2), HB4.out.trans (HB5.out.mono HS4.out)⟩
    ·
     rw [if_neg hp]
     have hpe : posE a1_0 q1 = q1.length := by have := posE_le a1_0 q1; omega
     have HPE := Aside0.mk hpe
     clear hp hpe
     go_wp2_with fail
     obtain ⟨h0, inner, hown, hr⟩ := HP0.out
     have hinner := reps_enc hr
     subst hinner
     have hlt3 : ∀ k_, (Value.slice A1 q1.length e1).ownBlock = some k_ → k_ < w3.heap.size := fun k_ hk => own_lt hown k_ hk
     have HI := YtcgihjpnemnkeaaIns.insert_any w.heap.size q1.length q1.length w3.heap.size 1 (.slice A1 q1.length e1) (q1.flatMap encE) [.int .i64 a1_0, .int .i64 a1_1, .int .i64 a1_2] (w3.alloc (.cells #[.int .i64 a1_0, .int .i64 a1_1, .int .i64 a1_2] 33)) (Nat.le_refl _) hlen (Nat.le_trans (Nat.le_of_lt HS3.out) (by simp)) (hown.alloc _) (fun e => by have := hlt3 _ e; omega) (by exact YtcgihjpnemnkeaaIns.heap_new w3 _) rfl (by intro v hv; simp at hv; rcases hv with rfl | rfl | rfl <;> rfl) (encE_one q1)
     refine HI.mono ?_
     rintro e w4 ⟨v4, rfl, hown4, hg4⟩
     have hins : (q1.flatMap encE).take (q1.length * 3) ++ [.int .i64 a1_0, .int .i64 a1_1, .int .i64 a1_2] ++ (q1.flatMap encE).drop (q1.length * 3) = (insE a1_0 q1 ⟨a1_0, a1_1, a1_2⟩).flatMap encE := by
      rw [encE_take, encE_drop, insE, HPE.out]; simp [encE]
     rw [hins] at hown4
     have hR4 : Kd.R k33 33 w4 w.heap.size (fun _ => True) v4 (insE a1_0 q1 ⟨a1_0, a1_1, a1_2⟩) := ⟨fun _ _ => trivial, _, by rw [insE_len]; exact hown4, enc_reps _⟩
     have hb3 : Below w3.heap.size w3 (w3.alloc (.cells #[.int .i64 a1_0, .int .i64 a1_1, .int .i64 a1_2] 33)) := (Below.refl _ _).alloc (Nat.le_refl _) _
     have HR1 := Aside0.mk (Kd.R_grown (Kd.R_below HP1.out hb3) hg4 (fun _ hk => hk))
     have hb4 : Below w.heap.size w w4 := (HB3.out.trans (hb3.mono (Nat.le_of_lt HS3.out))).grown hg4 (Nat.le_trans (Nat.le_of_lt HS3.out) (by simp)) (fun k_ hk => own_base hown k_ hk)
     obtain ⟨A4, e4, he4, hle4, hC4⟩ := Kd.R_reads hR4
     subst he4
     have HB4 := Aside0.mk hb4
     have HC4 := Aside0.mk hC4
     have HL4 := Aside0.mk hle4
     have HS4 := Aside0.mk (Nat.le_of_lt (Nat.lt_of_lt_of_le HS3.out (Nat.le_trans (by simp) hg4.size)))
     clear hins hown4 hR4 hb3 hb4 hle4 hC4 hg4 HI hlt3 hown hr h0 g0 g1 g2 HP0 HP1
     go_wp2_with fail
     refine (extent_Join.calls k A4 e4 (insE a1_0 q1 ⟨a1_0, a1_1, a1_2⟩) z1 z2 _ HC4.out HL4.out HZ.out).mono ?_
     rintro e w5 ⟨v5, rfl, ho5, hb5⟩
     have HO5 := Aside0.mk ho5
     have HB5 := Aside0.mk hb5
     clear ho5 hb5
     go_wp2_with fail
     go_ret3
     exact ⟨v5, v1, rfl, Kd.R_mono (Kd.R_lower (Kd.R_new' HO5.out (Kd.R_lt HR1.out)) HS4.out) (fun _ hk => hk.2), Kd.R_mono (Kd.R_told (Kd.R_old HR1.out HB5.out) (Kd.R_base HO5.out)) (fun _ hk => hk.1.2), HB4.out.trans (HB5.out.mono HS4.out)⟩
   ·
    rw [if_neg hlen] at H
    cases H
  ·
   rw [if_neg hq3] at H
   simp only [Option.some.injEq, Prod.mk.injEq] at H
   obtain ⟨rfl, rfl, rfl⟩ := H
   have HQ3 := Aside0.mk hq3
   have hq3' : (q3 != 0) = true := by simpa using hq3
   clear hq3
   go_wp2_with fail
   go_ret3
   exact ⟨_, _, rfl, Kd.R_nil _ _ _ _ _, Kd.R_nil _ _ _ _ _, HB2.out⟩

/-! ### tegularef32_One: function 26 -/
def tegularef32_One.f (a0_0 : Int) (a0_1 : Int) (a0_2 : Int) : Option (Bool) := if a0_0 ≥ 0 then (if a0_2 ≥ 0 then (if a0_1 ≥ 1 then (if a0_0 ≤ 65536 then (if a0_2 ≤ 65536 then (if a0_1 ≤ 65536 then (if (wrap64 (a0_0 + a0_1)) ≤ 65536 then (some (decide ((wrap64 (a0_2 + a0_1)) ≤ 65536))) else (some false)) else (some false)) else (some false)) else (some false)) else (some false)) else (some false)) else (some false)
set_option maxHeartbeats 8000000 in
set_option maxRecDepth 100000 in
theorem tegularef32_One.calls (a0_0 : Int) (a0_1 : Int) (a0_2 : Int) (r : Bool) (w : World) (h : tegularef32_One.f a0_0 a0_1 a0_2 = some r) :
  Calls Try.prog 26 #[.agg #[.int .i64 a0_0, .int .i64 a0_1, .int .i64 a0_2]] w fun e w' => e = .returned (.bool r) ∧ Below w.heap.size w w' := by
 have hu33 := Try.underlying33
 have HB := Aside0.mk (Below.refl w.heap.size w)
 have H : (if a0_0 ≥ 0 then (if a0_2 ≥ 0 then (if a0_1 ≥ 1 then (if a0_0 ≤ 65536 then (if a0_2 ≤ 65536 then (if a0_1 ≤ 65536 then (if (wrap64 (a0_0 + a0_1)) ≤ 65536 then (some (decide ((wrap64 (a0_2 + a0_1)) ≤ 65536))) else (some false)) else (some false)) else (some false)) else (some false)) else (some false)) else (some false)) else (some false)) = some r := h
 clear h
 by_cases c2 : a0_0 ≥ 0
 ·
  rw [if_pos c2] at H
  have c2b0 : decide (0 ≤ a0_0) = true := decide_eq_true c2
  clear c2
  by_cases c3 : a0_2 ≥ 0
  ·
   rw [if_pos c3] at H
   have c3b0 : decide (0 ≤ a0_2) = true := decide_eq_true c3
   clear c3
   by_cases c4 : a0_1 ≥ 1
   ·
    rw [if_pos c4] at H
    have c4b0 : decide (1 ≤ a0_1) = true := decide_eq_true c4
    clear c4
    by_cases c5 : a0_0 ≤ 65536
    ·
     rw [if_pos c5] at H
     have c5b0 : decide (a0_0 ≤ 65536) = true := decide_eq_true c5
     clear c5
     by_cases c6 : a0_2 ≤ 65536
     ·
      rw [if_pos c6] at H
      have c6b0 : decide (a0_2 ≤ 65536) = true := decide_eq_true c6
      clear c6
      by_cases c7 : a0_1 ≤ 65536
      ·
       rw [if_pos c7] at H
       have c7b0 : decide (a0_1 ≤ 65536) = true := decide_eq_true c7
       clear c7
       by_cases c8 : (wrap64 (a0_0 + a0_1)) ≤ 65536
       ·
        rw [if_pos c8] at H
        have c8b0 : decide ((wrap64 (a0_0 + a0_1)) ≤ 65536) = true := decide_eq_true c8
        clear c8
        obtain rfl := Option.some.inj H
        go_enter Try.func26, Try.ntmps26
        go_wp2_with (first | ((with_reducible refine gate_dst (N := 1) rfl ?_); refine box_event ?hg (N := 1) ?hd (cs := #[.int .i64 a0_0, .int .i64 a0_1, .int .i64 a0_2]) (t := 33) ?hr ?_; (case hd => rfl); (case hg => rfl); (case hr => first | (go_simp; done) | (go_simp; rfl)); intro gb198 hg w9 hbox hb; have n0_ := Aside0.mk (below_step (by repeat (first | (with_reducible first | exact HB.out | apply below_alloc | apply pw_below_drewN | apply below_drew1) | exact HB.out)) hb); have n1_ := Aside0.mk (hbox); have n2_ := Aside0.mk ((by rw [hg]; exact (below_size (by repeat (first | (with_reducible first | exact HB.out | apply below_alloc | apply pw_below_drewN | apply below_drew1) | exact HB.out))) : w.heap.size ≤ gb198)); have n3_ := Aside0.mk ((by rw [hg]; exact (below_size (by repeat (first | (with_reducible first | exact HB.out | apply below_alloc | apply pw_below_drewN | apply below_drew1) | exact HB.out))) : w.heap.size ≤ gb198)); clear HB; have HB := n0_; have BK198 := n1_; have GW198 := n2_; have GE198 := n3_; clear n0_ n1_ n2_ n3_; clear hb hbox hg; have hcz10_0 : w9.cell? ⟨gb198, 0, none⟩ = some (.int .i64 a0_0) := (blk_cell BK198.out 0).trans rfl; have hcz10_1 : w9.cell? ⟨gb198, 1, none⟩ = some (.int .i64 a0_1) := (blk_cell BK198.out 1).trans rfl; have hcz10_2 : w9.cell? ⟨gb198, 2, none⟩ = some (.int .i64 a0_2) := (blk_cell BK198.out 2).trans rfl; have hfz10_0 := blk_frozen BK198.out 0; have hfz10_1 := blk_frozen BK198.out 1; have hfz10_2 := blk_frozen BK198.out 2))
        go_ret
        exact ⟨by first | rfl | (simp [errW_none, errW_some] <;> rfl) | (simp [*, errW_none, errW_some] <;> rfl), by repeat (first | (with_reducible first | exact HB.out | apply below_alloc | apply pw_below_drewN | apply below_drew1 | refine below_set ?_ GE198.out) | exact HB.out)⟩
       ·
        rw [if_neg c8] at H
        have c8b0 : decide ((wrap64 (a0_0 + a0_1)) ≤ 65536) = false := decide_eq_false c8
        clear c8
        obtain rfl := Option.some.inj H
        go_enter Try.func26, Try.ntmps26
        go_wp2_with (first | ((with_reducible refine gate_dst (N := 1) rfl ?_); refine box_event ?hg (N := 1) ?hd (cs := #[.int .i64 a0_0, .int .i64 a0_1, .int .i64 a0_2]) (t := 33) ?hr ?_; (case hd => rfl); (case hg => rfl); (case hr => first | (go_simp; done) | (go_simp; rfl)); intro gb198 hg w11 hbox hb; have n0_ := Aside0.mk (below_step (by repeat (first | (with_reducible first | exact HB.out | apply below_alloc | apply pw_below_drewN | apply below_drew1) | exact HB.out)) hb); have n1_ := Aside0.mk (hbox); have n2_ := Aside0.mk ((by rw [hg]; exact (below_size (by repeat (first | (with_reducible first | exact HB.out | apply below_alloc | apply pw_below_drewN | apply below_drew1) | exact HB.out))) : w.heap.size ≤ gb198)); have n3_ := Aside0.mk ((by rw [hg]; exact (below_size (by repeat (first | (with_reducible first | exact HB.out | apply below_alloc | apply pw_below_drewN | apply below_drew1) | exact HB.out))) : w.heap.size ≤ gb198)); clear HB; have HB := n0_; have BK198 := n1_; have GW198 := n2_; have GE198 := n3_; clear n0_ n1_ n2_ n3_; clear hb hbox hg; have hcz12_0 : w11.cell? ⟨gb198, 0, none⟩ = some (.int .i64 a0_0) := (blk_cell BK198.out 0).trans rfl; have hcz12_1 : w11.cell? ⟨gb198, 1, none⟩ = some (.int .i64 a0_1) := (blk_cell BK198.out 1).trans rfl; have hcz12_2 : w11.cell? ⟨gb198, 2, none⟩ = some (.int .i64 a0_2) := (blk_cell BK198.out 2).trans rfl; have hfz12_0 := blk_frozen BK198.out 0; have hfz12_1 := blk_frozen BK198.out 1; have hfz12_2 := blk_frozen BK198.out 2))
        go_ret
        exact ⟨by first | rfl | (simp [errW_none, errW_some] <;> rfl) | (simp [*, errW_none, errW_some] <;> rfl), by repeat (first | (with_reducible first | exact HB.out | apply below_alloc | apply pw_below_drewN | apply below_drew1 | refine below_set ?_ GE198.out) | exact HB.out)⟩
      ·
       rw [if_neg c7] at H
       have c7b0 : decide (a0_1 ≤ 65536) = false := decide_eq_false c7
       clear c7
       obtain rfl := Option.some.inj H
       go_enter Try.func26, Try.ntmps26
       go_wp2_with (first | ((with_reducible refine gate_dst (N := 1) rfl ?_); refine box_event ?hg (N := 1) ?hd (cs := #[.int .i64 a0_0, .int .i64 a0_1, .int .i64 a0_2]) (t := 33) ?hr ?_; (case hd => rfl); (case hg => rfl); (case hr => first | (go_simp; done) | (go_simp; rfl)); intro gb198 hg w13 hbox hb; have n0_ := Aside0.mk (below_step (by repeat (first | (with_reducible first | exact HB.out | apply below_alloc | apply pw_below_drewN | apply below_drew1) | exact HB.out)) hb); have n1_ := Aside0.mk (hbox); have n2_ := Aside0.mk ((by rw [hg]; exact (below_size (by repeat (first | (with_reducible first | exact HB.out | apply below_alloc | apply pw_below_drewN | apply below_drew1) | exact HB.out))) : w.heap.size ≤ gb198)); have n3_ := Aside0.mk ((by rw [hg]; exact (below_size (by repeat (first | (with_reducible first | exact HB.out | apply below_alloc | apply pw_below_drewN | apply below_drew1) | exact HB.out))) : w.heap.size ≤ gb198)); clear HB; have HB := n0_; have BK198 := n1_; have GW198 := n2_; have GE198 := n3_; clear n0_ n1_ n2_ n3_; clear hb hbox hg; have hcz14_0 : w13.cell? ⟨gb198, 0, none⟩ = some (.int .i64 a0_0) := (blk_cell BK198.out 0).trans rfl; have hcz14_1 : w13.cell? ⟨gb198, 1, none⟩ = some (.int .i64 a0_1) := (blk_cell BK198.out 1).trans rfl; have hcz14_2 : w13.cell? ⟨gb198, 2, none⟩ = some (.int .i64 a0_2) := (blk_cell BK198.out 2).trans rfl; have hfz14_0 := blk_frozen BK198.out 0; have hfz14_1 := blk_frozen BK198.out 1; have hfz14_2 := blk_frozen BK198.out 2))
       go_ret
       exact ⟨by first | rfl | (simp [errW_none, errW_some] <;> rfl) | (simp [*, errW_none, errW_some] <;> rfl), by repeat (first | (with_reducible first | exact HB.out | apply below_alloc | apply pw_below_drewN | apply below_drew1 | refine below_set ?_ GE198.out) | exact HB.out)⟩
     ·
      rw [if_neg c6] at H
      have c6b0 : decide (a0_2 ≤ 65536) = false := decide_eq_false c6
      clear c6
      obtain rfl := Option.some.inj H
      go_enter Try.func26, Try.ntmps26
      go_wp2_with (first | ((with_reducible refine gate_dst (N := 1) rfl ?_); refine box_event ?hg (N := 1) ?hd (cs := #[.int .i64 a0_0, .int .i64 a0_1, .int .i64 a0_2]) (t := 33) ?hr ?_; (case hd => rfl); (case hg => rfl); (case hr => first | (go_simp; done) | (go_simp; rfl)); intro gb198 hg w15 hbox hb; have n0_ := Aside0.mk (below_step (by repeat (first | (with_reducible first | exact HB.out | apply below_alloc | apply pw_below_drewN | apply below_drew1) | exact HB.out)) hb); have n1_ := Aside0.mk (hbox); have n2_ := Aside0.mk ((by rw [hg]; exact (below_size (by repeat (first | (with_reducible first | exact HB.out | apply below_alloc | apply pw_below_drewN | apply below_drew1) | exact HB.out))) : w.heap.size ≤ gb198)); have n3_ := Aside0.mk ((by rw [hg]; exact (below_size (by repeat (first | (with_reducible first | exact HB.out | apply below_alloc | apply pw_below_drewN | apply below_drew1) | exact HB.out))) : w.heap.size ≤ gb198)); clear HB; have HB := n0_; have BK198 := n1_; have GW198 := n2_; have GE198 := n3_; clear n0_ n1_ n2_ n3_; clear hb hbox hg; have hcz16_0 : w15.cell? ⟨gb198, 0, none⟩ = some (.int .i64 a0_0) := (blk_cell BK198.out 0).trans rfl; have hcz16_1 : w15.cell? ⟨gb198, 1, none⟩ = some (.int .i64 a0_1) := (blk_cell BK198.out 1).trans rfl; have hcz16_2 : w15.cell? ⟨gb198, 2, none⟩ = some (.int .i64 a0_2) := (blk_cell BK198.out 2).trans rfl; have hfz16_0 := blk_frozen BK198.out 0; have hfz16_1 := blk_frozen BK198.out 1; have hfz16_2 := blk_frozen BK198.out 2))
      go_ret
      exact ⟨by first | rfl | (simp [errW_none, errW_some] <;> rfl) | (simp [*, errW_none, errW_some] <;> rfl), by repeat (first | (with_reducible first | exact HB.out | apply below_alloc | apply pw_below_drewN | apply below_drew1 | refine below_set ?_ GE198.out) | exact HB.out)⟩
    ·
     rw [if_neg c5] at H
     have c5b0 : decide (a0_0 ≤ 65536) = false := decide_eq_false c5
     clear c5
     obtain rfl := Option.some.inj H
     go_enter Try.func26, Try.ntmps26
     go_wp2_with (first | ((with_reducible refine gate_dst (N := 1) rfl ?_); refine box_event ?hg (N := 1) ?hd (cs := #[.int .i64 a0_0, .int .i64 a0_1, .int .i64 a0_2]) (t := 33) ?hr ?_; (case hd => rfl); (case hg => rfl); (case hr => first | (go_simp; done) | (go_simp; rfl)); intro gb198 hg w17 hbox hb; have n0_ := Aside0.mk (below_step (by repeat (first | (with_reducible first | exact HB.out | apply below_alloc | apply pw_below_drewN | apply below_drew1) | exact HB.out)) hb); have n1_ := Aside0.mk (hbox); have n2_ := Aside0.mk ((by rw [hg]; exact (below_size (by repeat (first | (with_reducible first | exact HB.out | apply below_alloc | apply pw_below_drewN | apply below_drew1) | exact HB.out))) : w.heap.size ≤ gb198)); have n3_ := Aside0.mk ((by rw [hg]; exact (below_size (by repeat (first | (with_reducible first | exact HB.out | apply below_alloc | apply pw_below_drewN | apply below_drew1) | exact HB.out))) : w.heap.size ≤ gb198)); clear HB; have HB := n0_; have BK198 := n1_; have GW198 := n2_; have GE198 := n3_; clear n0_ n1_ n2_ n3_; clear hb hbox hg; have hcz18_0 : w17.cell? ⟨gb198, 0, none⟩ = some (.int .i64 a0_0) := (blk_cell BK198.out 0).trans rfl; have hcz18_1 : w17.cell? ⟨gb198, 1, none⟩ = some (.int .i64 a0_1) := (blk_cell BK198.out 1).trans rfl; have hcz18_2 : w17.cell? ⟨gb198, 2, none⟩ = some (.int .i64 a0_2) := (blk_cell BK198.out 2).trans rfl; have hfz18_0 := blk_frozen BK198.out 0; have hfz18_1 := blk_frozen BK198.out 1; have hfz18_2 := blk_frozen BK198.out 2))
     go_ret
     exact ⟨by first | rfl | (simp [errW_none, errW_some] <;> rfl) | (simp [*, errW_none, errW_some] <;> rfl), by repeat (first | (with_reducible first | exact HB.out | apply below_alloc | apply pw_below_drewN | apply below_drew1 | refine below_set ?_ GE198.out) | exact HB.out)⟩
   ·
    rw [if_neg c4] at H
    have c4b0 : decide (1 ≤ a0_1) = false := decide_eq_false c4
    clear c4
    obtain rfl := Option.some.inj H
    go_enter Try.func26, Try.ntmps26
    go_wp2_with (first | ((with_reducible refine gate_dst (N := 1) rfl ?_); refine box_event ?hg (N := 1) ?hd (cs := #[.int .i64 a0_0, .int .i64 a0_1, .int .i64 a0_2]) (t := 33) ?hr ?_; (case hd => rfl); (case hg => rfl); (case hr => first | (go_simp; done) | (go_simp; rfl)); intro gb198 hg w19 hbox hb; have n0_ := Aside0.mk (below_step (by repeat (first | (with_reducible first | exact HB.out | apply below_alloc | apply pw_below_drewN | apply below_drew1) | exact HB.out)) hb); have n1_ := Aside0.mk (hbox); have n2_ := Aside0.mk ((by rw [hg]; exact (below_size (by repeat (first | (with_reducible first | exact HB.out | apply below_alloc | apply pw_below_drewN | apply below_drew1) | exact HB.out))) : w.heap.size ≤ gb198)); have n3_ := Aside0.mk ((by rw [hg]; exact (below_size (by repeat (first | (with_reducible first | exact HB.out | apply below_alloc | apply pw_below_drewN | apply below_drew1) | exact HB.out))) : w.heap.size ≤ gb198)); clear HB; have HB := n0_; have BK198 := n1_; have GW198 := n2_; have GE198 := n3_; clear n0_ n1_ n2_ n3_; clear hb hbox hg; have hcz20_0 : w19.cell? ⟨gb198, 0, none⟩ = some (.int .i64 a0_0) := (blk_cell BK198.out 0).trans rfl; have hcz20_1 : w19.cell? ⟨gb198, 1, none⟩ = some (.int .i64 a0_1) := (blk_cell BK198.out 1).trans rfl; have hcz20_2 : w19.cell? ⟨gb198, 2, none⟩ = some (.int .i64 a0_2) := (blk_cell BK198.out 2).trans rfl; have hfz20_0 := blk_frozen BK198.out 0; have hfz20_1 := blk_frozen BK198.out 1; have hfz20_2 := blk_frozen BK198.out 2))
    go_ret
    exact ⟨by first | rfl | (simp [errW_none, errW_some] <;> rfl) | (simp [*, errW_none, errW_some] <;> rfl), by repeat (first | (with_reducible first | exact HB.out | apply below_alloc | apply pw_below_drewN | apply below_drew1 | refine below_set ?_ GE198.out) | exact HB.out)⟩
  ·
   rw [if_neg c3] at H
   have c3b0 : decide (0 ≤ a0_2) = false := decide_eq_false c3
   clear c3
   obtain rfl := Option.some.inj H
   go_enter Try.func26, Try.ntmps26
   go_wp2_with (first | ((with_reducible refine gate_dst (N := 1) rfl ?_); refine box_event ?hg (N := 1) ?hd (cs := #[.int .i64 a0_0, .int .i64 a0_1, .int .i64 a0_2]) (t := 33) ?hr ?_; (case hd => rfl); (case hg => rfl); (case hr => first | (go_simp; done) | (go_simp; rfl)); intro gb198 hg w21 hbox hb; have n0_ := Aside0.mk (below_step (by repeat (first | (with_reducible first | exact HB.out | apply below_alloc | apply pw_below_drewN | apply below_drew1) | exact HB.out)) hb); have n1_ := Aside0.mk (hbox); have n2_ := Aside0.mk ((by rw [hg]; exact (below_size (by repeat (first | (with_reducible first | exact HB.out | apply below_alloc | apply pw_below_drewN | apply below_drew1) | exact HB.out))) : w.heap.size ≤ gb198)); have n3_ := Aside0.mk ((by rw [hg]; exact (below_size (by repeat (first | (with_reducible first | exact HB.out | apply below_alloc | apply pw_below_drewN | apply below_drew1) | exact HB.out))) : w.heap.size ≤ gb198)); clear HB; have HB := n0_; have BK198 := n1_; have GW198 := n2_; have GE198 := n3_; clear n0_ n1_ n2_ n3_; clear hb hbox hg; have hcz22_0 : w21.cell? ⟨gb198, 0, none⟩ = some (.int .i64 a0_0) := (blk_cell BK198.out 0).trans rfl; have hcz22_1 : w21.cell? ⟨gb198, 1, none⟩ = some (.int .i64 a0_1) := (blk_cell BK198.out 1).trans rfl; have hcz22_2 : w21.cell? ⟨gb198, 2, none⟩ = some (.int .i64 a0_2) := (blk_cell BK198.out 2).trans rfl; have hfz22_0 := blk_frozen BK198.out 0; have hfz22_1 := blk_frozen BK198.out 1; have hfz22_2 := blk_frozen BK198.out 2))
   go_ret
   exact ⟨by first | rfl | (simp [errW_none, errW_some] <;> rfl) | (simp [*, errW_none, errW_some] <;> rfl), by repeat (first | (with_reducible first | exact HB.out | apply below_alloc | apply pw_below_drewN | apply below_drew1 | refine below_set ?_ GE198.out) | exact HB.out)⟩
 ·
  rw [if_neg c2] at H
  have c2b0 : decide (0 ≤ a0_0) = false := decide_eq_false c2
  clear c2
  obtain rfl := Option.some.inj H
  go_enter Try.func26, Try.ntmps26
  go_wp2_with (first | ((with_reducible refine gate_dst (N := 1) rfl ?_); refine box_event ?hg (N := 1) ?hd (cs := #[.int .i64 a0_0, .int .i64 a0_1, .int .i64 a0_2]) (t := 33) ?hr ?_; (case hd => rfl); (case hg => rfl); (case hr => first | (go_simp; done) | (go_simp; rfl)); intro gb198 hg w23 hbox hb; have n0_ := Aside0.mk (below_step (by repeat (first | (with_reducible first | exact HB.out | apply below_alloc | apply pw_below_drewN | apply below_drew1) | exact HB.out)) hb); have n1_ := Aside0.mk (hbox); have n2_ := Aside0.mk ((by rw [hg]; exact (below_size (by repeat (first | (with_reducible first | exact HB.out | apply below_alloc | apply pw_below_drewN | apply below_drew1) | exact HB.out))) : w.heap.size ≤ gb198)); have n3_ := Aside0.mk ((by rw [hg]; exact (below_size (by repeat (first | (with_reducible first | exact HB.out | apply below_alloc | apply pw_below_drewN | apply below_drew1) | exact HB.out))) : w.heap.size ≤ gb198)); clear HB; have HB := n0_; have BK198 := n1_; have GW198 := n2_; have GE198 := n3_; clear n0_ n1_ n2_ n3_; clear hb hbox hg; have hcz24_0 : w23.cell? ⟨gb198, 0, none⟩ = some (.int .i64 a0_0) := (blk_cell BK198.out 0).trans rfl; have hcz24_1 : w23.cell? ⟨gb198, 1, none⟩ = some (.int .i64 a0_1) := (blk_cell BK198.out 1).trans rfl; have hcz24_2 : w23.cell? ⟨gb198, 2, none⟩ = some (.int .i64 a0_2) := (blk_cell BK198.out 2).trans rfl; have hfz24_0 := blk_frozen BK198.out 0; have hfz24_1 := blk_frozen BK198.out 1; have hfz24_2 := blk_frozen BK198.out 2))
  go_ret
  exact ⟨by first | rfl | (simp [errW_none, errW_some] <;> rfl) | (simp [*, errW_none, errW_some] <;> rfl), by repeat (first | (with_reducible first | exact HB.out | apply below_alloc | apply pw_below_drewN | apply below_drew1 | refine below_set ?_ GE198.out) | exact HB.out)⟩

end Go.Proofs.Ytcgihjpnemnkeaa.PExtentPut
