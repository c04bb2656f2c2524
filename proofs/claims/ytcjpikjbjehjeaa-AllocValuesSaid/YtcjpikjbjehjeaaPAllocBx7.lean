-- Written for this claim by a program of this session (wip/), out of the translation's own print: Lean checks it
import Derived.Test.YtcjpikjbjehjeaaPAllocBx0
import Derived.Test.YtcjpikjbjehjeaaWRepsOne
import Derived.Test.YtcjpikjbjehjeaaPAllocBx2
import Derived.Test.YtcjpikjbjehjeaaPAllocBx5
import Derived.Test.YtcjpikjbjehjeaaPAllocBx6
namespace Go.Proofs.Ytcjpikjbjehjeaa.PAllocB
open Go.RowKit Go.Proofs.YtcjpikjbjehjeaaW.PrintWords Go.Proofs.YtcjpikjbjehjeaaW.PrintLast Go.Proofs.YtcjpikjbjehjeaaW.PrintMore
attribute [local go_sem] max2_int min2_int max_two min_two max_three min_three max_four min_four   -- for this text's walks alone
set_option linter.unusedVariables false
set_option linter.unusedSimpArgs false

/-! ### alloc_Map_Mark: function 27 -/
def alloc_Map_Mark.f (k : Nat) (a0_0 : Int) (l0_1 : List (S53)) (l1 : List (S53)) : Option (Int × (List (S53)) × Int) := (alloc_Map_permitted.f k a0_0 l0_1 l1).bind fun bt179 => (if bt179.2 = true then ((alloc_without.f k l0_1 bt179.1).bind fun t183 => ((alloc_size.f k t183).bind fun t186 => ((alloc_size.f k bt179.1).bind fun t187 => ((alloc_size.f k l0_1).bind fun t188 => (if (wrap64 (t186 + t187)) = t188 then (some (a0_0, t183, 0)) else (some (0, ([] : List (S53)), 8))))))) else (some (0, ([] : List (S53)), 2)))
theorem alloc_Map_Mark.mono : ∀ a0 a1 a2 k, LeO (alloc_Map_Mark.f k a0 a1 a2) (alloc_Map_Mark.f (k + 1) a0 a1 a2) := by
 intro a0 a1 a2 k
 unfold alloc_Map_Mark.f
 repeat' first
   | (with_reducible exact alloc_Map_permitted.mono _ _ _ _)
   | (with_reducible exact alloc_size.mono _ _)
   | (with_reducible exact alloc_without.mono _ _ _)
   | (with_reducible exact LeO.refl _)
   | (with_reducible exact LeO.none _)
   | (with_reducible refine LeO.ite ?_ ?_)
   | (with_reducible refine LeO.bind ?_ (fun _ => ?_))
   | exact alloc_Map_permitted.mono _ _ _ _
   | exact alloc_size.mono _ _
   | exact alloc_without.mono _ _ _
   | exact LeO.none _
   | refine LeO.ite ?_ ?_
   | refine LeO.bind ?_ (fun _ => ?_)
def alloc_Map_Mark.T5 : Bool × List (List Nat × List Nat) := (true, [([], []), ([0], [0]), ([], []), ([2, 1], [2]), ([1, 3], [1, 3]), ([], []), ([5], [5]), ([6, 3], [6]), ([4, 7], [4, 7])])
def alloc_Map_Mark.B5 : List Nat := [0, 1, 0, 7, 15, 0, 32, 111, 255]
theorem alloc_Map_Mark.tab5 : rtab .any (opsOf Try.f27 5) = alloc_Map_Mark.T5 := by kernel_rfl
theorem alloc_Map_Mark.bits5 : waitsOk alloc_Map_Mark.T5.2 alloc_Map_Mark.B5 = true := by kernel_rfl
set_option maxHeartbeats 8000000 in
set_option maxRecDepth 100000 in
theorem alloc_Map_Mark.calls (k : Nat) (a0_0 : Int) (P0_1_ : Nat → Prop) (A0_1 : Option Addr) (c0_1 : Nat) (l0_1 : List (S53)) (A1 : Option Addr) (c1 : Nat) (l1 : List (S53)) (r1 : Int) (r2 : List (S53)) (r3 : Int) (w : World) (hs0_1 : Kd.V k53 53 w w.heap.size (fun k_ => P0_1_ k_) (.slice A0_1 l0_1.length c0_1) l0_1) (hr1 : Kd.C k53 w A1 l1.length l1) (hc1 : l1.length ≤ c1) (h : alloc_Map_Mark.f k a0_0 l0_1 l1 = some (r1, r2, r3)) :
  Calls Try.prog 27 #[.agg #[.int .i64 a0_0, .slice A0_1 l0_1.length c0_1], .slice A1 l1.length c1] w fun e w' => ∃ v1_ : Value, e = .returned (.tuple #[.agg #[.int .i64 r1, v1_], .int .i64 r3]) ∧ Kd.V k53 53 w' w.heap.size (fun k_ => (P0_1_ k_ ∨ w.heap.size ≤ k_)) v1_ r2 ∧ Below w.heap.size w w' := by
 have hu26 := Try.underlying26
 have HO0_1 := Aa (show Kd.V k53 53 w w.heap.size (fun k_ => (P0_1_ k_ ∨ w.heap.size ≤ k_)) (.slice A0_1 l0_1.length c0_1) l0_1 from Kd.V_mono hs0_1 (fun k_ hk => .inl hk))
 have HR1 := Aside0.mk hr1
 have HC1 := Aside0.mk hc1
 clear hr1 hc1
 have HB := Aa (Below.refl w.heap.size w)
 have H : ((alloc_Map_permitted.f k a0_0 l0_1 l1).bind fun bt179 => (if bt179.2 = true then ((alloc_without.f k l0_1 bt179.1).bind fun t183 => ((alloc_size.f k t183).bind fun t186 => ((alloc_size.f k bt179.1).bind fun t187 => ((alloc_size.f k l0_1).bind fun t188 => (if (wrap64 (t186 + t187)) = t188 then (some (a0_0, t183, 0)) else (some (0, ([] : List (S53)), 8))))))) else (some (0, ([] : List (S53)), 2)))) = some (r1, r2, r3) := h
 clear h
 replace H := Option.bind_eq_some_iff.mp H
 obtain ⟨⟨t179, t182⟩, A30, H⟩ := H
 replace H : (if t182 = true then ((alloc_without.f k l0_1 t179).bind fun t183 => ((alloc_size.f k t183).bind fun t186 => ((alloc_size.f k t179).bind fun t187 => ((alloc_size.f k l0_1).bind fun t188 => (if (wrap64 (t186 + t187)) = t188 then (some (a0_0, t183, 0)) else (some (0, ([] : List (S53)), 8))))))) else (some (0, ([] : List (S53)), 2))) = some (r1, r2, r3) := H
 have A3 := Aside0.mk A30
 clear A30
 by_cases c4 : t182 = true
 ·
  subst c4
  have H1 : ((alloc_without.f k l0_1 t179).bind fun t183 => ((alloc_size.f k t183).bind fun t186 => ((alloc_size.f k t179).bind fun t187 => ((alloc_size.f k l0_1).bind fun t188 => (if (wrap64 (t186 + t187)) = t188 then (some (a0_0, t183, 0)) else (some (0, ([] : List (S53)), 8))))))) = some (r1, r2, r3) := by rw [if_pos rfl] at H; exact H
  clear H
  have H := H1
  clear H1
  replace H := Option.bind_eq_some_iff.mp H
  obtain ⟨t183, A50, H⟩ := H
  replace H : ((alloc_size.f k t183).bind fun t186 => ((alloc_size.f k t179).bind fun t187 => ((alloc_size.f k l0_1).bind fun t188 => (if (wrap64 (t186 + t187)) = t188 then (some (a0_0, t183, 0)) else (some (0, ([] : List (S53)), 8)))))) = some (r1, r2, r3) := H
  have A5 := Aside0.mk A50
  clear A50
  replace H := Option.bind_eq_some_iff.mp H
  obtain ⟨t186, A60, H⟩ := H
  replace H : ((alloc_size.f k t179).bind fun t187 => ((alloc_size.f k l0_1).bind fun t188 => (if (wrap64 (t186 + t187)) = t188 then (some (a0_0, t183, 0)) else (some (0, ([] : List (S53)), 8))))) = some (r1, r2, r3) := H
  have A6 := Aside0.mk A60
  clear A60
  replace H := Option.bind_eq_some_iff.mp H
  obtain ⟨t187, A70, H⟩ := H
  replace H : ((alloc_size.f k l0_1).bind fun t188 => (if (wrap64 (t186 + t187)) = t188 then (some (a0_0, t183, 0)) else (some (0, ([] : List (S53)), 8)))) = some (r1, r2, r3) := H
  have A7 := Aside0.mk A70
  clear A70
  replace H := Option.bind_eq_some_iff.mp H
  obtain ⟨t188, A80, H⟩ := H
  replace H : (if (wrap64 (t186 + t187)) = t188 then (some (a0_0, t183, 0)) else (some (0, ([] : List (S53)), 8))) = some (r1, r2, r3) := H
  have A8 := Aside0.mk A80
  clear A80
  by_cases c9 : (wrap64 (t186 + t187)) = t188
  ·
   rw [if_pos c9] at H
   have c9b0 : ((wrap64 (t186 + t187)) == t188) = true := beq_iff_eq.mpr c9
   have c9b1 : ((wrap64 (t186 + t187)) != t188) = false := bne_eq_false_iff_eq.mpr c9
   clear c9
   simp only [Option.some.injEq, Prod.mk.injEq] at H
   obtain ⟨rfl, rfl, rfl⟩ := H
   go_enter Try.func27, Try.ntmps27
   try go_wp2_with (first | ((with_reducible refine gD 2 ?_); refine bE #[.int .i64 a0_0, .slice A0_1 l0_1.length c0_1] 26 ?_; intro gb177 hg w10 hbox hb; replace HO0_1 := vG HO0_1 hg hb; have BK177 := Aa (hbox); have GW177 := gU HB hg; have GE177 := gU HB hg; have iE177 := Nonempty.intro GE177.1; replace HB := sU HB hb; clear hb hbox hg) | ((with_reducible refine gD 4 ?_); refine bE #[.int .i64 0, .slice none 0 0] 26 ?_; intro gb178 hg w11 hbox hb; replace HO0_1 := vG HO0_1 hg hb; have BK178 := Aa (hbox); have GW178 := gS HB hg; have GE178 := gS HB hg; have iE178 := Nonempty.intro GE178.1; replace HB := sB HB hb; have NB177_178 := nL BK177 hg; have NB178_177 := nG BK177 hg; replace BK177 := kB BK177 hb; clear hb hbox hg; have hnb12 := NB177_178.1; have hnc12 := NB178_177.1; have hcz13_0 : w11.cell? ⟨gb177, 0, none⟩ = some (.int .i64 a0_0) := cC BK177 0; have hcz13_1 : w11.cell? ⟨gb177, 1, none⟩ = some (.slice A0_1 l0_1.length c0_1) := cC BK177 1; have hfz13_0 := fC BK177 0; have hfz13_1 := fC BK177 1) | ((with_reducible refine gC 42 ?_); refine gL 12 Try.func42 #[.agg #[.int .i64 a0_0, .slice A0_1 l0_1.length c0_1], .slice A1 l1.length c1] ?_; (with_reducible refine (alloc_Map_permitted.calls k a0_0 _ _ l0_1 _ _ l1 t179 true _ ?side1 ?side2 ?side3 ?side4 A3.1).mono ?_); (case side1 => repeat (first | exact (Kd.V_reads' HO0_1.1).2.2 | (with_reducible refine Kd.C_alloc ?_ _) | (with_reducible refine Kd.C_drewN ?_ _) | (with_reducible refine Kd.C_drew ?_))); (case side2 => exact (Kd.V_reads' HO0_1.1).2.1); (case side3 => exact cU (Kd.C_below HR1.1 HB.1)); (case side4 => exact HC1.1); rintro e w14 ⟨v180, rfl, ho0, hb⟩; refine ⟨_, rfl, ?_⟩; replace HO0_1 := vE HO0_1 ho0 hb; have HO181 := Aa (Kd.R_lower (Kd.R_newM (M := fun k_ => (w.heap.size ≤ k_)) ho0 (below_size (bS HB.1)) (fun k_ h_ => h_)) (below_size (bS HB.1))); replace BK177 := kB BK177 hb; replace BK178 := kB BK178 hb; replace HB := sB HB hb; (try clear hb); (try clear ho0); have hcz15_0 : w14.cell? ⟨gb177, 0, none⟩ = some (.int .i64 a0_0) := cC BK177 0; have hcz15_1 : w14.cell? ⟨gb177, 1, none⟩ = some (.slice A0_1 l0_1.length c0_1) := cC BK177 1; have hfz15_0 := fC BK177 0; have hfz15_1 := fC BK177 1; obtain ⟨Ao16, co16, eo16⟩ := Kd.R_slice HO181.1; subst eo16) | ((with_reducible refine gC 46 ?_); refine gL 21 Try.func46 #[.slice A0_1 l0_1.length c0_1, .slice Ao16 t179.length co16] ?_; (with_reducible refine (alloc_without.calls k (fun k_ => ((((P0_1_ k_ ∨ w.heap.size ≤ k_) ∧ k_ ≠ gb177) ∧ k_ ≠ gb178) ∧ nb k_ Ao16 t179.length co16)) _ _ l0_1 _ _ t179 t183 _ ?side1 ?side2 ?side3 A5.1).mono ?_); (case side1 => exact HO0_1.1); (case side2 => repeat (first | exact (Kd.R_reads' HO181.1).2.2 | (with_reducible refine Kd.C_alloc ?_ _) | (with_reducible refine Kd.C_drewN ?_ _) | (with_reducible refine Kd.C_drew ?_))); (case side3 => exact (Kd.R_reads' HO181.1).2.1); rintro e w17 ⟨v184, rfl, ho0, hb⟩; refine ⟨_, rfl, ?_⟩; replace HO0_1 := vB HO0_1 hb; have HO185 := Aa (Kd.V_lower (Kd.V_mono (ok' := fun k_ => (P0_1_ k_ ∨ w.heap.size ≤ k_) ∧ nb k_ Ao16 t179.length co16 ∧ k_ ≠ gb177 ∧ k_ ≠ gb178) ho0 (fun k_ hk_ => ⟨Or.elim hk_ (fun hs_ => hs_.1.1.1) (fun hn_ => (.inr (Nat.le_trans (below_size (bS HB.1)) hn_))), Or.elim hk_ (fun hs_ => hs_.2) (fun hn_ => (Kd.fresh' (Kd.R_lt (rU HO181.1)) k_ hn_)), Or.elim hk_ (fun hs_ => hs_.1.1.2) (fun hn_ => (Kd.freshB (g := gb177) (o := .cells #[.int .i64 a0_0, .slice A0_1 l0_1.length c0_1] 26 (0, 0)) (kU BK177.1) k_ hn_)), Or.elim hk_ (fun hs_ => hs_.1.2) (fun hn_ => (Kd.freshB (g := gb178) (o := .cells #[.int .i64 0, .slice none 0 0] 26 (0, 0)) (kU BK178.1) k_ hn_))⟩)) (below_size (bS HB.1))); replace HO181 := rB HO181 hb; replace BK177 := kB BK177 hb; replace BK178 := kB BK178 hb; replace HB := sB HB hb; (try clear hb); (try clear ho0)))
   replace HO0_1 := Aa (Kd.V_drew HO0_1.1)
   replace HO181 := Aa (Kd.R_drew HO181.1)
   replace HO185 := Aa (Kd.V_drew HO185.1)
   replace BK177 := Aa (blk_drew BK177.1)
   replace BK178 := Aa (blk_drew BK178.1)
   replace HB := Aa (below_drew1 HB.1)
   obtain ⟨Ao19, co19, eo19⟩ := Kd.V_slice HO185.1
   (first | subst eo19 | (injection eo19 with f1_ f2_ f3_; have f4_ := f1_.symm; have f5_ := f3_.symm; clear f1_ f2_ f3_; subst f4_; subst f5_))
   refine start_ (n := 9) (S := fun w' => w'.cell? ⟨gb177, 0, none⟩ = some (.int .i64 a0_0) ∧ w'.cell? ⟨gb177, 1, none⟩ = some (.slice A0_1 l0_1.length c0_1)) (ds := []) (bm 9 0) (by kernel_rfl) rfl (bm0 _) ⟨cC BK177 0, cC BK177 1⟩ (fun hHeld => ?_); refine with_tabW alloc_Map_Mark.tab5 alloc_Map_Mark.bits5 (fun HT_ HW_ => ?_)
   generalize w17.drew = w18 at HO0_1 HO181 HO185 BK177 BK178 HB hHeld ⊢
   refine pA 1 0 22 ?_
   refine pA 5 2 24 ?_
   refine pA 37 5 27 ?_
   refine tA 101 6 28 hHeld ?_
   refine oA 103 1 23 (fun K hK => ?_)
   refine gR Try.func31 #[.slice Ao19 t183.length co19] ?_
   with_reducible refine (alloc_size.calls k _ _ t183 t186 _ ?side1 ?side2 A6.1).mono ?_
   (case side1 => repeat (first | exact (Kd.V_reads' HO185.1).2.2 | (with_reducible refine Kd.C_alloc ?_ _) | (with_reducible refine Kd.C_drewN ?_ _) | (with_reducible refine Kd.C_drew ?_)))
   (case side2 => exact (Kd.V_reads' HO185.1).2.1)
   rintro e w20 ⟨rfl, hb⟩
   refine ⟨_, rfl, ?_⟩
   replace HO0_1 := vB HO0_1 hb
   replace HO181 := rB HO181 hb
   replace HO185 := vB HO185 hb
   replace BK177 := kB BK177 hb
   replace BK178 := kB BK178 hb
   replace HB := sB HB hb
   (try clear hb)
   (try clear hb2)
   (try clear hk)
   (try clear hi)
   refine hK.out _ _ ⟨cC BK177 0, cC BK177 1⟩ (fun hHeld => ?_)
   clear hK K
   refine nA ?_
   refine oA 111 3 25 (fun K hK => ?_)
   refine gR Try.func31 #[.slice Ao16 t179.length co16] ?_
   with_reducible refine (alloc_size.calls k _ _ t179 t187 _ ?side1 ?side2 A7.1).mono ?_
   (case side1 => repeat (first | exact (Kd.R_reads' HO181.1).2.2 | (with_reducible refine Kd.C_alloc ?_ _) | (with_reducible refine Kd.C_drewN ?_ _) | (with_reducible refine Kd.C_drew ?_)))
   (case side2 => exact (Kd.R_reads' HO181.1).2.1)
   rintro e w21 ⟨rfl, hb⟩
   refine ⟨_, rfl, ?_⟩
   replace HO0_1 := vB HO0_1 hb
   replace HO181 := rB HO181 hb
   replace HO185 := vB HO185 hb
   replace BK177 := kB BK177 hb
   replace BK178 := kB BK178 hb
   replace HB := sB HB hb
   (try clear hb)
   (try clear hb2)
   (try clear hk)
   (try clear hi)
   refine hK.out _ _ ⟨cC BK177 0, cC BK177 1⟩ (fun hHeld => ?_)
   clear hK K
   refine nA ?_
   refine pA 127 4 26 ?_
   refine oA 255 7 29 (fun K hK => ?_)
   refine gR Try.func31 #[.slice A0_1 l0_1.length c0_1] ?_
   with_reducible refine (alloc_size.calls k _ _ l0_1 t188 _ ?side1 ?side2 A8.1).mono ?_
   (case side1 => repeat (first | exact (Kd.V_reads' HO0_1.1).2.2 | (with_reducible refine Kd.C_alloc ?_ _) | (with_reducible refine Kd.C_drewN ?_ _) | (with_reducible refine Kd.C_drew ?_)))
   (case side2 => exact (Kd.V_reads' HO0_1.1).2.1)
   rintro e w22 ⟨rfl, hb⟩
   refine ⟨_, rfl, ?_⟩
   replace HO0_1 := vB HO0_1 hb
   replace HO181 := rB HO181 hb
   replace HO185 := vB HO185 hb
   replace BK177 := kB BK177 hb
   replace BK178 := kB BK178 hb
   replace HB := sB HB hb
   (try clear hb)
   (try clear hb2)
   (try clear hk)
   (try clear hi)
   refine hK.out _ _ ⟨cC BK177 0, cC BK177 1⟩ (fun hHeld => ?_)
   clear hK K
   refine nA ?_
   refine pA 511 8 30 ?_
   refine done_ (done_of HT_.1 (by kernel_rfl)) ?_
   have hcz23_0 : w22.cell? ⟨gb177, 0, none⟩ = some (.int .i64 a0_0) := cC BK177 0
   have hcz23_1 : w22.cell? ⟨gb177, 1, none⟩ = some (.slice A0_1 l0_1.length c0_1) := cC BK177 1
   have hfz23_0 := fC BK177 0
   have hfz23_1 := fC BK177 1
   have hcz24_0 : w22.cell? ⟨gb178, 0, none⟩ = some (.int .i64 0) := cC BK178 0
   have hcz24_1 : w22.cell? ⟨gb178, 1, none⟩ = some (.slice none 0 0) := cC BK178 1
   have hfz24_0 := fC BK178 0
   have hfz24_1 := fC BK178 1
   try go_wp2
   refine bodyPost_ret (results_ct rfl _ _ gb178 26 #[.int .i64 a0_0, .slice Ao19 t183.length co19] (0, 0) _ rfl (by refine kP ?_; refine blk_put (cs := #[.int .i64 a0_0, .slice none 0 0]) ?_ 1 _ rfl; refine kP ?_; refine blk_put (cs := #[.int .i64 0, .slice none 0 0]) ?_ 0 _ rfl; refine kP ?_; exact BK178.1) Try.underlying26 rfl (by kernel_rfl)) rfl ?_
   exact ⟨_, fT, vU (Kd.V_mono (Kd.V_far (p := ⟨gb178, 1, none⟩) (Kd.V_far (p := ⟨gb178, 0, none⟩) (Kd.V_mono HO185.1 (fun k_ hk => (⟨hk, hk.2.2.2⟩ : _ ∧ k_ ≠ gb178))) (fun _ hk => hk.2) (.int .i64 a0_0)) (fun _ hk => hk.2) (.slice Ao19 t183.length co19)) (fun _ hk => hk.1.1)), bS HB.1⟩
  ·
   rw [if_neg c9] at H
   have c9b0 : ((wrap64 (t186 + t187)) == t188) = false := beq_eq_false_iff_ne.mpr c9
   have c9b1 : ((wrap64 (t186 + t187)) != t188) = true := bne_iff_ne.mpr c9
   simp only [Option.some.injEq, Prod.mk.injEq] at H
   obtain ⟨rfl, rfl, rfl⟩ := H
   go_enter Try.func27, Try.ntmps27
   try go_wp2_with (first | ((with_reducible refine gD 2 ?_); refine bE #[.int .i64 a0_0, .slice A0_1 l0_1.length c0_1] 26 ?_; intro gb177 hg w25 hbox hb; replace HO0_1 := vG HO0_1 hg hb; have BK177 := Aa (hbox); have GW177 := gU HB hg; have GE177 := gU HB hg; have iE177 := Nonempty.intro GE177.1; replace HB := sU HB hb; clear hb hbox hg) | ((with_reducible refine gD 4 ?_); refine bE #[.int .i64 0, .slice none 0 0] 26 ?_; intro gb178 hg w26 hbox hb; replace HO0_1 := vG HO0_1 hg hb; have BK178 := Aa (hbox); have GW178 := gS HB hg; have GE178 := gS HB hg; have iE178 := Nonempty.intro GE178.1; replace HB := sB HB hb; have NB177_178 := nL BK177 hg; have NB178_177 := nG BK177 hg; replace BK177 := kB BK177 hb; clear hb hbox hg; have hnb27 := NB177_178.1; have hnc27 := NB178_177.1; have hcz28_0 : w26.cell? ⟨gb177, 0, none⟩ = some (.int .i64 a0_0) := cC BK177 0; have hcz28_1 : w26.cell? ⟨gb177, 1, none⟩ = some (.slice A0_1 l0_1.length c0_1) := cC BK177 1; have hfz28_0 := fC BK177 0; have hfz28_1 := fC BK177 1) | ((with_reducible refine gC 42 ?_); refine gL 12 Try.func42 #[.agg #[.int .i64 a0_0, .slice A0_1 l0_1.length c0_1], .slice A1 l1.length c1] ?_; (with_reducible refine (alloc_Map_permitted.calls k a0_0 _ _ l0_1 _ _ l1 t179 true _ ?side1 ?side2 ?side3 ?side4 A3.1).mono ?_); (case side1 => repeat (first | exact (Kd.V_reads' HO0_1.1).2.2 | (with_reducible refine Kd.C_alloc ?_ _) | (with_reducible refine Kd.C_drewN ?_ _) | (with_reducible refine Kd.C_drew ?_))); (case side2 => exact (Kd.V_reads' HO0_1.1).2.1); (case side3 => exact cU (Kd.C_below HR1.1 HB.1)); (case side4 => exact HC1.1); rintro e w29 ⟨v180, rfl, ho0, hb⟩; refine ⟨_, rfl, ?_⟩; replace HO0_1 := vE HO0_1 ho0 hb; have HO181 := Aa (Kd.R_lower (Kd.R_newM (M := fun k_ => (w.heap.size ≤ k_)) ho0 (below_size (bS HB.1)) (fun k_ h_ => h_)) (below_size (bS HB.1))); replace BK177 := kB BK177 hb; replace BK178 := kB BK178 hb; replace HB := sB HB hb; (try clear hb); (try clear ho0); have hcz30_0 : w29.cell? ⟨gb177, 0, none⟩ = some (.int .i64 a0_0) := cC BK177 0; have hcz30_1 : w29.cell? ⟨gb177, 1, none⟩ = some (.slice A0_1 l0_1.length c0_1) := cC BK177 1; have hfz30_0 := fC BK177 0; have hfz30_1 := fC BK177 1; obtain ⟨Ao31, co31, eo31⟩ := Kd.R_slice HO181.1; subst eo31) | ((with_reducible refine gC 46 ?_); refine gL 21 Try.func46 #[.slice A0_1 l0_1.length c0_1, .slice Ao31 t179.length co31] ?_; (with_reducible refine (alloc_without.calls k (fun k_ => ((((P0_1_ k_ ∨ w.heap.size ≤ k_) ∧ k_ ≠ gb177) ∧ k_ ≠ gb178) ∧ nb k_ Ao31 t179.length co31)) _ _ l0_1 _ _ t179 t183 _ ?side1 ?side2 ?side3 A5.1).mono ?_); (case side1 => exact HO0_1.1); (case side2 => repeat (first | exact (Kd.R_reads' HO181.1).2.2 | (with_reducible refine Kd.C_alloc ?_ _) | (with_reducible refine Kd.C_drewN ?_ _) | (with_reducible refine Kd.C_drew ?_))); (case side3 => exact (Kd.R_reads' HO181.1).2.1); rintro e w32 ⟨v184, rfl, ho0, hb⟩; refine ⟨_, rfl, ?_⟩; replace HO0_1 := vB HO0_1 hb; have HO185 := Aa (Kd.V_lower (Kd.V_mono (ok' := fun k_ => (P0_1_ k_ ∨ w.heap.size ≤ k_) ∧ nb k_ Ao31 t179.length co31 ∧ k_ ≠ gb177 ∧ k_ ≠ gb178) ho0 (fun k_ hk_ => ⟨Or.elim hk_ (fun hs_ => hs_.1.1.1) (fun hn_ => (.inr (Nat.le_trans (below_size (bS HB.1)) hn_))), Or.elim hk_ (fun hs_ => hs_.2) (fun hn_ => (Kd.fresh' (Kd.R_lt (rU HO181.1)) k_ hn_)), Or.elim hk_ (fun hs_ => hs_.1.1.2) (fun hn_ => (Kd.freshB (g := gb177) (o := .cells #[.int .i64 a0_0, .slice A0_1 l0_1.length c0_1] 26 (0, 0)) (kU BK177.1) k_ hn_)), Or.elim hk_ (fun hs_ => hs_.1.2) (fun hn_ => (Kd.freshB (g := gb178) (o := .cells #[.int .i64 0, .slice none 0 0] 26 (0, 0)) (kU BK178.1) k_ hn_))⟩)) (below_size (bS HB.1))); replace HO181 := rB HO181 hb; replace BK177 := kB BK177 hb; replace BK178 := kB BK178 hb; replace HB := sB HB hb; (try clear hb); (try clear ho0)))
   replace HO0_1 := Aa (Kd.V_drew HO0_1.1)
   replace HO181 := Aa (Kd.R_drew HO181.1)
   replace HO185 := Aa (Kd.V_drew HO185.1)
   replace BK177 := Aa (blk_drew BK177.1)
   replace BK178 := Aa (blk_drew BK178.1)
   replace HB := Aa (below_drew1 HB.1)
   obtain ⟨Ao34, co34, eo34⟩ := Kd.V_slice HO185.1
   (first | subst eo34 | (injection eo34 with f1_ f2_ f3_; have f4_ := f1_.symm; have f5_ := f3_.symm; clear f1_ f2_ f3_; subst f4_; subst f5_))
   refine start_ (n := 9) (S := fun w' => w'.cell? ⟨gb177, 0, none⟩ = some (.int .i64 a0_0) ∧ w'.cell? ⟨gb177, 1, none⟩ = some (.slice A0_1 l0_1.length c0_1)) (ds := []) (bm 9 0) (by kernel_rfl) rfl (bm0 _) ⟨cC BK177 0, cC BK177 1⟩ (fun hHeld => ?_); refine with_tabW alloc_Map_Mark.tab5 alloc_Map_Mark.bits5 (fun HT_ HW_ => ?_)
   generalize w32.drew = w33 at HO0_1 HO181 HO185 BK177 BK178 HB hHeld ⊢
   refine pA 1 0 22 ?_
   refine pA 5 2 24 ?_
   refine pA 37 5 27 ?_
   refine tA 101 6 28 hHeld ?_
   refine oA 103 1 23 (fun K hK => ?_)
   refine gR Try.func31 #[.slice Ao34 t183.length co34] ?_
   with_reducible refine (alloc_size.calls k _ _ t183 t186 _ ?side1 ?side2 A6.1).mono ?_
   (case side1 => repeat (first | exact (Kd.V_reads' HO185.1).2.2 | (with_reducible refine Kd.C_alloc ?_ _) | (with_reducible refine Kd.C_drewN ?_ _) | (with_reducible refine Kd.C_drew ?_)))
   (case side2 => exact (Kd.V_reads' HO185.1).2.1)
   rintro e w35 ⟨rfl, hb⟩
   refine ⟨_, rfl, ?_⟩
   replace HO0_1 := vB HO0_1 hb
   replace HO181 := rB HO181 hb
   replace HO185 := vB HO185 hb
   replace BK177 := kB BK177 hb
   replace BK178 := kB BK178 hb
   replace HB := sB HB hb
   (try clear hb)
   (try clear hb2)
   (try clear hk)
   (try clear hi)
   refine hK.out _ _ ⟨cC BK177 0, cC BK177 1⟩ (fun hHeld => ?_)
   clear hK K
   refine nA ?_
   refine oA 111 3 25 (fun K hK => ?_)
   refine gR Try.func31 #[.slice Ao31 t179.length co31] ?_
   with_reducible refine (alloc_size.calls k _ _ t179 t187 _ ?side1 ?side2 A7.1).mono ?_
   (case side1 => repeat (first | exact (Kd.R_reads' HO181.1).2.2 | (with_reducible refine Kd.C_alloc ?_ _) | (with_reducible refine Kd.C_drewN ?_ _) | (with_reducible refine Kd.C_drew ?_)))
   (case side2 => exact (Kd.R_reads' HO181.1).2.1)
   rintro e w36 ⟨rfl, hb⟩
   refine ⟨_, rfl, ?_⟩
   replace HO0_1 := vB HO0_1 hb
   replace HO181 := rB HO181 hb
   replace HO185 := vB HO185 hb
   replace BK177 := kB BK177 hb
   replace BK178 := kB BK178 hb
   replace HB := sB HB hb
   (try clear hb)
   (try clear hb2)
   (try clear hk)
   (try clear hi)
   refine hK.out _ _ ⟨cC BK177 0, cC BK177 1⟩ (fun hHeld => ?_)
   clear hK K
   refine nA ?_
   refine pA 127 4 26 ?_
   refine oA 255 7 29 (fun K hK => ?_)
   refine gR Try.func31 #[.slice A0_1 l0_1.length c0_1] ?_
   with_reducible refine (alloc_size.calls k _ _ l0_1 t188 _ ?side1 ?side2 A8.1).mono ?_
   (case side1 => repeat (first | exact (Kd.V_reads' HO0_1.1).2.2 | (with_reducible refine Kd.C_alloc ?_ _) | (with_reducible refine Kd.C_drewN ?_ _) | (with_reducible refine Kd.C_drew ?_)))
   (case side2 => exact (Kd.V_reads' HO0_1.1).2.1)
   rintro e w37 ⟨rfl, hb⟩
   refine ⟨_, rfl, ?_⟩
   replace HO0_1 := vB HO0_1 hb
   replace HO181 := rB HO181 hb
   replace HO185 := vB HO185 hb
   replace BK177 := kB BK177 hb
   replace BK178 := kB BK178 hb
   replace HB := sB HB hb
   (try clear hb)
   (try clear hb2)
   (try clear hk)
   (try clear hi)
   refine hK.out _ _ ⟨cC BK177 0, cC BK177 1⟩ (fun hHeld => ?_)
   clear hK K
   refine nA ?_
   refine pA 511 8 30 ?_
   refine done_ (done_of HT_.1 (by kernel_rfl)) ?_
   have hcz38_0 : w37.cell? ⟨gb178, 0, none⟩ = some (.int .i64 0) := cC BK178 0
   have hcz38_1 : w37.cell? ⟨gb178, 1, none⟩ = some (.slice none 0 0) := cC BK178 1
   have hfz38_0 := fC BK178 0
   have hfz38_1 := fC BK178 1
   try go_wp2
   refine bodyPost_ret (results_ct rfl _ _ gb178 26 #[.int .i64 0, .slice none 0 0] (0, 0) _ rfl (by refine kP ?_; refine blk_put (cs := #[.int .i64 0, .slice none 0 0]) ?_ 1 _ rfl; refine kP ?_; refine blk_put (cs := #[.int .i64 0, .slice none 0 0]) ?_ 0 _ rfl; refine kP ?_; exact BK178.1) Try.underlying26 rfl (by kernel_rfl)) rfl ?_
   exact ⟨_, fT, Kd.V_nil _ _ _ _ _, bS HB.1⟩
 ·
  replace c4 := Bool.eq_false_iff.mpr c4
  subst c4
  have H1 : (some (0, ([] : List (S53)), 2)) = some (r1, r2, r3) := by rw [if_neg (show ¬ (false = true) by decide)] at H; exact H
  clear H
  have H := H1
  clear H1
  simp only [Option.some.injEq, Prod.mk.injEq] at H
  obtain ⟨rfl, rfl, rfl⟩ := H
  go_enter Try.func27, Try.ntmps27
  go_wp2_with (first | ((with_reducible refine gD 2 ?_); refine bE #[.int .i64 a0_0, .slice A0_1 l0_1.length c0_1] 26 ?_; intro gb177 hg w39 hbox hb; replace HO0_1 := vG HO0_1 hg hb; have BK177 := Aa (hbox); have GW177 := gU HB hg; have GE177 := gU HB hg; have iE177 := Nonempty.intro GE177.1; replace HB := sU HB hb; clear hb hbox hg) | ((with_reducible refine gD 4 ?_); refine bE #[.int .i64 0, .slice none 0 0] 26 ?_; intro gb178 hg w40 hbox hb; replace HO0_1 := vG HO0_1 hg hb; have BK178 := Aa (hbox); have GW178 := gS HB hg; have GE178 := gS HB hg; have iE178 := Nonempty.intro GE178.1; replace HB := sB HB hb; have NB177_178 := nL BK177 hg; have NB178_177 := nG BK177 hg; replace BK177 := kB BK177 hb; clear hb hbox hg; have hnb41 := NB177_178.1; have hnc41 := NB178_177.1; have hcz42_0 : w40.cell? ⟨gb177, 0, none⟩ = some (.int .i64 a0_0) := cC BK177 0; have hcz42_1 : w40.cell? ⟨gb177, 1, none⟩ = some (.slice A0_1 l0_1.length c0_1) := cC BK177 1; have hfz42_0 := fC BK177 0; have hfz42_1 := fC BK177 1) | ((with_reducible refine gC 42 ?_); refine gL 12 Try.func42 #[.agg #[.int .i64 a0_0, .slice A0_1 l0_1.length c0_1], .slice A1 l1.length c1] ?_; (with_reducible refine (alloc_Map_permitted.calls k a0_0 _ _ l0_1 _ _ l1 t179 false _ ?side1 ?side2 ?side3 ?side4 A3.1).mono ?_); (case side1 => repeat (first | exact (Kd.V_reads' HO0_1.1).2.2 | (with_reducible refine Kd.C_alloc ?_ _) | (with_reducible refine Kd.C_drewN ?_ _) | (with_reducible refine Kd.C_drew ?_))); (case side2 => exact (Kd.V_reads' HO0_1.1).2.1); (case side3 => exact cU (Kd.C_below HR1.1 HB.1)); (case side4 => exact HC1.1); rintro e w43 ⟨v180, rfl, ho0, hb⟩; refine ⟨_, rfl, ?_⟩; replace HO0_1 := vE HO0_1 ho0 hb; have HO181 := Aa (Kd.R_lower (Kd.R_newM (M := fun k_ => (w.heap.size ≤ k_)) ho0 (below_size (bS HB.1)) (fun k_ h_ => h_)) (below_size (bS HB.1))); replace BK177 := kB BK177 hb; replace BK178 := kB BK178 hb; replace HB := sB HB hb; (try clear hb); (try clear ho0); have hcz44_0 : w43.cell? ⟨gb178, 0, none⟩ = some (.int .i64 0) := cC BK178 0; have hcz44_1 : w43.cell? ⟨gb178, 1, none⟩ = some (.slice none 0 0) := cC BK178 1; have hfz44_0 := fC BK178 0; have hfz44_1 := fC BK178 1))
  refine bodyPost_ret (results_ct rfl _ _ gb178 26 #[.int .i64 0, .slice none 0 0] (0, 0) _ rfl (by refine kP ?_; refine blk_put (cs := #[.int .i64 0, .slice none 0 0]) ?_ 1 _ rfl; refine kP ?_; refine blk_put (cs := #[.int .i64 0, .slice none 0 0]) ?_ 0 _ rfl; refine kP ?_; exact BK178.1) Try.underlying26 rfl (by kernel_rfl)) rfl ?_
  exact ⟨_, fT, Kd.V_nil _ _ _ _ _, bS HB.1⟩

/-! ### alloc_fit: function 48 -/
def alloc_fit.f (l0 : List (S53)) (a1 : Int) : Option ((List (S53)) × Bool) := (api_Extent_62.f l0 a1).bind fun t190 => (if t190 < 0 then (some (([] : List (S53)), false)) else (if 0 ≤ t190 then (if t190 < (l0.length : Int) then ((alloc_run.f ((rd_T53 l0 t190).f2) (wrap64 (((rd_T53 l0 t190).f2) + a1))).bind fun bt193 => (some ((([(⟨bt193.1, bt193.2.1, bt193.2.2⟩ : S53)] : List (S53))), true))) else (none)) else (none)))
def alloc_fit.T4 : Bool × List (List Nat × List Nat) := (true, [([], []), ([], []), ([0, 1], [0, 1]), ([2], [2]), ([3], [3]), ([], []), ([], []), ([5, 6], [5, 6]), ([7], [7]), ([8], [8]), ([], []), ([9, 10], [9, 10]), ([4, 11], [4, 11]), ([12], [12]), ([13, 12, 0, 1, 2, 3, 4, 5, 6, 7, 8, 9, 10, 11, 12, 13], [13]), ([14, 0, 1, 2, 3, 4, 5, 6, 7, 8, 9, 10, 11, 12, 13, 14], [])])
def alloc_fit.B4 : List Nat := [0, 0, 3, 7, 15, 0, 0, 96, 224, 480, 0, 2016, 4095, 8191, 16383, 32767]
theorem alloc_fit.tab4 : rtab .any (opsOf Try.f48 4) = alloc_fit.T4 := by kernel_rfl
theorem alloc_fit.bits4 : waitsOk alloc_fit.T4.2 alloc_fit.B4 = true := by kernel_rfl
set_option maxHeartbeats 8000000 in
set_option maxRecDepth 100000 in
theorem alloc_fit.calls (A0 : Option Addr) (c0 : Nat) (l0 : List (S53)) (a1 : Int) (r1 : List (S53)) (r2 : Bool) (w : World) (hr0 : Kd.C k53 w A0 l0.length l0) (hc0 : l0.length ≤ c0) (h : alloc_fit.f l0 a1 = some (r1, r2)) :
  Calls Try.prog 48 #[.slice A0 l0.length c0, .int .i64 a1] w fun e w' => ∃ v0_ : Value, e = .returned (.tuple #[v0_, .bool r2]) ∧ Kd.R k53 53 w' w.heap.size (fun _ => True) v0_ r1 ∧ Below w.heap.size w w' := by
 have HR0 := Aside0.mk hr0
 have HC0 := Aside0.mk hc0
 clear hr0 hc0
 have HB := Aa (Below.refl w.heap.size w)
 have H : ((api_Extent_62.f l0 a1).bind fun t190 => (if t190 < 0 then (some (([] : List (S53)), false)) else (if 0 ≤ t190 then (if t190 < (l0.length : Int) then ((alloc_run.f ((rd_T53 l0 t190).f2) (wrap64 (((rd_T53 l0 t190).f2) + a1))).bind fun bt193 => (some ((([(⟨bt193.1, bt193.2.1, bt193.2.2⟩ : S53)] : List (S53))), true))) else (none)) else (none)))) = some (r1, r2) := h
 clear h
 replace H := Option.bind_eq_some_iff.mp H
 obtain ⟨t190, A30, H⟩ := H
 replace H : (if t190 < 0 then (some (([] : List (S53)), false)) else (if 0 ≤ t190 then (if t190 < (l0.length : Int) then ((alloc_run.f ((rd_T53 l0 t190).f2) (wrap64 (((rd_T53 l0 t190).f2) + a1))).bind fun bt193 => (some ((([(⟨bt193.1, bt193.2.1, bt193.2.2⟩ : S53)] : List (S53))), true))) else (none)) else (none))) = some (r1, r2) := H
 have A3 := Aside0.mk A30
 clear A30
 by_cases c4 : t190 < 0
 ·
  rw [if_pos c4] at H
  have c4b0 := decide_eq_true c4
  clear c4
  simp only [Option.some.injEq, Prod.mk.injEq] at H
  obtain ⟨rfl, rfl⟩ := H
  go_enter Try.func48, Try.ntmps48
  go_wp2_with (first | ((with_reducible refine gD 3 ?_); refine bE #[.int .i64 a1] 3 ?_; intro gb189 hg w5 hbox hb; have BK189 := Aa (hbox); have GW189 := gU HB hg; have GE189 := gU HB hg; have iE189 := Nonempty.intro GE189.1; replace HB := sU HB hb; clear hb hbox hg) | ((with_reducible refine gC 62 ?_); refine gL 9 Try.func62 #[.slice A0 l0.length c0, .func (.func 63) #[] #[.pointer (some ⟨gb189, 0, none⟩)]] ?_; (with_reducible refine (api_Extent_62.calls _ _ l0 a1 t190 _ gb189 ?side1 ?side2 A3.1 (kU BK189.1)).mono ?_); (case side1 => exact cU (Kd.C_below HR0.1 HB.1)); (case side2 => exact HC0.1); rintro e w6 ⟨rfl, hb⟩; refine ⟨_, rfl, ?_⟩; replace BK189 := kB BK189 hb; replace HB := sB HB hb; (try clear hb)))
  go_ret2
  exact ⟨_, fT, by first | exact Kd.R_nil _ _ _ _ _ | exact Kd.N_nil _ _ _ _ _ | exact Kd.V_nil _ _ _ _ _ | exact Kd.Q_nil _ _ _ _ _ | exact Kd.S_nil _ _ _ _ _, bS HB.1⟩
 ·
  rw [if_neg c4] at H
  have c4b0 := decide_eq_false c4
  clear c4
  by_cases c7 : 0 ≤ t190
  ·
   rw [if_pos c7] at H
   have c7b0 := decide_eq_true c7
   clear c7
   by_cases c8 : t190 < (l0.length : Int)
   ·
    rw [if_pos c8] at H
    have c8b0 := decide_eq_true c8
    clear c8
    replace H := Option.bind_eq_some_iff.mp H
    obtain ⟨⟨t193, t194, t195⟩, A90, H⟩ := H
    replace H : (some ((([(⟨t193, t194, t195⟩ : S53)] : List (S53))), true)) = some (r1, r2) := H
    have A9 := Aside0.mk A90
    clear A90
    obtain ⟨y196, hy196⟩ : ∃ y_ : List (S53), y_ = (([(⟨t193, t194, t195⟩ : S53)] : List (S53))) := ⟨_, rfl⟩
    replace H : (some (y196, true)) = some (r1, r2) := by first | (rw [hy196]; exact H) | exact H
    have Ny196 := Aside0.mk hy196
    clear hy196
    simp only [Option.some.injEq, Prod.mk.injEq] at H
    obtain ⟨rfl, rfl⟩ := H
    go_enter Try.func48, Try.ntmps48
    try go_wp2_with (first | ((with_reducible refine gD 3 ?_); refine bE #[.int .i64 a1] 3 ?_; intro gb189 hg w10 hbox hb; have BK189 := Aa (hbox); have GW189 := gU HB hg; have GE189 := gU HB hg; have iE189 := Nonempty.intro GE189.1; replace HB := sU HB hb; clear hb hbox hg) | ((with_reducible refine gC 62 ?_); refine gL 9 Try.func62 #[.slice A0 l0.length c0, .func (.func 63) #[] #[.pointer (some ⟨gb189, 0, none⟩)]] ?_; (with_reducible refine (api_Extent_62.calls _ _ l0 a1 t190 _ gb189 ?side1 ?side2 A3.1 (kU BK189.1)).mono ?_); (case side1 => exact cU (Kd.C_below HR0.1 HB.1)); (case side2 => exact HC0.1); rintro e w11 ⟨rfl, hb⟩; refine ⟨_, rfl, ?_⟩; replace BK189 := kB BK189 hb; replace HB := sB HB hb; (try clear hb)))
    replace BK189 := Aa (blk_drew BK189.1)
    replace HB := Aa (below_drew1 HB.1)
    have p191 : 0 ≤ (t190 : Int) := dT
    have q191 : t190 < (l0.length : Int) := dT
    obtain ⟨ad191, e191, hx191_0, hx191_1, hx191_2⟩ := at_T53 HR0.1 t190 p191 q191
    have hw191_2 := hx191_2
    have hw191_1 := hx191_1
    have hw191_0 := hx191_0
    cases e191
    replace hx191_0 := cB HB hx191_0
    replace hx191_1 := cB HB hx191_1
    replace hx191_2 := cB HB hx191_2
    replace p191 := eq_true p191
    replace q191 := eq_true q191
    have p192 : 0 ≤ (t190 : Int) := dT
    have q192 : t190 < (l0.length : Int) := dT
    obtain ⟨ad192, e192, hx192_0, hx192_1, hx192_2⟩ := at_T53 HR0.1 t190 p192 q192
    have hw192_2 := hx192_2
    have hw192_1 := hx192_1
    have hw192_0 := hx192_0
    obtain rfl : ad191 = ad192 := (by injection e192)
    replace hx192_0 := cB HB hx192_0
    replace hx192_1 := cB HB hx192_1
    replace hx192_2 := cB HB hx192_2
    replace p192 := eq_true p192
    replace q192 := eq_true q192
    refine start_ (n := 16) (S := fun w' => w'.cell? ⟨gb189, 0, none⟩ = some (.int .i64 a1) ∧ w'.cell? (ad191.add ((t190).toNat * 3)) = some (.int .i64 ((rd_T53 l0 t190).f0)) ∧ w'.cell? ⟨(ad191.add ((t190).toNat * 3)).block, (ad191.add ((t190).toNat * 3)).off + 1, none⟩ = some (.int .i64 ((rd_T53 l0 t190).f1)) ∧ w'.cell? ⟨(ad191.add ((t190).toNat * 3)).block, (ad191.add ((t190).toNat * 3)).off + 2, none⟩ = some (.int .i64 ((rd_T53 l0 t190).f2)) ∧ w'.cell? (ad191.add ((t190).toNat * 3)) = some (.int .i64 ((rd_T53 l0 t190).f0)) ∧ w'.cell? ⟨(ad191.add ((t190).toNat * 3)).block, (ad191.add ((t190).toNat * 3)).off + 1, none⟩ = some (.int .i64 ((rd_T53 l0 t190).f1)) ∧ w'.cell? ⟨(ad191.add ((t190).toNat * 3)).block, (ad191.add ((t190).toNat * 3)).off + 2, none⟩ = some (.int .i64 ((rd_T53 l0 t190).f2))) (ds := []) (bm 16 0) (by kernel_rfl) rfl (bm0 _) ⟨cC BK189 0, (cB HB hw191_0), (cB HB hw191_1), (cB HB hw191_2), (cB HB hw192_0), (cB HB hw192_1), (cB HB hw192_2)⟩ (fun hHeld => ?_); refine with_tabW alloc_fit.tab4 alloc_fit.bits4 (fun HT_ HW_ => ?_)
    generalize w11.drew = w12 at BK189 HB hx191_0 hx191_1 hx191_2 hx192_0 hx192_1 hx192_2 hHeld ⊢
    refine pA 1 0 12 ?_
    refine pA 3 1 13 ?_
    refine pA 7 2 14 ?_
    refine pA 15 3 15 ?_
    refine pA 47 5 17 ?_
    refine pA 111 6 18 ?_
    refine pA 239 7 19 ?_
    refine pA 495 8 20 ?_
    refine tA 511 4 16 hHeld ?_
    refine tA 1023 9 21 hHeld ?_
    refine tA 2047 10 22 hHeld ?_
    refine pA 4095 11 23 ?_
    refine oA 8191 12 24 (fun K hK => ?_)
    refine gR Try.func61 #[.int .i64 ((rd_T53 l0 t190).f2), .int .i64 (wrap64 (((rd_T53 l0 t190).f2) + a1))] ?_
    with_reducible refine (alloc_run.calls ((rd_T53 l0 t190).f2) (wrap64 (((rd_T53 l0 t190).f2) + a1)) t193 t194 t195 _ A9.1).mono ?_
    rintro e w13 ⟨rfl, hb⟩
    refine ⟨_, rfl, ?_⟩
    replace BK189 := kB BK189 hb
    replace HB := sB HB hb
    (try clear hb)
    (try clear hb2)
    (try clear hk)
    (try clear hi)
    refine hK.out _ _ ⟨cC BK189 0, (cB HB hw191_0), (cB HB hw191_1), (cB HB hw191_2), (cB HB hw192_0), (cB HB hw192_1), (cB HB hw192_2)⟩ (fun hHeld => ?_)
    clear hK K
    refine nA ?_
    refine oA 16383 13 25 (fun K hK => ?_)
    refine Kd.R_lit_step k53 _ 53 ?hg (N := 25) ?hd (xs := ([(⟨t193, t194, t195⟩ : S53)] : List (S53))) (inner := [.int .i64 t193, .int .i64 t194, .int .i64 t195]) (ok := fun _ => True) (okp := fun _ => True) ?hr ?hp (fun _ hk => hk) trivial (Below.refl _ _) (Nat.le_refl _) (by simp) ?_; (case hd => rfl); (case hg => rfl); (case hr => first | (go_simp; done) | (go_simp; rfl)); (case hp => exact (Reps.c3 (show Kd.M k53 _ _ _ (⟨t193, t194, t195⟩ : S53) [.int .i64 t193, .int .i64 t194, .int .i64 t195] from (k53_mkM _ _ _ (⟨t193, t194, t195⟩ : S53) )) (Reps.none _ _)))
    intro v197 w14 ho15 hb hg_ hnew_
    clear hg_ hnew_
    (first | rw [← Ny196.1] at ho15 | (simp only [Int.reduceToNat] at ho15; rw [← Ny196.1] at ho15))
    have HO198 := Aa (Kd.R_lower ho15 (below_size (bS HB.1)))
    replace BK189 := kB BK189 hb
    replace HB := sB HB hb
    clear hb ho15
    refine hK.out _ _ ⟨cC BK189 0, (cB HB hw191_0), (cB HB hw191_1), (cB HB hw191_2), (cB HB hw192_0), (cB HB hw192_1), (cB HB hw192_2)⟩ (fun hHeld => ?_)
    clear hK K
    refine nA ?_
    refine pA 32767 14 4 ?_
    refine pA 65535 15 5 ?_
    refine done_ (done_of HT_.1 (by kernel_rfl)) ?_
    try go_wp2
    go_ret2
    exact ⟨_, fT, rU HO198.1, bS HB.1⟩
   ·
    rw [if_neg c8] at H
    exact absurd H (by simp)
  ·
   rw [if_neg c7] at H
   exact absurd H (by simp)

/-! ### alloc_behind: function 28 -/
def alloc_behind.f (k : Nat) (a0_0 : Int) (l0_1 : List (S53)) (a1 : Int) (a2 : Int) : Option ((List (S53)) × Bool) := (alloc_clip.f k l0_1 a2).bind fun bt200 => ((alloc_fit.f bt200.1 a1).bind fun bt206 => (some (bt206.1, bt206.2)))
theorem alloc_behind.mono : ∀ a0 a1 a2 a3 k, LeO (alloc_behind.f k a0 a1 a2 a3) (alloc_behind.f (k + 1) a0 a1 a2 a3) := by
 intro a0 a1 a2 a3 k
 unfold alloc_behind.f
 repeat' first
   | (with_reducible exact alloc_clip.mono _ _ _)
   | (with_reducible exact LeO.refl _)
   | (with_reducible exact LeO.none _)
   | (with_reducible refine LeO.ite ?_ ?_)
   | (with_reducible refine LeO.bind ?_ (fun _ => ?_))
   | exact alloc_clip.mono _ _ _
   | exact LeO.none _
   | refine LeO.ite ?_ ?_
   | refine LeO.bind ?_ (fun _ => ?_)
set_option maxHeartbeats 8000000 in
set_option maxRecDepth 100000 in
theorem alloc_behind.calls (k : Nat) (a0_0 : Int) (A0_1 : Option Addr) (c0_1 : Nat) (l0_1 : List (S53)) (a1 : Int) (a2 : Int) (r1 : List (S53)) (r2 : Bool) (w : World) (hr0_1 : Kd.C k53 w A0_1 l0_1.length l0_1) (hc0_1 : l0_1.length ≤ c0_1) (h : alloc_behind.f k a0_0 l0_1 a1 a2 = some (r1, r2)) :
  Calls Try.prog 28 #[.agg #[.int .i64 a0_0, .slice A0_1 l0_1.length c0_1], .int .i64 a1, .int .i64 a2] w fun e w' => ∃ v0_ : Value, e = .returned (.tuple #[v0_, .bool r2]) ∧ Kd.R k53 53 w' w.heap.size (fun _ => True) v0_ r1 ∧ Below w.heap.size w w' := by
 have hu26 := Try.underlying26
 have HR0_1 := Aside0.mk hr0_1
 have HC0_1 := Aside0.mk hc0_1
 clear hr0_1 hc0_1
 have HB := Aa (Below.refl w.heap.size w)
 have H : ((alloc_clip.f k l0_1 a2).bind fun bt200 => ((alloc_fit.f bt200.1 a1).bind fun bt206 => (some (bt206.1, bt206.2)))) = some (r1, r2) := h
 clear h
 replace H := Option.bind_eq_some_iff.mp H
 obtain ⟨⟨t200, t201⟩, A40, H⟩ := H
 replace H : ((alloc_fit.f t200 a1).bind fun bt206 => (some (bt206.1, bt206.2))) = some (r1, r2) := H
 have A4 := Aside0.mk A40
 clear A40
 replace H := Option.bind_eq_some_iff.mp H
 obtain ⟨⟨t206, t207⟩, A50, H⟩ := H
 replace H : (some (t206, t207)) = some (r1, r2) := H
 have A5 := Aside0.mk A50
 clear A50
 simp only [Option.some.injEq, Prod.mk.injEq] at H
 obtain ⟨rfl, rfl⟩ := H
 go_enter Try.func28, Try.ntmps28
 go_wp2_with (first | ((with_reducible refine gD 3 ?_); refine bE #[.int .i64 a0_0, .slice A0_1 l0_1.length c0_1] 26 ?_; intro gb199 hg w6 hbox hb; have BK199 := Aa (hbox); have GW199 := gU HB hg; have GE199 := gU HB hg; have iE199 := Nonempty.intro GE199.1; replace HB := sU HB hb; clear hb hbox hg; have hcz7_0 : w6.cell? ⟨gb199, 0, none⟩ = some (.int .i64 a0_0) := cC BK199 0; have hcz7_1 : w6.cell? ⟨gb199, 1, none⟩ = some (.slice A0_1 l0_1.length c0_1) := cC BK199 1; have hfz7_0 := fC BK199 0; have hfz7_1 := fC BK199 1) | ((with_reducible refine gC 47 ?_); refine gL 14 Try.func47 #[.slice A0_1 l0_1.length c0_1, .int .i64 a2] ?_; (with_reducible refine (alloc_clip.calls k _ _ l0_1 a2 t200 t201 _ ?side1 ?side2 A4.1).mono ?_); (case side1 => exact cU (Kd.C_below HR0_1.1 HB.1)); (case side2 => exact HC0_1.1); rintro e w8 ⟨v202, v204, rfl, ho0, ho1, hb⟩; refine ⟨_, rfl, ?_⟩; have HO203 := Aa (Kd.R_lower ho0 (below_size (bS HB.1))); have HO205 := Aa (Kd.R_lower ho1 (below_size (bS HB.1))); replace BK199 := kB BK199 hb; replace HB := sB HB hb; (try clear hb); (try clear ho0); (try clear ho1); obtain ⟨Ao9, co9, eo9⟩ := Kd.R_slice HO203.1; subst eo9) | ((with_reducible refine gC 48 ?_); refine gL 19 Try.func48 #[.slice Ao9 t200.length co9, .int .i64 a1] ?_; (with_reducible refine (alloc_fit.calls _ _ t200 a1 t206 t207 _ ?side1 ?side2 A5.1).mono ?_); (case side1 => repeat (first | exact (Kd.R_reads' HO203.1).2.2 | (with_reducible refine Kd.C_alloc ?_ _) | (with_reducible refine Kd.C_drewN ?_ _) | (with_reducible refine Kd.C_drew ?_))); (case side2 => exact (Kd.R_reads' HO203.1).2.1); rintro e w10 ⟨v208, rfl, ho0, hb⟩; refine ⟨_, rfl, ?_⟩; have HO209 := Aa (Kd.R_lower (Kd.R_new' (Kd.R_new' ho0 (Kd.R_lt (rU HO203.1))) (Kd.R_lt (rU HO205.1))) (below_size (bS HB.1))); replace HO203 := rE HO203 ho0 hb; replace HO205 := rE HO205 ho0 hb; replace BK199 := kB BK199 hb; replace HB := sB HB hb; (try clear hb); (try clear ho0)))
 go_ret2
 exact ⟨_, fT, rU (Kd.R_mono HO209.1 (fun _ hk => trivial)), bS HB.1⟩

/-! ### alloc_anywhere: function 29 -/
def alloc_anywhere.f (a0_0 : Int) (l0_1 : List (S53)) (a1 : Int) (a2 : Int) : Option ((List (S53)) × Bool) := (alloc_fit.f l0_1 a1).bind fun bt211 => (some (bt211.1, bt211.2))
set_option maxHeartbeats 8000000 in
set_option maxRecDepth 100000 in
theorem alloc_anywhere.calls (a0_0 : Int) (A0_1 : Option Addr) (c0_1 : Nat) (l0_1 : List (S53)) (a1 : Int) (a2 : Int) (r1 : List (S53)) (r2 : Bool) (w : World) (hr0_1 : Kd.C k53 w A0_1 l0_1.length l0_1) (hc0_1 : l0_1.length ≤ c0_1) (h : alloc_anywhere.f a0_0 l0_1 a1 a2 = some (r1, r2)) :
  Calls Try.prog 29 #[.agg #[.int .i64 a0_0, .slice A0_1 l0_1.length c0_1], .int .i64 a1, .int .i64 a2] w fun e w' => ∃ v0_ : Value, e = .returned (.tuple #[v0_, .bool r2]) ∧ Kd.R k53 53 w' w.heap.size (fun _ => True) v0_ r1 ∧ Below w.heap.size w w' := by
 have hu26 := Try.underlying26
 have HR0_1 := Aside0.mk hr0_1
 have HC0_1 := Aside0.mk hc0_1
 clear hr0_1 hc0_1
 have HB := Aa (Below.refl w.heap.size w)
 have H : ((alloc_fit.f l0_1 a1).bind fun bt211 => (some (bt211.1, bt211.2))) = some (r1, r2) := h
 clear h
 replace H := Option.bind_eq_some_iff.mp H
 obtain ⟨⟨t211, t212⟩, A40, H⟩ := H
 replace H : (some (t211, t212)) = some (r1, r2) := H
 have A4 := Aside0.mk A40
 clear A40
 simp only [Option.some.injEq, Prod.mk.injEq] at H
 obtain ⟨rfl, rfl⟩ := H
 go_enter Try.func29, Try.ntmps29
 go_wp2_with (first | ((with_reducible refine gD 3 ?_); refine bE #[.int .i64 a0_0, .slice A0_1 l0_1.length c0_1] 26 ?_; intro gb210 hg w5 hbox hb; have BK210 := Aa (hbox); have GW210 := gU HB hg; have GE210 := gU HB hg; have iE210 := Nonempty.intro GE210.1; replace HB := sU HB hb; clear hb hbox hg; have hcz6_0 : w5.cell? ⟨gb210, 0, none⟩ = some (.int .i64 a0_0) := cC BK210 0; have hcz6_1 : w5.cell? ⟨gb210, 1, none⟩ = some (.slice A0_1 l0_1.length c0_1) := cC BK210 1; have hfz6_0 := fC BK210 0; have hfz6_1 := fC BK210 1) | ((with_reducible refine gC 48 ?_); refine gL 11 Try.func48 #[.slice A0_1 l0_1.length c0_1, .int .i64 a1] ?_; (with_reducible refine (alloc_fit.calls _ _ l0_1 a1 t211 t212 _ ?side1 ?side2 A4.1).mono ?_); (case side1 => exact cU (Kd.C_below HR0_1.1 HB.1)); (case side2 => exact HC0_1.1); rintro e w7 ⟨v213, rfl, ho0, hb⟩; refine ⟨_, rfl, ?_⟩; have HO214 := Aa (Kd.R_lower ho0 (below_size (bS HB.1))); replace BK210 := kB BK210 hb; replace HB := sB HB hb; (try clear hb); (try clear ho0)))
 go_ret2
 exact ⟨_, fT, rU HO214.1, bS HB.1⟩

end Go.Proofs.Ytcjpikjbjehjeaa.PAllocB
