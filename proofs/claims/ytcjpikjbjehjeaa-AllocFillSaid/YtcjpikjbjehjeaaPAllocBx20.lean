-- Written for this claim by a program of this session (wip/), out of the translation's own print: Lean checks it
import Derived.Test.YtcjpikjbjehjeaaPAllocBx0
import Derived.Test.YtcjpikjbjehjeaaPAllocBx2
import Derived.Test.YtcjpikjbjehjeaaPAllocBx10
import Derived.Test.YtcjpikjbjehjeaaPAllocBx11
import Derived.Test.YtcjpikjbjehjeaaPAllocBx14
import Derived.Test.YtcjpikjbjehjeaaPAllocBx19
namespace Go.Proofs.Ytcjpikjbjehjeaa.PAllocB
open Go.RowKit Go.Proofs.YtcjpikjbjehjeaaW.PrintWords Go.Proofs.YtcjpikjbjehjeaaW.PrintLast Go.Proofs.YtcjpikjbjehjeaaW.PrintMore
attribute [local go_sem] max2_int min2_int max_two min_two max_three min_three max_four min_four   -- for this text's walks alone
set_option linter.unusedVariables false
set_option linter.unusedSimpArgs false

/-! ### tegulalaw35_build: function 21 -/
def tegulalaw35_build.l0 : Nat → List (S57) → List Bool → Bool → Int → Int → List (S53) → Option (Int × (List (S53)) × List Bool × Bool)
 | 0, _, _, _, _, _, _ => none
 | k + 1, x1, x9, x11, x12, x570000, x570001 => if x12 < (x1.length : Int) then (if x11 = true then (if 0 ≤ x12 then ((tegulalaw35_step.f k x570000 x570001 x9 ((rd_T57 x1 x12).f0) ((rd_T57 x1 x12).f1) ((rd_T57 x1 x12).f2) ((rd_T57 x1 x12).f3)).bind fun bt575 => (tegulalaw35_build.l0 k x1 bt575.2.2.1 bt575.2.2.2 (wrap64 (x12 + 1)) bt575.1 bt575.2.1)) else (none)) else (some (x570000, x570001, x9, false))) else (if x11 = true then ((tegulalaw35_same.f k x570000 x570001 x9).bind fun t583 => (some (x570000, x570001, x9, t583))) else (some (x570000, x570001, x9, false)))
def tegulalaw35_build.f (k : Nat) (a0 : Int) (l1 : List (S57)) : Option (Int × (List (S53)) × List Bool × Bool) := (alloc_New.f k (wrap64 (Int.tmod a0 100))).bind fun bt564 => ((tegularef35_New.f (wrap64 (Int.tmod a0 100))).bind fun bt570 => (tegulalaw35_build.l0 k l1 bt570.1 (bt564.2.2 == 0) 0 bt564.1 bt564.2.1))
theorem tegulalaw35_build.mono_l : ∀ k, (∀ y0 y1 y2 y3 y4 y5, LeO (tegulalaw35_build.l0 k y0 y1 y2 y3 y4 y5) (tegulalaw35_build.l0 (k + 1) y0 y1 y2 y3 y4 y5))
 | 0 => fun _ _ _ _ _ _ r h => by simp [tegulalaw35_build.l0] at h
 | k + 1 => by
  have ih0 := tegulalaw35_build.mono_l k
  ·
   intro y0 y1 y2 y3 y4 y5
   unfold tegulalaw35_build.l0
   repeat' first
   | (with_reducible exact ih0 _ _ _ _ _ _)
   | (with_reducible exact alloc_New.mono _ _)
   | (with_reducible exact tegulalaw35_same.mono _ _ _ _)
   | (with_reducible exact tegulalaw35_step.mono _ _ _ _ _ _ _ _)
   | (with_reducible exact LeO.refl _)
   | (with_reducible exact LeO.none _)
   | (with_reducible refine LeO.ite ?_ ?_)
   | (with_reducible refine LeO.bind ?_ (fun _ => ?_))
   | exact ih0 _ _ _ _ _ _
   | exact alloc_New.mono _ _
   | exact tegulalaw35_same.mono _ _ _ _
   | exact tegulalaw35_step.mono _ _ _ _ _ _ _ _
   | exact LeO.none _
   | refine LeO.ite ?_ ?_
   | refine LeO.bind ?_ (fun _ => ?_)
theorem tegulalaw35_build.mono : ∀ a0 a1 k, LeO (tegulalaw35_build.f k a0 a1) (tegulalaw35_build.f (k + 1) a0 a1) := by
 intro a0 a1 k
 have ih0 := tegulalaw35_build.mono_l k
 unfold tegulalaw35_build.f
 repeat' first
   | (with_reducible exact ih0 _ _ _ _ _ _)
   | (with_reducible exact alloc_New.mono _ _)
   | (with_reducible exact tegulalaw35_same.mono _ _ _ _)
   | (with_reducible exact tegulalaw35_step.mono _ _ _ _ _ _ _ _)
   | (with_reducible exact LeO.refl _)
   | (with_reducible exact LeO.none _)
   | (with_reducible refine LeO.ite ?_ ?_)
   | (with_reducible refine LeO.bind ?_ (fun _ => ?_))
   | exact ih0 _ _ _ _ _ _
   | exact alloc_New.mono _ _
   | exact tegulalaw35_same.mono _ _ _ _
   | exact tegulalaw35_step.mono _ _ _ _ _ _ _ _
   | exact LeO.none _
   | refine LeO.ite ?_ ?_
   | refine LeO.bind ?_ (fun _ => ?_)
def tegulalaw35_build.T7 : Bool × List (List Nat × List Nat) := (true, [([], []), ([], []), ([], []), ([], []), ([2, 3], [2, 3]), ([4], [4]), ([0, 1, 5], [0, 1, 5]), ([6], [6]), ([7], [7]), ([7], [7]), ([7], [7]), ([8, 6, 0, 1, 2, 3, 4, 5, 6, 7, 8], [8]), ([9, 11, 0, 1, 2, 3, 4, 5, 6, 7, 8, 9, 11], [1, 9]), ([10, 12, 0, 1, 2, 3, 4, 5, 6, 7, 8, 9, 10, 11, 12], [10])])
def tegulalaw35_build.B7 : List Nat := [0, 0, 0, 0, 12, 28, 63, 127, 255, 255, 255, 511, 3071, 8191]
theorem tegulalaw35_build.tab7 : rtab .any (opsOf Try.f21 7) = tegulalaw35_build.T7 := by kernel_rfl
theorem tegulalaw35_build.bits7 : waitsOk tegulalaw35_build.T7.2 tegulalaw35_build.B7 = true := by kernel_rfl
def tegulalaw35_build.T8 : Bool × List (List Nat × List Nat) := (true, [([], []), ([], []), ([], []), ([2], [2]), ([3], [3]), ([3], [3]), ([4, 5, 3, 3], [3, 4, 5]), ([3, 6], [3, 6]), ([0, 6, 0], [0]), ([1, 8, 0, 1, 8], [1]), ([7, 9, 0, 1, 2, 3, 4, 5, 6, 7, 8, 9], [7])])
def tegulalaw35_build.B8 : List Nat := [0, 0, 0, 4, 12, 12, 60, 124, 125, 383, 1023]
theorem tegulalaw35_build.tab8 : rtab .any (opsOf Try.f21 8) = tegulalaw35_build.T8 := by kernel_rfl
theorem tegulalaw35_build.bits8 : waitsOk tegulalaw35_build.T8.2 tegulalaw35_build.B8 = true := by kernel_rfl
set_option maxHeartbeats 8000000 in
set_option maxRecDepth 100000 in
theorem tegulalaw35_build.calls (k : Nat) (a0 : Int) (A1 : Option Addr) (c1 : Nat) (l1 : List (S57)) (r1 : Int) (r2 : List (S53)) (r3 : List Bool) (r4 : Bool) (w : World) (hr1 : Kd.C k57 w A1 l1.length l1) (hc1 : l1.length ≤ c1) (h : tegulalaw35_build.f k a0 l1 = some (r1, r2, r3, r4)) :
  Calls Try.prog 21 #[.int .u8 a0, .slice A1 l1.length c1] w fun e w' => ∃ v1_ v2_ : Value, e = .returned (.tuple #[.agg #[.int .i64 r1, v1_], v2_, .bool r4]) ∧ Kd.V k53 53 w' w.heap.size (fun k_ => (w.heap.size ≤ k_)) v1_ r2 ∧ Kd.V Kd.bool 4 w' w.heap.size (fun k_ => (w.heap.size ≤ k_)) v2_ r3 ∧ Below w.heap.size w w' := by
 have hu26 := Try.underlying26
 have hu57 := Try.underlying57
 have HR1 := Aside0.mk hr1
 have HC1 := Aside0.mk hc1
 clear hr1 hc1
 have HB := Aa (Below.refl w.heap.size w)
 have H : ((alloc_New.f k (wrap64 (Int.tmod a0 100))).bind fun bt564 => ((tegularef35_New.f (wrap64 (Int.tmod a0 100))).bind fun bt570 => (tegulalaw35_build.l0 k l1 bt570.1 (bt564.2.2 == 0) 0 bt564.1 bt564.2.1))) = some (r1, r2, r3, r4) := h
 clear h
 replace H := Option.bind_eq_some_iff.mp H
 obtain ⟨⟨t564, t565, t568⟩, A30, H⟩ := H
 replace H : ((tegularef35_New.f (wrap64 (Int.tmod a0 100))).bind fun bt570 => (tegulalaw35_build.l0 k l1 bt570.1 (t568 == 0) 0 t564 t565)) = some (r1, r2, r3, r4) := H
 have A3 := Aside0.mk A30
 clear A30
 replace H := Option.bind_eq_some_iff.mp H
 obtain ⟨⟨t570, t571⟩, A40, H⟩ := H
 replace H : (tegulalaw35_build.l0 k l1 t570 (t568 == 0) 0 t564 t565) = some (r1, r2, r3, r4) := H
 have A4 := Aside0.mk A40
 clear A40
 have H' := Aside0.mk H
 clear H
 go_enter Try.func21, Try.ntmps21
 go_wp2_with (first | ((with_reducible refine gD 4 ?_); refine bE #[.int .i64 0, .slice none 0 0] 26 ?_; intro gb563 hg w5 hbox hb; have BK563 := Aa (hbox); have GW563 := gU HB hg; have GE563 := gU HB hg; have iE563 := Nonempty.intro GE563.1; replace HB := sU HB hb; clear hb hbox hg) | ((with_reducible refine gC 11 ?_); refine gL 17 Try.func11 #[.int .i64 (wrap64 (Int.tmod a0 100))] ?_; (with_reducible refine (alloc_New.calls k (wrap64 (Int.tmod a0 100)) t564 t565 t568 _ A3.1).mono ?_); rintro e w6 ⟨v566, rfl, ho0, hb⟩; refine ⟨_, rfl, ?_⟩; have HO567 := Aa (Kd.R_lower (Kd.R_newM (M := fun k_ => (w.heap.size ≤ k_)) ho0 (below_size (bS HB.1)) (fun k_ h_ => h_)) (below_size (bS HB.1))); replace BK563 := kB BK563 hb; replace HB := sB HB hb; (try clear hb); (try clear hk); (try clear ho0)) | ((with_reducible refine gD 7 ?_); refine bE #[.int .i64 0, .slice none 0 0] 26 ?_; intro gb569 hg w7 hbox hb; replace HO567 := rB HO567 hb; have BK569 := Aa (hbox); have GW569 := gS HB hg; have GE569 := gS HB hg; have iE569 := Nonempty.intro GE569.1; replace HB := sB HB hb; have NB563_569 := nL BK563 hg; have NB569_563 := nG BK563 hg; replace BK563 := kB BK563 hb; clear hb hbox hg; have hnb8 := NB569_563.1; have hnc8 := NB563_569.1; have hcz9_0 : w7.cell? ⟨gb569, 0, none⟩ = some (.int .i64 0) := cC BK569 0; have hcz9_1 : w7.cell? ⟨gb569, 1, none⟩ = some (.slice none 0 0) := cC BK569 1; have hfz9_0 := fC BK569 0; have hfz9_1 := fC BK569 1; obtain ⟨Ao10, co10, eo10⟩ := Kd.R_slice HO567.1; subst eo10) | ((with_reducible refine gC 37 ?_); refine gL 24 Try.func37 #[.int .i64 (wrap64 (Int.tmod a0 100))] ?_; (with_reducible refine (tegularef35_New.calls (wrap64 (Int.tmod a0 100)) t570 t571 _ A4.1).mono ?_); rintro e w11 ⟨v572, rfl, ho0, hb⟩; refine ⟨_, rfl, ?_⟩; replace HO567 := Aa (Kd.R_below (rU (Kd.R_mono (Kd.R_far (p := ⟨gb569, 1, none⟩) (Kd.R_far (p := ⟨gb569, 0, none⟩) (Kd.R_types HO567.1 BK569.1 (by decide)) (fun _ hk => hk.2) (.int .i64 t564)) (fun _ hk => hk.2) (.slice Ao10 t565.length co10)) (fun _ h_ => h_.1))) hb); have HO573 := Aa (Kd.R_lower (Kd.R_newM (M := fun k_ => (w.heap.size ≤ k_)) ho0 (below_size (bS HB.1)) (fun k_ h_ => h_)) (below_size (bS HB.1))); replace BK563 := Aa (blk_below (g := gb563) (o := .cells #[.int .i64 0, .slice none 0 0] 26 (0, 0)) (by refine kP ?_; refine blk_far ?_ NB563_569.1 _; refine kP ?_; refine blk_far ?_ NB563_569.1 _; refine kP ?_; exact BK563.1) hb); replace BK569 := Aa (blk_below (g := gb569) (o := .cells #[.int .i64 t564, .slice Ao10 t565.length co10] 26 (0, 0)) (by refine kP ?_; refine blk_put (cs := #[.int .i64 t564, .slice none 0 0]) ?_ 1 _ rfl; refine kP ?_; refine blk_put (cs := #[.int .i64 0, .slice none 0 0]) ?_ 0 _ rfl; refine kP ?_; exact BK569.1) hb); replace HB := sB HB hb; (try clear hb); (try clear hk); (try clear ho0)))
 go_loopg [9, 11, 12] k (fun kq v9 v11 v12 w' => ∃ (x9_1 : List Bool) (x11_1 : Bool) (x12_1 : Int) (x570000_1 : Int) (x570001_1 : List (S53)) (u570001 : Value), v11 = .bool x11_1 ∧ v12 = .int .i64 x12_1 ∧ Aside0 (tegulalaw35_build.l0 kq l1 x9_1 x11_1 x12_1 x570000_1 x570001_1 = some (r1, r2, r3, r4)) ∧ Aside0 (kq ≤ k) ∧ Aside0 (Kd.V Kd.bool 4 w' w.heap.size (fun k_ => (w.heap.size ≤ k_) ∧ k_ ≠ gb563 ∧ k_ ≠ gb569) v9 x9_1) ∧ Aside0 (Kd.V k53 53 w' w.heap.size (fun k_ => (w.heap.size ≤ k_) ∧ k_ ≠ gb563 ∧ k_ ≠ gb569) u570001 x570001_1) ∧ Aside0 (w'.heap[gb563]? = some (.cells #[.int .i64 0, (.slice none 0 0)] 26 (0, 0))) ∧ Aside0 (w'.heap[gb569]? = some (.cells #[.int .i64 x570000_1, u570001] 26 (0, 0))) ∧ Aside0 (Below w.heap.size w w'))
 case atStart => exact ⟨(t570), ((t568 == 0)), (0), (t564), (t565), (.slice Ao10 t565.length co10), (by first | rfl | (simp; done) | (simp [*]; done)), (by first | rfl | (simp; done) | (simp [*]; done)), H', ⟨Nat.le_refl _⟩, ⟨Kd.R_V (rU (Kd.R_mono (Kd.R_types (Kd.R_types HO573.1 BK563.1 (by decide)) BK569.1 (by decide)) (fun _ hk => ⟨hk.1.1.1, ⟨hk.1.2, hk.2⟩⟩)))⟩, ⟨Kd.R_V (rU (Kd.R_mono (Kd.R_types (Kd.R_types HO567.1 BK563.1 (by decide)) BK569.1 (by decide)) (fun _ hk => ⟨hk.1.1.1, ⟨hk.1.2, hk.2⟩⟩)))⟩, ⟨by refine kP ?_; exact BK563.1⟩, ⟨by refine kP ?_; exact BK569.1⟩, ⟨bS HB.1⟩⟩
 case round =>
  clear H'
  try clear c1
  try clear c2
  try clear p2
  try clear c3
  try clear p6
  try clear c8
  try clear c11
  try clear hcz9_0
  try clear hcz9_1
  try clear hfz9_0
  try clear hfz9_1
  obtain ⟨x9_1, x11_1, x12_1, x570000_1, x570001_1, u570001, rfl, rfl, HA, HK1, HO_9, HO_570001, BK563, BK569, HB⟩ := hrel
  cases gk with
  | zero => exact absurd HA.1 (by simp [tegulalaw35_build.l0])
  | succ k1 =>
   have H := HA.1
   clear HA
   simp only [tegulalaw35_build.l0] at H
   by_cases c12 : x12_1 < (l1.length : Int)
   ·
    rw [if_pos c12] at H
    have c12b0 := decide_eq_true c12
    clear c12
    by_cases c13 : x11_1 = true
    ·
     subst c13
     have H1 : (if 0 ≤ x12_1 then ((tegulalaw35_step.f k1 x570000_1 x570001_1 x9_1 ((rd_T57 l1 x12_1).f0) ((rd_T57 l1 x12_1).f1) ((rd_T57 l1 x12_1).f2) ((rd_T57 l1 x12_1).f3)).bind fun bt575 => (tegulalaw35_build.l0 k1 l1 bt575.2.2.1 bt575.2.2.2 (wrap64 (x12_1 + 1)) bt575.1 bt575.2.1)) else (none)) = some (r1, r2, r3, r4) := by rw [if_pos rfl] at H; exact H
     clear H
     have H := H1
     clear H1
     by_cases c14 : 0 ≤ x12_1
     ·
      rw [if_pos c14] at H
      have c14b0 := decide_eq_true c14
      clear c14
      replace H := Option.bind_eq_some_iff.mp H
      obtain ⟨⟨t575, t576, t579, t582⟩, A150, H⟩ := H
      replace H : (tegulalaw35_build.l0 k1 l1 t579 t582 (wrap64 (x12_1 + 1)) t575 t576) = some (r1, r2, r3, r4) := H
      have A15 := Aside0.mk A150
      clear A150
      have H' := Aside0.mk H
      clear H
      try go_wp2
      replace HO_9 := Aa (Kd.V_drew HO_9.1)
      replace HO_570001 := Aa (Kd.V_drew HO_570001.1)
      replace BK563 := Aa (blk_drew BK563.1)
      replace BK569 := Aa (blk_drew BK569.1)
      replace HB := Aa (below_drew1 HB.1)
      have p574 : 0 ≤ (x12_1 : Int) := dT
      have q574 : x12_1 < (l1.length : Int) := dT
      obtain ⟨ad574, A574_3, c574_3, e574, hx574_0, hx574_1, hx574_2, hx574_3, hl574_3, hi574_3⟩ := at_T57 HR1.1 x12_1 p574 q574
      have hw574_3 := hx574_3
      have hw574_2 := hx574_2
      have hw574_1 := hx574_1
      have hw574_0 := hx574_0
      cases e574
      replace hx574_0 := cB HB hx574_0
      replace hx574_1 := cB HB hx574_1
      replace hx574_2 := cB HB hx574_2
      replace hx574_3 := cB HB hx574_3
      have HR574_3 := Aside0.mk hi574_3
      have HC574_3 := Aside0.mk hl574_3
      clear hi574_3 hl574_3
      replace p574 := eq_true p574
      replace q574 := eq_true q574
      obtain ⟨Ao17, co17, eo17⟩ := Kd.V_slice HO_570001.1
      (first | subst eo17 | (injection eo17 with f1_ f2_ f3_; have f4_ := f1_.symm; have f5_ := f3_.symm; clear f1_ f2_ f3_; subst f4_; subst f5_))
      obtain ⟨Ao18, co18, eo18⟩ := Kd.V_slice HO_9.1
      (first | subst eo18 | (injection eo18 with f1_ f2_ f3_; have f4_ := f1_.symm; have f5_ := f3_.symm; clear f1_ f2_ f3_; subst f4_; subst f5_))
      refine start_ (n := 14) (S := fun w' => w'.cell? ⟨gb569, 0, none⟩ = some (.int .i64 x570000_1) ∧ w'.cell? ⟨gb569, 1, none⟩ = some (.slice Ao17 x570001_1.length co17) ∧ w'.cell? (ad574.add ((x12_1).toNat * 4)) = some (.int .u8 ((rd_T57 l1 x12_1).f0)) ∧ w'.cell? ⟨(ad574.add ((x12_1).toNat * 4)).block, (ad574.add ((x12_1).toNat * 4)).off + 1, none⟩ = some (.int .u8 ((rd_T57 l1 x12_1).f1)) ∧ w'.cell? ⟨(ad574.add ((x12_1).toNat * 4)).block, (ad574.add ((x12_1).toNat * 4)).off + 2, none⟩ = some (.int .u8 ((rd_T57 l1 x12_1).f2)) ∧ w'.cell? ⟨(ad574.add ((x12_1).toNat * 4)).block, (ad574.add ((x12_1).toNat * 4)).off + 3, none⟩ = some (.slice A574_3 ((rd_T57 l1 x12_1).f3).length c574_3)) (ds := [11]) (bm 14 0) (by kernel_rfl) rfl (bm0 _) ⟨cC BK569 0, cC BK569 1, (cB HB hw574_0), (cB HB hw574_1), (cB HB hw574_2), (cB HB hw574_3)⟩ (fun hHeld => ?_); refine with_tabW tegulalaw35_build.tab7 tegulalaw35_build.bits7 (fun HT_ HW_ => ?_)
      generalize wr.drew = w16 at HO_9 HO_570001 BK563 BK569 HB HR574_3 hx574_0 hx574_1 hx574_2 hx574_3 hHeld ⊢
      refine pA 2 1 40 ?_
      refine pA 6 2 41 ?_
      refine pA 14 3 42 ?_
      refine pA 30 4 43 ?_
      refine tA 31 0 39 hHeld ?_
      refine tA 63 5 44 hHeld ?_
      refine oA 127 6 45 (fun K hK => ?_)
      refine gR Try.func26 #[.agg #[.int .i64 x570000_1, .slice Ao17 x570001_1.length co17], .slice Ao18 x9_1.length co18, .agg #[.int .u8 ((rd_T57 l1 x12_1).f0), .int .u8 ((rd_T57 l1 x12_1).f1), .int .u8 ((rd_T57 l1 x12_1).f2), .slice A574_3 ((rd_T57 l1 x12_1).f3).length c574_3]] ?_
      with_reducible refine (tegulalaw35_step.calls k1 x570000_1 (fun k_ => ((w.heap.size ≤ k_) ∧ (k_ ≠ gb563 ∧ k_ ≠ gb569))) _ _ x570001_1 (fun k_ => ((w.heap.size ≤ k_) ∧ (k_ ≠ gb563 ∧ k_ ≠ gb569))) _ _ x9_1 ((rd_T57 l1 x12_1).f0) ((rd_T57 l1 x12_1).f1) ((rd_T57 l1 x12_1).f2) _ _ ((rd_T57 l1 x12_1).f3) t575 t576 t579 t582 _ ?side1 ?side2 ?side3 ?side4 A15.1).mono ?_
      (case side1 => exact HO_570001.1)
      (case side2 => exact HO_9.1)
      (case side3 => exact cU (Kd.C_below HR574_3.1 HB.1))
      (case side4 => exact HC574_3.1)
      rintro e w19 ⟨v577, v580, rfl, ho0, ho1, hb⟩
      refine ⟨_, rfl, ?_⟩
      replace HO_9 := vB HO_9 hb
      replace HO_570001 := vB HO_570001 hb
      have HO578 := Aa (Kd.V_lower (Kd.V_mono (ok' := fun k_ => (w.heap.size ≤ k_) ∧ k_ ≠ gb563 ∧ k_ ≠ gb569) ho0 (fun k_ hk_ => ⟨Or.elim hk_ (fun hs_ => Or.elim hs_ (fun hs_ => hs_.1) (fun hs_ => hs_.1)) (fun hn_ => (Nat.le_trans (below_size (bS HB.1)) hn_)), Or.elim hk_ (fun hs_ => Or.elim hs_ (fun hs_ => hs_.2.1) (fun hs_ => hs_.2.1)) (fun hn_ => (Kd.freshB (g := gb563) (o := .cells #[.int .i64 0, .slice none 0 0] 26 (0, 0)) (kU BK563.1) k_ hn_)), Or.elim hk_ (fun hs_ => Or.elim hs_ (fun hs_ => hs_.2.2) (fun hs_ => hs_.2.2)) (fun hn_ => (Kd.freshB (g := gb569) (o := .cells #[.int .i64 x570000_1, .slice Ao17 x570001_1.length co17] 26 (0, 0)) (kU BK569.1) k_ hn_))⟩)) (below_size (bS HB.1)))
      have HO581 := Aa (Kd.V_lower (Kd.V_mono (ok' := fun k_ => (w.heap.size ≤ k_) ∧ k_ ≠ gb563 ∧ k_ ≠ gb569) ho1 (fun k_ hk_ => ⟨Or.elim hk_ (fun hs_ => Or.elim hs_ (fun hs_ => hs_.1) (fun hs_ => hs_.1)) (fun hn_ => (Nat.le_trans (below_size (bS HB.1)) hn_)), Or.elim hk_ (fun hs_ => Or.elim hs_ (fun hs_ => hs_.2.1) (fun hs_ => hs_.2.1)) (fun hn_ => (Kd.freshB (g := gb563) (o := .cells #[.int .i64 0, .slice none 0 0] 26 (0, 0)) (kU BK563.1) k_ hn_)), Or.elim hk_ (fun hs_ => Or.elim hs_ (fun hs_ => hs_.2.2) (fun hs_ => hs_.2.2)) (fun hn_ => (Kd.freshB (g := gb569) (o := .cells #[.int .i64 x570000_1, .slice Ao17 x570001_1.length co17] 26 (0, 0)) (kU BK569.1) k_ hn_))⟩)) (below_size (bS HB.1)))
      replace BK563 := kB BK563 hb
      replace BK569 := kB BK569 hb
      replace HB := sB HB hb
      (try clear hb)
      (try clear hb2)
      (try clear hk)
      (try clear hi)
      (try clear ho0)
      (try clear ho1)
      obtain ⟨Ao21, co21, eo21⟩ := Kd.V_slice HO578.1
      (first | subst eo21 | (injection eo21 with f1_ f2_ f3_; have f4_ := f1_.symm; have f5_ := f3_.symm; clear f1_ f2_ f3_; subst f4_; subst f5_))
      refine hK.out _ _ ⟨cC BK569 0, cC BK569 1, (cB HB hw574_0), (cB HB hw574_1), (cB HB hw574_2), (cB HB hw574_3)⟩ (fun hHeld => ?_)
      clear hK K
      refine nA ?_
      refine pA 255 7 38 ?_
      refine pA 511 8 46 ?_
      refine pA 1023 9 47 ?_
      refine pA 2047 10 48 ?_
      refine last_ (i := 11) (N := none) (bm 14 4095) rfl rfl (one_of HT_.1 (by kernel_rfl)) (by decide) (fun K hK => ?_)
      have hs20 : w19.cell? ⟨gb569, 0, none⟩ = some (.int .i64 x570000_1) := cC BK569 0
      have hfs20 := fC BK569 0
      have hns20_0 := NB563_569.1
      have hms20_0 := NB569_563.1
      have hs22 : w19.cell? ⟨gb569, 1, none⟩ = some (.slice Ao17 x570001_1.length co17) := cC BK569 1
      have hfs22 := fC BK569 1
      have hns22_0 := NB563_569.1
      have hms22_0 := NB569_563.1
      refine skip_ (w1 := ?_) (by rfl) rfl ?_ ?_
      rotate_left
      ·
       go_simp; rfl
      refine hK.out _ _ ?_
      clear hK K
      refine pA 8191 12 9 ?_
      refine pA 16383 13 11 ?_
      refine done_ (done_of HT_.1 (by kernel_rfl)) ?_
      try go_wp2
      go_roundg k1
      case measure => have := HK1.1; omega
      case rel => exact ⟨(t579), (t582), (wrap64 (x12_1 + 1)), (t575), (t576), (.slice Ao21 t576.length co21), (by first | rfl | (simp; done) | (simp [*]; done)), (by first | rfl | (simp; done) | (simp [*]; done)), H', ⟨by have := HK1.1; omega⟩, ⟨vU (Kd.V_mono (Kd.V_far (p := ⟨gb569, 1, none⟩) (Kd.V_far (p := ⟨gb569, 0, none⟩) (Kd.V_mono HO581.1 (fun k_ hk => (⟨hk, hk.2.2⟩ : _ ∧ k_ ≠ gb569))) (fun _ hk => hk.2) (.int .i64 t575)) (fun _ hk => hk.2) (.slice Ao21 t576.length co21)) (fun _ hk => ⟨hk.1.1, ⟨hk.1.2.1, hk.1.2.2⟩⟩))⟩, ⟨vU (Kd.V_mono (Kd.V_far (p := ⟨gb569, 1, none⟩) (Kd.V_far (p := ⟨gb569, 0, none⟩) (Kd.V_mono HO578.1 (fun k_ hk => (⟨hk, hk.2.2⟩ : _ ∧ k_ ≠ gb569))) (fun _ hk => hk.2) (.int .i64 t575)) (fun _ hk => hk.2) (.slice Ao21 t576.length co21)) (fun _ hk => ⟨hk.1.1, ⟨hk.1.2.1, hk.1.2.2⟩⟩))⟩, ⟨by refine kP ?_; refine blk_far ?_ NB563_569.1 _; refine kP ?_; refine blk_far ?_ NB563_569.1 _; refine kP ?_; exact BK563.1⟩, ⟨by refine kP ?_; refine blk_put (cs := #[.int .i64 t575, .slice Ao17 x570001_1.length co17]) ?_ 1 _ rfl; refine kP ?_; refine blk_put (cs := #[.int .i64 x570000_1, .slice Ao17 x570001_1.length co17]) ?_ 0 _ rfl; refine kP ?_; exact BK569.1⟩, ⟨bS HB.1⟩⟩
     ·
      rw [if_neg c14] at H
      exact absurd H (by simp)
    ·
     replace c13 := Bool.eq_false_iff.mpr c13
     subst c13
     have H1 : (some (x570000_1, x570001_1, x9_1, false)) = some (r1, r2, r3, r4) := by rw [if_neg (show ¬ (false = true) by decide)] at H; exact H
     clear H
     have H := H1
     clear H1
     simp only [Option.some.injEq, Prod.mk.injEq] at H
     obtain ⟨rfl, rfl, rfl, rfl⟩ := H
     try go_wp2
     replace HO_9 := Aa (Kd.V_drew HO_9.1)
     replace HO_570001 := Aa (Kd.V_drew HO_570001.1)
     replace BK563 := Aa (blk_drew BK563.1)
     replace BK569 := Aa (blk_drew BK569.1)
     replace HB := Aa (below_drew1 HB.1)
     obtain ⟨Ao25, co25, eo25⟩ := Kd.V_slice HO_570001.1
     (first | subst eo25 | (injection eo25 with f1_ f2_ f3_; have f4_ := f1_.symm; have f5_ := f3_.symm; clear f1_ f2_ f3_; subst f4_; subst f5_))
     refine start_ (n := 11) (S := fun w' => w'.cell? ⟨gb569, 0, none⟩ = some (.int .i64 x570000_1) ∧ w'.cell? ⟨gb569, 1, none⟩ = some (.slice Ao25 x570001_1.length co25)) (ds := []) (bm 11 0) (by kernel_rfl) rfl (bm0 _) ⟨cC BK569 0, cC BK569 1⟩ (fun hHeld => ?_); refine with_tabW tegulalaw35_build.tab8 tegulalaw35_build.bits8 (fun HT_ HW_ => ?_)
     generalize wr.drew = w23 at HO_9 HO_570001 BK563 BK569 HB hHeld ⊢
     refine pA 2 1 50 ?_
     refine pA 6 2 51 ?_
     refine pA 14 3 52 ?_
     refine pU 30 4 53 ?_
     refine pU 62 5 54 ?_
     refine pU 126 6 55 ?_
     refine pA 254 7 56 ?_
     refine tA 255 0 49 hHeld ?_
     refine oN 511 8 (fun K hK => ?_)
     have hs24 : w23.cell? ⟨gb563, 0, none⟩ = some (.int .i64 0) := cC BK563 0
     have hfs24 := fC BK563 0
     have hns24_1 := NB569_563.1
     have hms24_1 := NB563_569.1
     have hs26 : w23.cell? ⟨gb563, 1, none⟩ = some (.slice none 0 0) := cC BK563 1
     have hfs26 := fC BK563 1
     have hns26_1 := NB569_563.1
     have hms26_1 := NB563_569.1
     refine skip_ (w1 := ?_) (by rfl) rfl ?_ ?_
     rotate_left
     ·
      go_simp; rfl
     refine hK.out _ _ ⟨((cell_far (p := ⟨gb563, _, none⟩) NB569_563.1 _).trans (((cell_far (p := ⟨gb563, _, none⟩) NB569_563.1 _).trans (hHeld.1)))), ((cell_far (p := ⟨gb563, _, none⟩) NB569_563.1 _).trans (((cell_far (p := ⟨gb563, _, none⟩) NB569_563.1 _).trans (hHeld.2))))⟩ (fun hHeld => ?_)
     clear hK K
     refine pA 1023 9 5 ?_
     refine pA 2047 10 6 ?_
     refine done_ (done_of HT_.1 (by kernel_rfl)) ?_
     try go_wp2
     refine bodyPost_ret (results_ctt rfl _ _ gb563 26 #[.int .i64 x570000_1, .slice Ao25 x570001_1.length co25] (0, 0) _ rfl (by refine kP ?_; refine blk_put (cs := #[.int .i64 x570000_1, .slice none 0 0]) ?_ 1 _ rfl; refine kP ?_; refine blk_put (cs := #[.int .i64 0, .slice none 0 0]) ?_ 0 _ rfl; refine kP ?_; exact BK563.1) Try.underlying26 rfl (by kernel_rfl)) rfl ?_
     exact ⟨_, _, fT, vU (Kd.V_mono (Kd.V_far (p := ⟨gb563, 1, none⟩) (Kd.V_far (p := ⟨gb563, 0, none⟩) (Kd.V_mono HO_570001.1 (fun k_ hk => (⟨hk, hk.2.1⟩ : _ ∧ k_ ≠ gb563))) (fun _ hk => hk.2) (.int .i64 x570000_1)) (fun _ hk => hk.2) (.slice Ao25 x570001_1.length co25)) (fun _ hk => hk.1.1)), vU (Kd.V_mono (Kd.V_far (p := ⟨gb563, 1, none⟩) (Kd.V_far (p := ⟨gb563, 0, none⟩) (Kd.V_mono HO_9.1 (fun k_ hk => (⟨hk, hk.2.1⟩ : _ ∧ k_ ≠ gb563))) (fun _ hk => hk.2) (.int .i64 x570000_1)) (fun _ hk => hk.2) (.slice Ao25 x570001_1.length co25)) (fun _ hk => hk.1.1)), bS HB.1⟩
   ·
    rw [if_neg c12] at H
    have c12b0 := decide_eq_false c12
    clear c12
    by_cases c27 : x11_1 = true
    ·
     subst c27
     have H1 : ((tegulalaw35_same.f k1 x570000_1 x570001_1 x9_1).bind fun t583 => (some (x570000_1, x570001_1, x9_1, t583))) = some (r1, r2, r3, r4) := by rw [if_pos rfl] at H; exact H
     clear H
     have H := H1
     clear H1
     replace H := Option.bind_eq_some_iff.mp H
     obtain ⟨t583, A280, H⟩ := H
     replace H : (some (x570000_1, x570001_1, x9_1, t583)) = some (r1, r2, r3, r4) := H
     have A28 := Aside0.mk A280
     clear A280
     simp only [Option.some.injEq, Prod.mk.injEq] at H
     obtain ⟨rfl, rfl, rfl, rfl⟩ := H
     try go_wp2
     replace HO_9 := Aa (Kd.V_drew HO_9.1)
     replace HO_570001 := Aa (Kd.V_drew HO_570001.1)
     replace BK563 := Aa (blk_drew BK563.1)
     replace BK569 := Aa (blk_drew BK569.1)
     replace HB := Aa (below_drew1 HB.1)
     obtain ⟨Ao30, co30, eo30⟩ := Kd.V_slice HO_570001.1
     (first | subst eo30 | (injection eo30 with f1_ f2_ f3_; have f4_ := f1_.symm; have f5_ := f3_.symm; clear f1_ f2_ f3_; subst f4_; subst f5_))
     obtain ⟨Ao31, co31, eo31⟩ := Kd.V_slice HO_9.1
     (first | subst eo31 | (injection eo31 with f1_ f2_ f3_; have f4_ := f1_.symm; have f5_ := f3_.symm; clear f1_ f2_ f3_; subst f4_; subst f5_))
     refine start_ (n := 11) (S := fun w' => w'.cell? ⟨gb569, 0, none⟩ = some (.int .i64 x570000_1) ∧ w'.cell? ⟨gb569, 1, none⟩ = some (.slice Ao30 x570001_1.length co30)) (ds := []) (bm 11 0) (by kernel_rfl) rfl (bm0 _) ⟨cC BK569 0, cC BK569 1⟩ (fun hHeld => ?_); refine with_tabW tegulalaw35_build.tab8 tegulalaw35_build.bits8 (fun HT_ HW_ => ?_)
     generalize wr.drew = w29 at HO_9 HO_570001 BK563 BK569 HB hHeld ⊢
     refine pA 2 1 50 ?_
     refine pA 6 2 51 ?_
     refine pA 14 3 52 ?_
     refine pA 46 5 54 ?_
     refine tA 47 0 49 hHeld ?_
     refine tA 63 4 53 hHeld ?_
     refine oA 127 6 55 (fun K hK => ?_)
     refine gR Try.func24 #[.agg #[.int .i64 x570000_1, .slice Ao30 x570001_1.length co30], .slice Ao31 x9_1.length co31] ?_
     with_reducible refine (tegulalaw35_same.calls k1 x570000_1 _ _ x570001_1 _ _ x9_1 t583 _ ?side1 ?side2 ?side3 ?side4 A28.1).mono ?_
     (case side1 => repeat (first | exact (Kd.V_reads' HO_570001.1).2.2 | (with_reducible refine Kd.C_alloc ?_ _) | (with_reducible refine Kd.C_drewN ?_ _) | (with_reducible refine Kd.C_drew ?_)))
     (case side2 => exact (Kd.V_reads' HO_570001.1).2.1)
     (case side3 => repeat (first | exact (Kd.V_reads' HO_9.1).2.2 | (with_reducible refine Kd.C_alloc ?_ _) | (with_reducible refine Kd.C_drewN ?_ _) | (with_reducible refine Kd.C_drew ?_)))
     (case side4 => exact (Kd.V_reads' HO_9.1).2.1)
     rintro e w32 ⟨rfl, hb⟩
     refine ⟨_, rfl, ?_⟩
     replace HO_9 := vB HO_9 hb
     replace HO_570001 := vB HO_570001 hb
     replace BK563 := kB BK563 hb
     replace BK569 := kB BK569 hb
     replace HB := sB HB hb
     (try clear hb)
     (try clear hb2)
     (try clear hk)
     (try clear hi)
     refine hK.out _ _ ⟨cC BK569 0, cC BK569 1⟩ (fun hHeld => ?_)
     clear hK K
     refine nA ?_
     refine pA 255 7 56 ?_
     refine oN 511 8 (fun K hK => ?_)
     have hs33 : w32.cell? ⟨gb563, 0, none⟩ = some (.int .i64 0) := cC BK563 0
     have hfs33 := fC BK563 0
     have hns33_1 := NB569_563.1
     have hms33_1 := NB563_569.1
     have hs34 : w32.cell? ⟨gb563, 1, none⟩ = some (.slice none 0 0) := cC BK563 1
     have hfs34 := fC BK563 1
     have hns34_1 := NB569_563.1
     have hms34_1 := NB563_569.1
     refine skip_ (w1 := ?_) (by rfl) rfl ?_ ?_
     rotate_left
     ·
      go_simp; rfl
     refine hK.out _ _ ⟨((cell_far (p := ⟨gb563, _, none⟩) NB569_563.1 _).trans (((cell_far (p := ⟨gb563, _, none⟩) NB569_563.1 _).trans (hHeld.1)))), ((cell_far (p := ⟨gb563, _, none⟩) NB569_563.1 _).trans (((cell_far (p := ⟨gb563, _, none⟩) NB569_563.1 _).trans (hHeld.2))))⟩ (fun hHeld => ?_)
     clear hK K
     refine pA 1023 9 5 ?_
     refine pA 2047 10 6 ?_
     refine done_ (done_of HT_.1 (by kernel_rfl)) ?_
     try go_wp2
     refine bodyPost_ret (results_ctt rfl _ _ gb563 26 #[.int .i64 x570000_1, .slice Ao30 x570001_1.length co30] (0, 0) _ rfl (by refine kP ?_; refine blk_put (cs := #[.int .i64 x570000_1, .slice none 0 0]) ?_ 1 _ rfl; refine kP ?_; refine blk_put (cs := #[.int .i64 0, .slice none 0 0]) ?_ 0 _ rfl; refine kP ?_; exact BK563.1) Try.underlying26 rfl (by kernel_rfl)) rfl ?_
     exact ⟨_, _, fT, vU (Kd.V_mono (Kd.V_far (p := ⟨gb563, 1, none⟩) (Kd.V_far (p := ⟨gb563, 0, none⟩) (Kd.V_mono HO_570001.1 (fun k_ hk => (⟨hk, hk.2.1⟩ : _ ∧ k_ ≠ gb563))) (fun _ hk => hk.2) (.int .i64 x570000_1)) (fun _ hk => hk.2) (.slice Ao30 x570001_1.length co30)) (fun _ hk => hk.1.1)), vU (Kd.V_mono (Kd.V_far (p := ⟨gb563, 1, none⟩) (Kd.V_far (p := ⟨gb563, 0, none⟩) (Kd.V_mono HO_9.1 (fun k_ hk => (⟨hk, hk.2.1⟩ : _ ∧ k_ ≠ gb563))) (fun _ hk => hk.2) (.int .i64 x570000_1)) (fun _ hk => hk.2) (.slice Ao30 x570001_1.length co30)) (fun _ hk => hk.1.1)), bS HB.1⟩
    ·
     replace c27 := Bool.eq_false_iff.mpr c27
     subst c27
     have H1 : (some (x570000_1, x570001_1, x9_1, false)) = some (r1, r2, r3, r4) := by rw [if_neg (show ¬ (false = true) by decide)] at H; exact H
     clear H
     have H := H1
     clear H1
     simp only [Option.some.injEq, Prod.mk.injEq] at H
     obtain ⟨rfl, rfl, rfl, rfl⟩ := H
     try go_wp2
     replace HO_9 := Aa (Kd.V_drew HO_9.1)
     replace HO_570001 := Aa (Kd.V_drew HO_570001.1)
     replace BK563 := Aa (blk_drew BK563.1)
     replace BK569 := Aa (blk_drew BK569.1)
     replace HB := Aa (below_drew1 HB.1)
     obtain ⟨Ao37, co37, eo37⟩ := Kd.V_slice HO_570001.1
     (first | subst eo37 | (injection eo37 with f1_ f2_ f3_; have f4_ := f1_.symm; have f5_ := f3_.symm; clear f1_ f2_ f3_; subst f4_; subst f5_))
     refine start_ (n := 11) (S := fun w' => w'.cell? ⟨gb569, 0, none⟩ = some (.int .i64 x570000_1) ∧ w'.cell? ⟨gb569, 1, none⟩ = some (.slice Ao37 x570001_1.length co37)) (ds := []) (bm 11 0) (by kernel_rfl) rfl (bm0 _) ⟨cC BK569 0, cC BK569 1⟩ (fun hHeld => ?_); refine with_tabW tegulalaw35_build.tab8 tegulalaw35_build.bits8 (fun HT_ HW_ => ?_)
     generalize wr.drew = w35 at HO_9 HO_570001 BK563 BK569 HB hHeld ⊢
     refine pA 2 1 50 ?_
     refine pA 6 2 51 ?_
     refine pA 14 3 52 ?_
     refine pU 30 4 53 ?_
     refine pU 62 5 54 ?_
     refine pU 126 6 55 ?_
     refine pA 254 7 56 ?_
     refine tA 255 0 49 hHeld ?_
     refine oN 511 8 (fun K hK => ?_)
     have hs36 : w35.cell? ⟨gb563, 0, none⟩ = some (.int .i64 0) := cC BK563 0
     have hfs36 := fC BK563 0
     have hns36_1 := NB569_563.1
     have hms36_1 := NB563_569.1
     have hs38 : w35.cell? ⟨gb563, 1, none⟩ = some (.slice none 0 0) := cC BK563 1
     have hfs38 := fC BK563 1
     have hns38_1 := NB569_563.1
     have hms38_1 := NB563_569.1
     refine skip_ (w1 := ?_) (by rfl) rfl ?_ ?_
     rotate_left
     ·
      go_simp; rfl
     refine hK.out _ _ ⟨((cell_far (p := ⟨gb563, _, none⟩) NB569_563.1 _).trans (((cell_far (p := ⟨gb563, _, none⟩) NB569_563.1 _).trans (hHeld.1)))), ((cell_far (p := ⟨gb563, _, none⟩) NB569_563.1 _).trans (((cell_far (p := ⟨gb563, _, none⟩) NB569_563.1 _).trans (hHeld.2))))⟩ (fun hHeld => ?_)
     clear hK K
     refine pA 1023 9 5 ?_
     refine pA 2047 10 6 ?_
     refine done_ (done_of HT_.1 (by kernel_rfl)) ?_
     try go_wp2
     refine bodyPost_ret (results_ctt rfl _ _ gb563 26 #[.int .i64 x570000_1, .slice Ao37 x570001_1.length co37] (0, 0) _ rfl (by refine kP ?_; refine blk_put (cs := #[.int .i64 x570000_1, .slice none 0 0]) ?_ 1 _ rfl; refine kP ?_; refine blk_put (cs := #[.int .i64 0, .slice none 0 0]) ?_ 0 _ rfl; refine kP ?_; exact BK563.1) Try.underlying26 rfl (by kernel_rfl)) rfl ?_
     exact ⟨_, _, fT, vU (Kd.V_mono (Kd.V_far (p := ⟨gb563, 1, none⟩) (Kd.V_far (p := ⟨gb563, 0, none⟩) (Kd.V_mono HO_570001.1 (fun k_ hk => (⟨hk, hk.2.1⟩ : _ ∧ k_ ≠ gb563))) (fun _ hk => hk.2) (.int .i64 x570000_1)) (fun _ hk => hk.2) (.slice Ao37 x570001_1.length co37)) (fun _ hk => hk.1.1)), vU (Kd.V_mono (Kd.V_far (p := ⟨gb563, 1, none⟩) (Kd.V_far (p := ⟨gb563, 0, none⟩) (Kd.V_mono HO_9.1 (fun k_ hk => (⟨hk, hk.2.1⟩ : _ ∧ k_ ≠ gb563))) (fun _ hk => hk.2) (.int .i64 x570000_1)) (fun _ hk => hk.2) (.slice Ao37 x570001_1.length co37)) (fun _ hk => hk.1.1)), bS HB.1⟩

end Go.Proofs.Ytcjpikjbjehjeaa.PAllocB
