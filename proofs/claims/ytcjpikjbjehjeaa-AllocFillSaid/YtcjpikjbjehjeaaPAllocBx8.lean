-- Written for this claim by a program of this session (wip/), out of the translation's own print: Lean checks it
import Derived.Test.YtcjpikjbjehjeaaPAllocBx0
import Derived.Test.YtcjpikjbjehjeaaPAllocBx2
import Derived.Test.YtcjpikjbjehjeaaPAllocBx5
import Derived.Test.YtcjpikjbjehjeaaPAllocBx6
namespace Go.Proofs.Ytcjpikjbjehjeaa.PAllocB
open Go.RowKit Go.Proofs.YtcjpikjbjehjeaaW.PrintWords Go.Proofs.YtcjpikjbjehjeaaW.PrintLast Go.Proofs.YtcjpikjbjehjeaaW.PrintMore
attribute [local go_sem] max2_int min2_int max_two min_two max_three min_three max_four min_four   -- for this text's walks alone
set_option linter.unusedVariables false
set_option linter.unusedSimpArgs false

/-! ### alloc_lowest: function 49 -/
def alloc_lowest.l0 : Nat → Int → List (S53) → List (S53) → Int → Int → Option ((List (S53)))
 | 0, _, _, _, _, _ => none
 | k + 1, x1, x5, x9, x10, x11 => if x11 < x10 then (if 0 ≤ x11 then (if x11 < (x9.length : Int) then (if (mn x1 ((rd_T53 x9 x11).f1)) > 0 then ((alloc_run.f ((rd_T53 x9 x11).f2) (wrap64 (((rd_T53 x9 x11).f2) + (mn x1 ((rd_T53 x9 x11).f1))))).bind fun bt217 => (if x5.length < 5864062014805 then (alloc_lowest.l0 k (wrap64 (x1 - (mn x1 ((rd_T53 x9 x11).f1)))) (x5 ++ [(⟨bt217.1, bt217.2.1, bt217.2.2⟩ : S53)]) x9 x10 (wrap64 (x11 + 1))) else (none))) else (alloc_lowest.l0 k (wrap64 (x1 - (mn x1 ((rd_T53 x9 x11).f1)))) x5 x9 x10 (wrap64 (x11 + 1)))) else (none)) else (none)) else (some x5)
def alloc_lowest.f (k : Nat) (l0 : List (S53)) (a1 : Int) : Option ((List (S53))) := alloc_lowest.l0 k a1 ([] : List (S53)) l0 (l0.length : Int) 0
theorem alloc_lowest.mono_l : ∀ k, (∀ y0 y1 y2 y3 y4, LeO (alloc_lowest.l0 k y0 y1 y2 y3 y4) (alloc_lowest.l0 (k + 1) y0 y1 y2 y3 y4))
 | 0 => fun _ _ _ _ _ r h => by simp [alloc_lowest.l0] at h
 | k + 1 => by
  have ih0 := alloc_lowest.mono_l k
  ·
   intro y0 y1 y2 y3 y4
   unfold alloc_lowest.l0
   repeat' first
   | (with_reducible exact ih0 _ _ _ _ _)
   | (with_reducible exact LeO.refl _)
   | (with_reducible exact LeO.none _)
   | (with_reducible refine LeO.ite ?_ ?_)
   | (with_reducible refine LeO.bind ?_ (fun _ => ?_))
   | exact ih0 _ _ _ _ _
   | exact LeO.none _
   | refine LeO.ite ?_ ?_
   | refine LeO.bind ?_ (fun _ => ?_)
theorem alloc_lowest.mono : ∀ a0 a1 k, LeO (alloc_lowest.f k a0 a1) (alloc_lowest.f (k + 1) a0 a1) := by
 intro a0 a1 k
 have ih0 := alloc_lowest.mono_l k
 unfold alloc_lowest.f
 repeat' first
   | (with_reducible exact ih0 _ _ _ _ _)
   | (with_reducible exact LeO.refl _)
   | (with_reducible exact LeO.none _)
   | (with_reducible refine LeO.ite ?_ ?_)
   | (with_reducible refine LeO.bind ?_ (fun _ => ?_))
   | exact ih0 _ _ _ _ _
   | exact LeO.none _
   | refine LeO.ite ?_ ?_
   | refine LeO.bind ?_ (fun _ => ?_)
set_option maxHeartbeats 8000000 in
set_option maxRecDepth 100000 in
theorem alloc_lowest.calls (k : Nat) (A0 : Option Addr) (c0 : Nat) (l0 : List (S53)) (a1 : Int) (r : List (S53)) (w : World) (hr0 : Kd.C k53 w A0 l0.length l0) (hc0 : l0.length ≤ c0) (h : alloc_lowest.f k l0 a1 = some r) :
  Calls Try.prog 49 #[.slice A0 l0.length c0, .int .i64 a1] w fun e w' => ∃ v0_ : Value, e = .returned (v0_) ∧ Kd.R k53 53 w' w.heap.size (fun _ => True) v0_ r ∧ Below w.heap.size w w' := by
 have hu53 := Try.underlying53
 have HR0 := Aside0.mk hr0
 have HC0 := Aside0.mk hc0
 clear hr0 hc0
 have HB := Aa (Below.refl w.heap.size w)
 have H : (alloc_lowest.l0 k a1 ([] : List (S53)) l0 (l0.length : Int) 0) = some r := h
 clear h
 have H' := Aside0.mk H
 clear H
 go_enter Try.func49, Try.ntmps49
 go_wp2
 go_loopg [1, 5, 11] k (fun kq v1 v5 v11 w' => ∃ (x1_1 : Int) (x5_1 : List (S53)) (x11_1 : Int), v1 = .int .i64 x1_1 ∧ v11 = .int .i64 x11_1 ∧ Aside0 (alloc_lowest.l0 kq x1_1 x5_1 l0 (l0.length : Int) x11_1 = some r) ∧ Aside0 (kq ≤ k) ∧ Aside0 (Kd.R k53 53 w' w.heap.size (fun _ => True) v5 x5_1) ∧ Aside0 (Below w.heap.size w w'))
 case atStart => exact ⟨(a1), (([] : List (S53))), (0), (by first | rfl | (simp; done) | (simp [*]; done)), (by first | rfl | (simp; done) | (simp [*]; done)), H', ⟨Nat.le_refl _⟩, ⟨by first | exact Kd.R_nil _ _ _ _ _ | exact Kd.N_nil _ _ _ _ _ | exact Kd.V_nil _ _ _ _ _ | exact Kd.Q_nil _ _ _ _ _ | exact Kd.S_nil _ _ _ _ _⟩, ⟨bU HB.1⟩⟩
 case round =>
  clear H'
  try clear p2
  obtain ⟨x1_1, x5_1, x11_1, rfl, rfl, HA, HK1, HO_5, HB⟩ := hrel
  cases gk with
  | zero => exact absurd HA.1 (by simp [alloc_lowest.l0])
  | succ k1 =>
   have H := HA.1
   clear HA
   simp only [alloc_lowest.l0] at H
   by_cases c3 : x11_1 < (l0.length : Int)
   ·
    rw [if_pos c3] at H
    have c3b0 := decide_eq_true c3
    clear c3
    by_cases c4 : 0 ≤ x11_1
    ·
     rw [if_pos c4] at H
     have c4b0 := decide_eq_true c4
     clear c4
     by_cases c5 : x11_1 < (l0.length : Int)
     ·
      rw [if_pos c5] at H
      have c5b0 := decide_eq_true c5
      clear c5
      obtain ⟨ji6, hji6⟩ : ∃ j_ : Int, (mn x1_1 ((rd_T53 l0 x11_1).f1)) = j_ := ⟨_, rfl⟩
      replace H : (if (ji6) > 0 then ((alloc_run.f ((rd_T53 l0 x11_1).f2) (wrap64 (((rd_T53 l0 x11_1).f2) + (ji6)))).bind fun bt217 => (if x5_1.length < 5864062014805 then (alloc_lowest.l0 k1 (wrap64 (x1_1 - (ji6))) (x5_1 ++ [(⟨bt217.1, bt217.2.1, bt217.2.2⟩ : S53)]) l0 (l0.length : Int) (wrap64 (x11_1 + 1))) else (none))) else (alloc_lowest.l0 k1 (wrap64 (x1_1 - (ji6))) x5_1 l0 (l0.length : Int) (wrap64 (x11_1 + 1)))) = some r := by first | (rw [hji6] at H; exact H) | (simp only [hji6] at H ⊢; exact H)
      have hji6_ : (if ((rd_T53 l0 x11_1).f1) < x1_1 then ((rd_T53 l0 x11_1).f1) else x1_1) = ji6 := hji6
      by_cases c7 : (ji6) > 0
      ·
       rw [if_pos c7] at H
       have c7b0 := decide_eq_true c7
       clear c7
       replace H := Option.bind_eq_some_iff.mp H
       obtain ⟨⟨t217, t218, t219⟩, A80, H⟩ := H
       replace H : (if x5_1.length < 5864062014805 then (alloc_lowest.l0 k1 (wrap64 (x1_1 - (ji6))) (x5_1 ++ [(⟨t217, t218, t219⟩ : S53)]) l0 (l0.length : Int) (wrap64 (x11_1 + 1))) else (none)) = some r := H
       have A8 := Aside0.mk A80
       clear A80
       by_cases c9 : x5_1.length < 5864062014805
       ·
        rw [if_pos c9] at H
        have LMc9 := Aside0.mk c9
        clear c9
        obtain ⟨y220, hy220⟩ : ∃ y_ : List (S53), y_ = (x5_1 ++ [(⟨t217, t218, t219⟩ : S53)]) := ⟨_, rfl⟩
        replace H : (alloc_lowest.l0 k1 (wrap64 (x1_1 - (ji6))) y220 l0 (l0.length : Int) (wrap64 (x11_1 + 1))) = some r := by first | (rw [hy220]; exact H) | exact H
        have Ny220 := Aside0.mk hy220
        clear hy220
        have H' := Aside0.mk H
        clear H
        have p215 : 0 ≤ (x11_1 : Int) := dT
        have q215 : x11_1 < (l0.length : Int) := dT
        obtain ⟨ad215, e215, hx215_0, hx215_1, hx215_2⟩ := at_T53 HR0.1 x11_1 p215 q215
        cases e215
        replace hx215_0 := cB HB hx215_0
        replace hx215_1 := cB HB hx215_1
        replace hx215_2 := cB HB hx215_2
        replace p215 := eq_true p215
        replace q215 := eq_true q215
        go_wp2_with (first | ((with_reducible refine gD 7 ?_); refine bE #[.int .i64 0, .int .i64 0, .int .i64 0] 53 ?_; intro gb216 hg w10 hbox hb; replace HO_5 := Aa (Kd.R_below (Kd.R_elderB (rU HO_5.1) gb216 (Nat.le_of_eq hg.symm)) hb); have BK216 := Aa (hbox); have GW216 := gU HB hg; have GE216 := gU HB hg; have iE216 := Nonempty.intro GE216.1; replace HB := sU HB hb; clear hb hbox hg; have hcz11_0 : w10.cell? ⟨gb216, 0, none⟩ = some (.int .i64 0) := cC BK216 0; have hcz11_1 : w10.cell? ⟨gb216, 1, none⟩ = some (.int .i64 0) := cC BK216 1; have hcz11_2 : w10.cell? ⟨gb216, 2, none⟩ = some (.int .i64 0) := cC BK216 2; have hfz11_0 := fC BK216 0; have hfz11_1 := fC BK216 1; have hfz11_2 := fC BK216 2) | ((with_reducible refine gate_callee (f := 61) rfl ?_); refine goesL_ (some 28) rfl rfl Try.func61 (by kernel_rfl) rfl #[.int .i64 ((rd_T53 l0 x11_1).f2), .int .i64 (wrap64 (((rd_T53 l0 x11_1).f2) + (ji6)))] rfl (by (try simp only [List.map_toArray, List.map_cons, List.map_nil]); first | done | (simp only [hji6]; rfl) | rfl | (simp only [List.length_drop, List.length_take]; rfl)) ?_; (with_reducible refine (alloc_run.calls ((rd_T53 l0 x11_1).f2) (wrap64 (((rd_T53 l0 x11_1).f2) + (ji6))) t217 t218 t219 _ A8.1).mono ?_); rintro e w12 ⟨rfl, hb⟩; refine ⟨_, rfl, ?_⟩; replace HO_5 := Aa (Kd.R_below (rU (Kd.R_mono (Kd.R_far (p := ⟨gb216, 2, none⟩) (Kd.R_far (p := ⟨gb216, 1, none⟩) (Kd.R_far (p := ⟨gb216, 0, none⟩) (Kd.R_mono HO_5.1 (fun k_ hk => (⟨hk, hk.2⟩ : _ ∧ k_ ≠ gb216))) (fun _ hk => hk.2) (.int .i64 ((rd_T53 l0 x11_1).f0))) (fun _ hk => hk.2) (.int .i64 ((rd_T53 l0 x11_1).f1))) (fun _ hk => hk.2) (.int .i64 ((rd_T53 l0 x11_1).f2))) (fun _ h_ => h_.1))) hb); replace BK216 := Aa (blk_below (g := gb216) (o := .cells #[.int .i64 ((rd_T53 l0 x11_1).f0), .int .i64 ((rd_T53 l0 x11_1).f1), .int .i64 ((rd_T53 l0 x11_1).f2)] 53 (0, 0)) (by refine kP ?_; refine blk_put (cs := #[.int .i64 ((rd_T53 l0 x11_1).f0), .int .i64 ((rd_T53 l0 x11_1).f1), .int .i64 0]) ?_ 2 _ rfl; refine kP ?_; refine blk_put (cs := #[.int .i64 ((rd_T53 l0 x11_1).f0), .int .i64 0, .int .i64 0]) ?_ 1 _ rfl; refine kP ?_; refine blk_put (cs := #[.int .i64 0, .int .i64 0, .int .i64 0]) ?_ 0 _ rfl; refine kP ?_; exact BK216.1) hb); replace HB := sB HB hb; (try clear hb); (try clear hk)) | ((with_reducible refine gate_builtin (b := .append) (xs := #[.tmp 21, .tmp 29]) rfl ?_); at_builtin; refine Kd.R_append k53 (w0 := w) w.heap.size rfl (.tmp 21) (.tmp 29) 24 53 (.agg #[(.int .i64 0), (.int .i64 0), (.int .i64 0)]) 24 rfl Try.underlying24 info53 rfl (by decide) (by omega) u5 x5_1 (⟨t217, t218, t219⟩ : S53) [.int .i64 t217, .int .i64 t218, .int .i64 t219] (fun k_ => k_ ≠ gb216) (fun _ => False) rfl rfl ?aP (fun _ hk => hk.elim) ?aF ?aO ?aB ?aS ?aL ?_; (case aP => exact k53_mkM _ _ _ (⟨t217, t218, t219⟩ : S53)); (case aB => exact (bS HB.1)); (case aF => exact (fun k_ hk => Kd.freshB (g := gb216) (o := .cells #[.int .i64 ((rd_T53 l0 x11_1).f0), .int .i64 ((rd_T53 l0 x11_1).f1), .int .i64 ((rd_T53 l0 x11_1).f2)] 53 (0, 0)) (kU BK216.1) k_ hk)); (case aO => exact (rU (Kd.R_mono HO_5.1 (fun _ hk => hk.2)))); (case aS => exact (below_size (bS HB.1))); (case aL => have := LMc9.1; omega); intro v221 w13 ho hb hg hat; rw [← Ny220.1] at ho; have n0_ := Aa (blk_grown (g := gb216) (o := .cells #[.int .i64 ((rd_T53 l0 x11_1).f0), .int .i64 ((rd_T53 l0 x11_1).f1), .int .i64 ((rd_T53 l0 x11_1).f2)] 53 (0, 0)) (kU BK216.1) hg (Kd.R_away HO_5.1 (fun _ hk => hk.2))); have n1_ := Aa (hb); have n2_ := Aa (ho); clear BK216; clear HB; clear HO_5; have BK216 := n0_; have HB := n1_; have HO222 := n2_; clear n0_ n1_ n2_; clear ho hb hg hat))
        go_roundg k1
        case measure => have := HK1.1; omega
        case rel => exact ⟨(wrap64 (x1_1 - (ji6))), (y220), (wrap64 (x11_1 + 1)), (by first | rfl | (simp; done) | (simp only [← hji6] <;> (first | rfl | simp)) | (simp [*]; done)), (by first | rfl | (simp; done) | (simp [*]; done)), H', ⟨by have := HK1.1; omega⟩, ⟨rU (Kd.R_mono HO222.1 (fun _ hk => trivial))⟩, ⟨bS HB.1⟩⟩
       ·
        rw [if_neg c9] at H
        exact absurd H (by simp)
      ·
       rw [if_neg c7] at H
       have c7b0 := decide_eq_false c7
       clear c7
       have H' := Aside0.mk H
       clear H
       have p215 : 0 ≤ (x11_1 : Int) := dT
       have q215 : x11_1 < (l0.length : Int) := dT
       obtain ⟨ad215, e215, hx215_0, hx215_1, hx215_2⟩ := at_T53 HR0.1 x11_1 p215 q215
       cases e215
       replace hx215_0 := cB HB hx215_0
       replace hx215_1 := cB HB hx215_1
       replace hx215_2 := cB HB hx215_2
       replace p215 := eq_true p215
       replace q215 := eq_true q215
       go_wp2_with (first | ((with_reducible refine gD 7 ?_); refine bE #[.int .i64 0, .int .i64 0, .int .i64 0] 53 ?_; intro gb216 hg w14 hbox hb; replace HO_5 := Aa (Kd.R_below (Kd.R_elderB (rU HO_5.1) gb216 (Nat.le_of_eq hg.symm)) hb); have BK216 := Aa (hbox); have GW216 := gU HB hg; have GE216 := gU HB hg; have iE216 := Nonempty.intro GE216.1; replace HB := sU HB hb; clear hb hbox hg; have hcz15_0 : w14.cell? ⟨gb216, 0, none⟩ = some (.int .i64 0) := cC BK216 0; have hcz15_1 : w14.cell? ⟨gb216, 1, none⟩ = some (.int .i64 0) := cC BK216 1; have hcz15_2 : w14.cell? ⟨gb216, 2, none⟩ = some (.int .i64 0) := cC BK216 2; have hfz15_0 := fC BK216 0; have hfz15_1 := fC BK216 1; have hfz15_2 := fC BK216 2))
       go_roundg k1
       case measure => have := HK1.1; omega
       case rel => exact ⟨(wrap64 (x1_1 - (ji6))), (x5_1), (wrap64 (x11_1 + 1)), (by first | rfl | (simp; done) | (simp only [← hji6] <;> (first | rfl | simp)) | (simp [*]; done)), (by first | rfl | (simp; done) | (simp [*]; done)), H', ⟨by have := HK1.1; omega⟩, ⟨rU (Kd.R_mono (Kd.R_far (p := ⟨gb216, 2, none⟩) (Kd.R_far (p := ⟨gb216, 1, none⟩) (Kd.R_far (p := ⟨gb216, 0, none⟩) (Kd.R_mono HO_5.1 (fun k_ hk => (⟨hk, hk.2⟩ : _ ∧ k_ ≠ gb216))) (fun _ hk => hk.2) (.int .i64 ((rd_T53 l0 x11_1).f0))) (fun _ hk => hk.2) (.int .i64 ((rd_T53 l0 x11_1).f1))) (fun _ hk => hk.2) (.int .i64 ((rd_T53 l0 x11_1).f2))) (fun _ hk => trivial))⟩, ⟨bS HB.1⟩⟩
     ·
      rw [if_neg c5] at H
      exact absurd H (by simp)
    ·
     rw [if_neg c4] at H
     exact absurd H (by simp)
   ·
    rw [if_neg c3] at H
    have c3b0 := decide_eq_false c3
    clear c3
    obtain rfl := Option.some.inj H
    go_wp2
    go_ret
    exact ⟨_, fT, rU HO_5.1, bU HB.1⟩

/-! ### alloc_pieces: function 30 -/
def alloc_pieces.f (k : Nat) (a0_0 : Int) (l0_1 : List (S53)) (a1 : Int) (a2 : Int) : Option ((List (S53)) × Bool) := (alloc_clip.f k l0_1 a2).bind fun bt224 => ((alloc_lowest.f k bt224.1 a1).bind fun t230 => ((alloc_size.f k bt224.1).bind fun t233 => ((alloc_lowest.f k bt224.2 (wrap64 (a1 - (mn a1 t233)))).bind fun t234 => (if t230.length + t234.length < 5864062014805 then (some ((t230 ++ t234), true)) else (none)))))
theorem alloc_pieces.mono : ∀ a0 a1 a2 a3 k, LeO (alloc_pieces.f k a0 a1 a2 a3) (alloc_pieces.f (k + 1) a0 a1 a2 a3) := by
 intro a0 a1 a2 a3 k
 unfold alloc_pieces.f
 repeat' first
   | (with_reducible exact alloc_clip.mono _ _ _)
   | (with_reducible exact alloc_lowest.mono _ _ _)
   | (with_reducible exact alloc_size.mono _ _)
   | (with_reducible exact LeO.refl _)
   | (with_reducible exact LeO.none _)
   | (with_reducible refine LeO.ite ?_ ?_)
   | (with_reducible refine LeO.bind ?_ (fun _ => ?_))
   | exact alloc_clip.mono _ _ _
   | exact alloc_lowest.mono _ _ _
   | exact alloc_size.mono _ _
   | exact LeO.none _
   | refine LeO.ite ?_ ?_
   | refine LeO.bind ?_ (fun _ => ?_)
set_option maxHeartbeats 8000000 in
set_option maxRecDepth 100000 in
theorem alloc_pieces.calls (k : Nat) (a0_0 : Int) (A0_1 : Option Addr) (c0_1 : Nat) (l0_1 : List (S53)) (a1 : Int) (a2 : Int) (r1 : List (S53)) (r2 : Bool) (w : World) (hr0_1 : Kd.C k53 w A0_1 l0_1.length l0_1) (hc0_1 : l0_1.length ≤ c0_1) (h : alloc_pieces.f k a0_0 l0_1 a1 a2 = some (r1, r2)) :
  Calls Try.prog 30 #[.agg #[.int .i64 a0_0, .slice A0_1 l0_1.length c0_1], .int .i64 a1, .int .i64 a2] w fun e w' => ∃ v0_ : Value, e = .returned (.tuple #[v0_, .bool r2]) ∧ Kd.R k53 53 w' w.heap.size (fun _ => True) v0_ r1 ∧ Below w.heap.size w w' := by
 have hu26 := Try.underlying26
 have HR0_1 := Aside0.mk hr0_1
 have HC0_1 := Aside0.mk hc0_1
 clear hr0_1 hc0_1
 have HB := Aa (Below.refl w.heap.size w)
 have H : ((alloc_clip.f k l0_1 a2).bind fun bt224 => ((alloc_lowest.f k bt224.1 a1).bind fun t230 => ((alloc_size.f k bt224.1).bind fun t233 => ((alloc_lowest.f k bt224.2 (wrap64 (a1 - (mn a1 t233)))).bind fun t234 => (if t230.length + t234.length < 5864062014805 then (some ((t230 ++ t234), true)) else (none)))))) = some (r1, r2) := h
 clear h
 replace H := Option.bind_eq_some_iff.mp H
 obtain ⟨⟨t224, t225⟩, A40, H⟩ := H
 replace H : ((alloc_lowest.f k t224 a1).bind fun t230 => ((alloc_size.f k t224).bind fun t233 => ((alloc_lowest.f k t225 (wrap64 (a1 - (mn a1 t233)))).bind fun t234 => (if t230.length + t234.length < 5864062014805 then (some ((t230 ++ t234), true)) else (none))))) = some (r1, r2) := H
 have A4 := Aside0.mk A40
 clear A40
 replace H := Option.bind_eq_some_iff.mp H
 obtain ⟨t230, A50, H⟩ := H
 replace H : ((alloc_size.f k t224).bind fun t233 => ((alloc_lowest.f k t225 (wrap64 (a1 - (mn a1 t233)))).bind fun t234 => (if t230.length + t234.length < 5864062014805 then (some ((t230 ++ t234), true)) else (none)))) = some (r1, r2) := H
 have A5 := Aside0.mk A50
 clear A50
 replace H := Option.bind_eq_some_iff.mp H
 obtain ⟨t233, A60, H⟩ := H
 replace H : ((alloc_lowest.f k t225 (wrap64 (a1 - (mn a1 t233)))).bind fun t234 => (if t230.length + t234.length < 5864062014805 then (some ((t230 ++ t234), true)) else (none))) = some (r1, r2) := H
 have A6 := Aside0.mk A60
 clear A60
 obtain ⟨ji7, hji7⟩ : ∃ j_ : Int, (mn a1 t233) = j_ := ⟨_, rfl⟩
 replace H : ((alloc_lowest.f k t225 (wrap64 (a1 - (ji7)))).bind fun t234 => (if t230.length + t234.length < 5864062014805 then (some ((t230 ++ t234), true)) else (none))) = some (r1, r2) := by first | (rw [hji7] at H; exact H) | (simp only [hji7] at H ⊢; exact H)
 (try rw [hji7] at A4)
 (try rw [hji7] at A5)
 (try rw [hji7] at A6)
 have hji7_ : (if t233 < a1 then t233 else a1) = ji7 := hji7
 replace H := Option.bind_eq_some_iff.mp H
 obtain ⟨t234, A80, H⟩ := H
 replace H : (if t230.length + t234.length < 5864062014805 then (some ((t230 ++ t234), true)) else (none)) = some (r1, r2) := H
 have A8 := Aside0.mk A80
 clear A80
 by_cases c9 : t230.length + t234.length < 5864062014805
 ·
  rw [if_pos c9] at H
  have LMc9 := Aside0.mk c9
  clear c9
  obtain ⟨y237, hy237⟩ : ∃ y_ : List (S53), y_ = (t230 ++ t234) := ⟨_, rfl⟩
  replace H : (some (y237, true)) = some (r1, r2) := by first | (rw [hy237]; exact H) | exact H
  have Ny237 := Aside0.mk hy237
  clear hy237
  simp only [Option.some.injEq, Prod.mk.injEq] at H
  obtain ⟨rfl, rfl⟩ := H
  go_enter Try.func30, Try.ntmps30
  go_wp2_with (first | ((with_reducible refine gD 3 ?_); refine bE #[.int .i64 a0_0, .slice A0_1 l0_1.length c0_1] 26 ?_; intro gb223 hg w10 hbox hb; have BK223 := Aa (hbox); have GW223 := gU HB hg; have GE223 := gU HB hg; have iE223 := Nonempty.intro GE223.1; replace HB := sU HB hb; clear hb hbox hg; have hcz11_0 : w10.cell? ⟨gb223, 0, none⟩ = some (.int .i64 a0_0) := cC BK223 0; have hcz11_1 : w10.cell? ⟨gb223, 1, none⟩ = some (.slice A0_1 l0_1.length c0_1) := cC BK223 1; have hfz11_0 := fC BK223 0; have hfz11_1 := fC BK223 1) | ((with_reducible refine gC 47 ?_); refine gL 14 Try.func47 #[.slice A0_1 l0_1.length c0_1, .int .i64 a2] ?_; (with_reducible refine (alloc_clip.calls k _ _ l0_1 a2 t224 t225 _ ?side1 ?side2 A4.1).mono ?_); (case side1 => exact cU (Kd.C_below HR0_1.1 HB.1)); (case side2 => exact HC0_1.1); rintro e w12 ⟨v226, v228, rfl, ho0, ho1, hb⟩; refine ⟨_, rfl, ?_⟩; have HO227 := Aa (Kd.R_lower ho0 (below_size (bS HB.1))); have HO229 := Aa (Kd.R_lower ho1 (below_size (bS HB.1))); replace BK223 := kB BK223 hb; replace HB := sB HB hb; (try clear hb); (try clear hk); (try clear ho0); (try clear ho1); obtain ⟨Ao13, co13, eo13⟩ := Kd.R_slice HO227.1; subst eo13) | ((with_reducible refine gC 49 ?_); refine gL 19 Try.func49 #[.slice Ao13 t224.length co13, .int .i64 a1] ?_; (with_reducible refine (alloc_lowest.calls k _ _ t224 a1 t230 _ ?side1 ?side2 A5.1).mono ?_); (case side1 => repeat (first | exact (Kd.R_reads' HO227.1).2.2 | (with_reducible refine Kd.C_alloc ?_ _) | (with_reducible refine Kd.C_drewN ?_ _) | (with_reducible refine Kd.C_drew ?_))); (case side2 => exact (Kd.R_reads' HO227.1).2.1); rintro e w14 ⟨v231, rfl, ho0, hb⟩; refine ⟨_, rfl, ?_⟩; have HO232 := Aa (Kd.R_lower (Kd.R_new' (Kd.R_new' ho0 (Kd.R_lt (rU HO227.1))) (Kd.R_lt (rU HO229.1))) (below_size (bS HB.1))); replace HO227 := rE HO227 ho0 hb; replace HO229 := rE HO229 ho0 hb; replace BK223 := kB BK223 hb; replace HB := sB HB hb; (try clear hb); (try clear hk); (try clear ho0)) | ((with_reducible refine gC 31 ?_); refine gL 24 Try.func31 #[.slice Ao13 t224.length co13] ?_; (with_reducible refine (alloc_size.calls k _ _ t224 t233 _ ?side1 ?side2 A6.1).mono ?_); (case side1 => repeat (first | exact (Kd.R_reads' HO227.1).2.2 | (with_reducible refine Kd.C_alloc ?_ _) | (with_reducible refine Kd.C_drewN ?_ _) | (with_reducible refine Kd.C_drew ?_))); (case side2 => exact (Kd.R_reads' HO227.1).2.1); rintro e w15 ⟨rfl, hb⟩; refine ⟨_, rfl, ?_⟩; replace HO227 := rB HO227 hb; replace HO229 := rB HO229 hb; replace HO232 := rB HO232 hb; replace BK223 := kB BK223 hb; replace HB := sB HB hb; (try clear hb); (try clear hk); obtain ⟨Ao16, co16, eo16⟩ := Kd.R_slice HO229.1; subst eo16) | ((with_reducible refine gate_callee (f := 49) rfl ?_); refine goesL_ (some 27) rfl rfl Try.func49 (by kernel_rfl) rfl #[.slice Ao16 t225.length co16, .int .i64 (wrap64 (a1 - (ji7)))] rfl (by (try simp only [List.map_toArray, List.map_cons, List.map_nil]); first | done | (simp only [hji7]; rfl) | rfl | (simp only [List.length_drop, List.length_take]; rfl)) ?_; (with_reducible refine (alloc_lowest.calls k _ _ t225 (wrap64 (a1 - (ji7))) t234 _ ?side1 ?side2 A8.1).mono ?_); (case side1 => repeat (first | exact (Kd.R_reads' HO229.1).2.2 | (with_reducible refine Kd.C_alloc ?_ _) | (with_reducible refine Kd.C_drewN ?_ _) | (with_reducible refine Kd.C_drew ?_))); (case side2 => exact (Kd.R_reads' HO229.1).2.1); rintro e w17 ⟨v235, rfl, ho0, hb⟩; refine ⟨_, rfl, ?_⟩; have HO236 := Aa (Kd.R_lower (Kd.R_new' (Kd.R_new' (Kd.R_new' ho0 (Kd.R_lt (rU HO227.1))) (Kd.R_lt (rU HO229.1))) (Kd.R_lt (rU HO232.1))) (below_size (bS HB.1))); replace HO227 := rE HO227 ho0 hb; replace HO229 := rE HO229 ho0 hb; replace HO232 := rE HO232 ho0 hb; replace BK223 := kB BK223 hb; replace HB := sB HB hb; (try clear hb); (try clear hk); (try clear ho0); obtain ⟨Ao19, co19, eo19⟩ := Kd.R_slice HO236.1; subst eo19) | ((with_reducible refine gate_builtin (b := .append) (xs := #[.tmp 19, .tmp 27]) rfl ?_); at_builtin; refine Kd.R_append_rows k53 (w0 := w) w.heap.size rfl (.tmp 19) (.tmp 27) 24 53 (.agg #[(.int .i64 0), (.int .i64 0), (.int .i64 0)]) 24 rfl Try.underlying24 info53 rfl (by decide) (by omega) v231 t230 t234 _ _ _ (fun k_ => nb k_ Ao13 t224.length co13 ∧ nb k_ Ao16 t225.length co16 ∧ nb k_ Ao19 t234.length co19) (fun _ => False) rfl rfl ?aO ?aR (fun _ _ h => h) (fun _ h => h.elim) ?aF ?aB ?aS ?aL ?_; (case aR => repeat (first | exact (Kd.R_reads' HO236.1).2.2 | (with_reducible refine Kd.C_alloc ?_ _) | (with_reducible refine Kd.C_drewN ?_ _) | (with_reducible refine Kd.C_drew ?_))); (case aB => exact (bS HB.1)); (case aF => exact (fun k_ hk => ⟨Kd.fresh' (Kd.R_lt (rU HO227.1)) k_ hk, Kd.fresh' (Kd.R_lt (rU HO229.1)) k_ hk, Kd.fresh' (Kd.R_lt (rU HO236.1)) k_ hk⟩)); (case aO => exact (rU (Kd.R_mono HO232.1 (fun _ hk => ⟨hk.1.1.2, ⟨hk.1.2, hk.2⟩⟩)))); (case aS => exact (below_size (bS HB.1))); (case aL => have := LMc9.1; omega); intro v238 w18 ho hb hg hat; rw [← Ny237.1] at ho; have n0_ := Aa (blk_grown (g := gb223) (o := .cells #[.int .i64 a0_0, .slice A0_1 l0_1.length c0_1] 26 (0, 0)) (kU BK223.1) hg (Kd.R_ne HO232.1 BK223.1 (by decide))); have n1_ := Aa (Kd.R_after (ok := (fun k_ => nb k_ Ao16 t225.length co16 ∧ nb k_ Ao19 t234.length co19)) (rU (Kd.R_mono HO227.1 (fun _ hk => ⟨⟨hk.1.1, hk.2⟩, hk.1.2⟩))) hg hat); have n2_ := Aa (Kd.R_after (ok := (fun k_ => nb k_ Ao13 t224.length co13 ∧ nb k_ Ao19 t234.length co19)) (rU (Kd.R_mono HO229.1 (fun _ hk => ⟨⟨hk.1.1, hk.2⟩, hk.1.2⟩))) hg hat); have n3_ := Aa (Kd.R_after (ok := (fun k_ => nb k_ Ao13 t224.length co13 ∧ nb k_ Ao16 t225.length co16)) (rU (Kd.R_mono HO236.1 (fun _ hk => ⟨⟨hk.1.1.2, hk.1.2⟩, hk.2⟩))) hg hat); have n4_ := Aa (hb); have n5_ := Aa (ho); clear BK223; clear HO227; clear HO229; clear HO236; clear HB; clear HO232; have BK223 := n0_; have HO227 := n1_; have HO229 := n2_; have HO236 := n3_; have HB := n4_; have HO239 := n5_; clear n0_ n1_ n2_ n3_ n4_ n5_; clear ho hb hg hat))
  go_ret2
  exact ⟨_, by first | rfl | (simp [errW_none, errW_some] <;> rfl) | (simp only [← hji7]; first | rfl | (simp [errW_none, errW_some] <;> rfl)) | (simp [*, errW_none, errW_some] <;> rfl), rU (Kd.R_mono HO239.1 (fun _ hk => trivial)), bS HB.1⟩
 ·
  rw [if_neg c9] at H
  exact absurd H (by simp)

end Go.Proofs.Ytcjpikjbjehjeaa.PAllocB
