-- Written for this claim by a program of this session (wip/), out of the translation's own print: Lean checks it
import Derived.Test.YtnloofhpdlggnaaPRefcountLargex0
import Derived.Test.YtnloofhpdlggnaaWRepsOne
import Derived.Test.YtnloofhpdlggnaaWGuard
import Derived.Test.YtnloofhpdlggnaaPRefcountLargex2
import Derived.Test.YtnloofhpdlggnaaPRefcountLargex5
import Derived.Test.YtnloofhpdlggnaaPRefcountLargex6
import Derived.Test.YtnloofhpdlggnaaPRefcountLargex7
import Derived.Test.YtnloofhpdlggnaaPRefcountLargex8
namespace Go.Proofs.Ytnloofhpdlggnaa.PRefcountLarge
open Go.RowKit Go.Proofs.YtnloofhpdlggnaaW.PrintWords Go.Proofs.YtnloofhpdlggnaaW.PrintLast Go.Proofs.YtnloofhpdlggnaaW.PrintMore
attribute [local go_sem] max2_int min2_int max_two min_two max_three min_three max_four min_four   -- for this text's walks alone
set_option linter.unusedVariables false
set_option linter.unusedSimpArgs false

/-! ### tegulalaw34_RefcountLarge: function 8 -/
mutual
def tegulalaw34_RefcountLarge.j0 : Nat → Bool → List Int → Int → Int → Int → Int → Int → Int → Option (Bool)
 | 0, _, _, _, _, _, _, _, _ => none
 | k + 1, x61, x230000, x231000, x231001, x231002, x232000, x232001, x232002 => if x61 = true then (some false) else ((refcount_Counts_Total.f x230000).bind fun t239 => (if t239 = (wrap64 (x231001 + x232001)) then ((refcount_Counts_Used.f x230000).bind fun t240 => (if t240 = (wrap64 ((wrap64 (x231001 + x232001)) - (mx 0 (wrap64 ((mn (wrap64 (x231002 + x231001)) (wrap64 (x232002 + x232001))) - (mx x231002 x232002)))))) then ((refcount_Counts_Single.f k x230000 (([(⟨x231000, x231001, x231002⟩ : S41), (⟨x232000, x232001, x232002⟩ : S41)] : List (S41)))).bind fun t244 => (tegulalaw34_RefcountLarge.j1 k (mx 0 (wrap64 ((mn (wrap64 (x231002 + x231001)) (wrap64 (x232002 + x232001))) - (mx x231002 x232002)))) (t244 != (wrap64 ((wrap64 (x231001 + x232001)) - (wrap64 (2 * (mx 0 (wrap64 ((mn (wrap64 (x231002 + x231001)) (wrap64 (x232002 + x232001))) - (mx x231002 x232002))))))))) x230000 x231000 x231001 x231002 x232000 x232001 x232002)) else (tegulalaw34_RefcountLarge.j1 k (mx 0 (wrap64 ((mn (wrap64 (x231002 + x231001)) (wrap64 (x232002 + x232001))) - (mx x231002 x232002)))) true x230000 x231000 x231001 x231002 x232000 x232001 x232002))) else (tegulalaw34_RefcountLarge.j1 k (mx 0 (wrap64 ((mn (wrap64 (x231002 + x231001)) (wrap64 (x232002 + x232001))) - (mx x231002 x232002)))) true x230000 x231000 x231001 x231002 x232000 x232001 x232002)))
def tegulalaw34_RefcountLarge.j1 : Nat → Int → Bool → List Int → Int → Int → Int → Int → Int → Int → Option (Bool)
 | 0, _, _, _, _, _, _, _, _, _ => none
 | k + 1, x10, x115, x230000, x231000, x231001, x231002, x232000, x232001, x232002 => if x115 = true then (some false) else ((refcount_Counts_Drop.f k x230000 (([(⟨x231000, x231001, x231002⟩ : S41)] : List (S41)))).bind fun bt248 => (tegulalaw34_RefcountLarge.l0 k x10 bt248.2.1 bt248.2.2 0 0 x231000 x231001 x231002 x232000 x232001 x232002 bt248.1))
def tegulalaw34_RefcountLarge.l0 : Nat → Int → List (S41) → Int → Int → Int → Int → Int → Int → Int → Int → Int → List Int → Option (Bool)
 | 0, _, _, _, _, _, _, _, _, _, _, _, _ => none
 | k + 1, x10, x12, x13, x14, x15, x231000, x231001, x231002, x232000, x232001, x232002, x256000 => if x15 < (x12.length : Int) then (if 0 ≤ x15 then (tegulalaw34_RefcountLarge.l0 k x10 x12 x13 (wrap64 (x14 + ((rd_T41 x12 x15).f1))) (wrap64 (x15 + 1)) x231000 x231001 x231002 x232000 x232001 x232002 x256000) else (none)) else (if x13 = 0 then (if x14 = (wrap64 (x231001 - x10)) then ((refcount_Counts_Used.f x256000).bind fun t257 => (if t257 = x232001 then ((refcount_Counts_Of.f x256000 x232002).bind fun t258 => (some (t258 == 1))) else (some false))) else (some false)) else (some false))
end
def tegulalaw34_RefcountLarge.f (k : Nat) (a0_0 : Int) (a0_1 : Int) (a1_0 : Int) (a1_1 : Int) : Option (Bool) := (tegulalaw34_awake.f k).bind fun t224 => (if t224 = true then ((refcount_New.f 65536).bind fun bt225 => (if (wrap64 (65536 - (wrap64 (a0_0)))) = 0 then (none) else (if (wrap64 (65536 - (wrap64 (a1_0)))) = 0 then (none) else ((refcount_Counts_Add.f k bt225.1 (([(⟨0, wrap64 (1 + (Int.tmod (wrap64 (a0_1)) (wrap64 (65536 - (wrap64 (a0_0)))))), wrap64 (a0_0)⟩ : S41), (⟨0, wrap64 (1 + (Int.tmod (wrap64 (a1_1)) (wrap64 (65536 - (wrap64 (a1_0)))))), wrap64 (a1_0)⟩ : S41)] : List (S41)))).bind fun bt235 => (if bt225.2 = 0 then (tegulalaw34_RefcountLarge.j0 k (bt235.2 != 0) bt235.1 0 (wrap64 (1 + (Int.tmod (wrap64 (a0_1)) (wrap64 (65536 - (wrap64 (a0_0))))))) (wrap64 (a0_0)) 0 (wrap64 (1 + (Int.tmod (wrap64 (a1_1)) (wrap64 (65536 - (wrap64 (a1_0))))))) (wrap64 (a1_0))) else (tegulalaw34_RefcountLarge.j0 k true bt235.1 0 (wrap64 (1 + (Int.tmod (wrap64 (a0_1)) (wrap64 (65536 - (wrap64 (a0_0))))))) (wrap64 (a0_0)) 0 (wrap64 (1 + (Int.tmod (wrap64 (a1_1)) (wrap64 (65536 - (wrap64 (a1_0))))))) (wrap64 (a1_0)))))))) else (some false))
theorem tegulalaw34_RefcountLarge.mono_l : ∀ k, (∀ y0 y1 y2 y3 y4 y5 y6 y7, LeO (tegulalaw34_RefcountLarge.j0 k y0 y1 y2 y3 y4 y5 y6 y7) (tegulalaw34_RefcountLarge.j0 (k + 1) y0 y1 y2 y3 y4 y5 y6 y7)) ∧ (∀ y0 y1 y2 y3 y4 y5 y6 y7 y8, LeO (tegulalaw34_RefcountLarge.j1 k y0 y1 y2 y3 y4 y5 y6 y7 y8) (tegulalaw34_RefcountLarge.j1 (k + 1) y0 y1 y2 y3 y4 y5 y6 y7 y8)) ∧ (∀ y0 y1 y2 y3 y4 y5 y6 y7 y8 y9 y10 y11, LeO (tegulalaw34_RefcountLarge.l0 k y0 y1 y2 y3 y4 y5 y6 y7 y8 y9 y10 y11) (tegulalaw34_RefcountLarge.l0 (k + 1) y0 y1 y2 y3 y4 y5 y6 y7 y8 y9 y10 y11))
 | 0 => ⟨fun _ _ _ _ _ _ _ _ r h => by simp [tegulalaw34_RefcountLarge.j0] at h, fun _ _ _ _ _ _ _ _ _ r h => by simp [tegulalaw34_RefcountLarge.j1] at h, fun _ _ _ _ _ _ _ _ _ _ _ _ r h => by simp [tegulalaw34_RefcountLarge.l0] at h⟩
 | k + 1 => by
  obtain ⟨ih0, ih1, ih2⟩ := tegulalaw34_RefcountLarge.mono_l k
  refine ⟨?_, ?_, ?_⟩
  ·
   intro y0 y1 y2 y3 y4 y5 y6 y7
   unfold tegulalaw34_RefcountLarge.j0
   repeat' first
   | (with_reducible exact ih0 _ _ _ _ _ _ _ _)
   | (with_reducible exact ih1 _ _ _ _ _ _ _ _ _)
   | (with_reducible exact ih2 _ _ _ _ _ _ _ _ _ _ _ _)
   | (with_reducible exact refcount_Counts_Add.mono _ _ _)
   | (with_reducible exact refcount_Counts_Drop.mono _ _ _)
   | (with_reducible exact refcount_Counts_Single.mono _ _ _)
   | (with_reducible exact tegulalaw34_awake.mono _)
   | (with_reducible exact LeO.refl _)
   | (with_reducible exact LeO.none _)
   | (with_reducible refine LeO.ite ?_ ?_)
   | (with_reducible refine LeO.bind ?_ (fun _ => ?_))
   | exact ih0 _ _ _ _ _ _ _ _
   | exact ih1 _ _ _ _ _ _ _ _ _
   | exact ih2 _ _ _ _ _ _ _ _ _ _ _ _
   | exact refcount_Counts_Add.mono _ _ _
   | exact refcount_Counts_Drop.mono _ _ _
   | exact refcount_Counts_Single.mono _ _ _
   | exact tegulalaw34_awake.mono _
   | exact LeO.none _
   | refine LeO.ite ?_ ?_
   | refine LeO.bind ?_ (fun _ => ?_)
  ·
   intro y0 y1 y2 y3 y4 y5 y6 y7 y8
   unfold tegulalaw34_RefcountLarge.j1
   repeat' first
   | (with_reducible exact ih0 _ _ _ _ _ _ _ _)
   | (with_reducible exact ih1 _ _ _ _ _ _ _ _ _)
   | (with_reducible exact ih2 _ _ _ _ _ _ _ _ _ _ _ _)
   | (with_reducible exact refcount_Counts_Add.mono _ _ _)
   | (with_reducible exact refcount_Counts_Drop.mono _ _ _)
   | (with_reducible exact refcount_Counts_Single.mono _ _ _)
   | (with_reducible exact tegulalaw34_awake.mono _)
   | (with_reducible exact LeO.refl _)
   | (with_reducible exact LeO.none _)
   | (with_reducible refine LeO.ite ?_ ?_)
   | (with_reducible refine LeO.bind ?_ (fun _ => ?_))
   | exact ih0 _ _ _ _ _ _ _ _
   | exact ih1 _ _ _ _ _ _ _ _ _
   | exact ih2 _ _ _ _ _ _ _ _ _ _ _ _
   | exact refcount_Counts_Add.mono _ _ _
   | exact refcount_Counts_Drop.mono _ _ _
   | exact refcount_Counts_Single.mono _ _ _
   | exact tegulalaw34_awake.mono _
   | exact LeO.none _
   | refine LeO.ite ?_ ?_
   | refine LeO.bind ?_ (fun _ => ?_)
  ·
   intro y0 y1 y2 y3 y4 y5 y6 y7 y8 y9 y10 y11
   unfold tegulalaw34_RefcountLarge.l0
   repeat' first
   | (with_reducible exact ih0 _ _ _ _ _ _ _ _)
   | (with_reducible exact ih1 _ _ _ _ _ _ _ _ _)
   | (with_reducible exact ih2 _ _ _ _ _ _ _ _ _ _ _ _)
   | (with_reducible exact refcount_Counts_Add.mono _ _ _)
   | (with_reducible exact refcount_Counts_Drop.mono _ _ _)
   | (with_reducible exact refcount_Counts_Single.mono _ _ _)
   | (with_reducible exact tegulalaw34_awake.mono _)
   | (with_reducible exact LeO.refl _)
   | (with_reducible exact LeO.none _)
   | (with_reducible refine LeO.ite ?_ ?_)
   | (with_reducible refine LeO.bind ?_ (fun _ => ?_))
   | exact ih0 _ _ _ _ _ _ _ _
   | exact ih1 _ _ _ _ _ _ _ _ _
   | exact ih2 _ _ _ _ _ _ _ _ _ _ _ _
   | exact refcount_Counts_Add.mono _ _ _
   | exact refcount_Counts_Drop.mono _ _ _
   | exact refcount_Counts_Single.mono _ _ _
   | exact tegulalaw34_awake.mono _
   | exact LeO.none _
   | refine LeO.ite ?_ ?_
   | refine LeO.bind ?_ (fun _ => ?_)
theorem tegulalaw34_RefcountLarge.mono : ∀ a0 a1 a2 a3 k, LeO (tegulalaw34_RefcountLarge.f k a0 a1 a2 a3) (tegulalaw34_RefcountLarge.f (k + 1) a0 a1 a2 a3) := by
 intro a0 a1 a2 a3 k
 obtain ⟨ih0, ih1, ih2⟩ := tegulalaw34_RefcountLarge.mono_l k
 unfold tegulalaw34_RefcountLarge.f
 repeat' first
   | (with_reducible exact ih0 _ _ _ _ _ _ _ _)
   | (with_reducible exact ih1 _ _ _ _ _ _ _ _ _)
   | (with_reducible exact ih2 _ _ _ _ _ _ _ _ _ _ _ _)
   | (with_reducible exact refcount_Counts_Add.mono _ _ _)
   | (with_reducible exact refcount_Counts_Drop.mono _ _ _)
   | (with_reducible exact refcount_Counts_Single.mono _ _ _)
   | (with_reducible exact tegulalaw34_awake.mono _)
   | (with_reducible exact LeO.refl _)
   | (with_reducible exact LeO.none _)
   | (with_reducible refine LeO.ite ?_ ?_)
   | (with_reducible refine LeO.bind ?_ (fun _ => ?_))
   | exact ih0 _ _ _ _ _ _ _ _
   | exact ih1 _ _ _ _ _ _ _ _ _
   | exact ih2 _ _ _ _ _ _ _ _ _ _ _ _
   | exact refcount_Counts_Add.mono _ _ _
   | exact refcount_Counts_Drop.mono _ _ _
   | exact refcount_Counts_Single.mono _ _ _
   | exact tegulalaw34_awake.mono _
   | exact LeO.none _
   | refine LeO.ite ?_ ?_
   | refine LeO.bind ?_ (fun _ => ?_)
def tegulalaw34_RefcountLarge.T4 : Bool × List (List Nat × List Nat) := (true, [([], []), ([0], [0]), ([1], [1]), ([], []), ([3], [3]), ([4], [4]), ([5], [5]), ([2, 6], [2, 6]), ([7], [7]), ([], []), ([9], [9]), ([10], [10]), ([8, 11], [8, 11]), ([], []), ([13, 12, 0, 1, 2, 3, 4, 5, 6, 7, 8, 9, 10, 11, 12, 13], [12, 13])])
def tegulalaw34_RefcountLarge.B4 : List Nat := [0, 1, 3, 0, 8, 24, 56, 127, 255, 0, 512, 1536, 4095, 0, 16383]
theorem tegulalaw34_RefcountLarge.tab4 : rtab .any (opsOf Try.f8 4) = tegulalaw34_RefcountLarge.T4 := by kernel_rfl
theorem tegulalaw34_RefcountLarge.bits4 : waitsOk tegulalaw34_RefcountLarge.T4.2 tegulalaw34_RefcountLarge.B4 = true := by kernel_rfl
def tegulalaw34_RefcountLarge.T5 : Bool × List (List Nat × List Nat) := (true, [([], []), ([0], [0]), ([1], [1]), ([], []), ([3], [3]), ([4], [4]), ([5], [5]), ([2, 6], [2, 6]), ([7], [7]), ([], []), ([9], [9]), ([10], [10]), ([8, 11], [8, 11]), ([], []), ([13, 12, 0, 1, 2, 3, 4, 5, 6, 7, 8, 9, 10, 11, 12, 13], [12, 13])])
def tegulalaw34_RefcountLarge.B5 : List Nat := [0, 1, 3, 0, 8, 24, 56, 127, 255, 0, 512, 1536, 4095, 0, 16383]
theorem tegulalaw34_RefcountLarge.tab5 : rtab .any (opsOf Try.f8 5) = tegulalaw34_RefcountLarge.T5 := by kernel_rfl
theorem tegulalaw34_RefcountLarge.bits5 : waitsOk tegulalaw34_RefcountLarge.T5.2 tegulalaw34_RefcountLarge.B5 = true := by kernel_rfl
def tegulalaw34_RefcountLarge.T10 : Bool × List (List Nat × List Nat) := (true, [([], []), ([0], [0]), ([], []), ([2], [2]), ([], []), ([4], [4]), ([3, 5], [3, 5]), ([1, 6], [1, 6]), ([7, 1], [7]), ([8], [8]), ([9, 8, 8], [8, 9]), ([8], [8]), ([11, 8], [8, 11]), ([8], [8]), ([13, 8], [8, 13]), ([12, 14, 8], [8, 12, 14]), ([8], [8]), ([15, 16, 8], [8, 15, 16]), ([10, 17, 8], [8, 10, 17]), ([8, 18], [8, 18]), ([19, 10], [19]), ([20], [20]), ([20], [20]), ([20], [20]), ([22, 23, 20], [20, 22, 23]), ([21, 24, 20, 20], [20, 21, 24]), ([20], [20]), ([26, 20], [20, 26]), ([20], [20]), ([28, 20], [20, 28]), ([27, 29, 20], [20, 27, 29]), ([20], [20]), ([31, 20], [20, 31]), ([30, 32, 20], [20, 30, 32]), ([25, 33, 20], [20, 25, 33]), ([20, 34], [20, 34])])
def tegulalaw34_RefcountLarge.B10 : List Nat := [0, 1, 0, 4, 0, 16, 60, 127, 255, 511, 1023, 511, 2559, 511, 8703, 31231, 511, 129535, 262143, 524287, 1048575, 2097151, 2097151, 2097151, 14680063, 33554431, 2097151, 69206015, 2097151, 270532607, 1008730111, 2097151, 2149580799, 8524922879, 17179869183, 34359738367]
theorem tegulalaw34_RefcountLarge.tab10 : rtab .any (opsOf Try.f8 10) = tegulalaw34_RefcountLarge.T10 := by kernel_rfl
theorem tegulalaw34_RefcountLarge.bits10 : waitsOk tegulalaw34_RefcountLarge.T10.2 tegulalaw34_RefcountLarge.B10 = true := by kernel_rfl
def tegulalaw34_RefcountLarge.T18 : Bool × List (List Nat × List Nat) := (true, [([], []), ([0], [0]), ([1], [1]), ([2], [2]), ([2], [2]), ([4, 2], [2, 4]), ([2], [2]), ([5, 6, 2], [2, 5, 6]), ([3, 7, 2], [2, 3, 7]), ([2, 8], [2, 8]), ([9, 2], [9]), ([10], [10]), ([11, 10, 10], [10, 11]), ([10], [10]), ([13, 10], [10, 13]), ([12, 14, 10], [10, 12, 14]), ([10, 15], [10, 15]), ([16, 12], [16]), ([17], [17]), ([17], [17]), ([19, 17], [17, 19]), ([18, 20, 17, 17], [17, 18, 20]), ([21, 17], [17, 21]), ([17, 22], [17, 22]), ([23, 21, 0, 1, 2, 3, 4, 5, 6, 7, 8, 9, 10, 11, 12, 13, 14, 15, 16, 17, 18, 19, 20, 21, 22, 23], [23])])
def tegulalaw34_RefcountLarge.B18 : List Nat := [0, 1, 3, 7, 7, 23, 7, 119, 255, 511, 1023, 2047, 4095, 2047, 10239, 32767, 65535, 131071, 262143, 262143, 786431, 2097151, 4194303, 8388607, 16777215]
theorem tegulalaw34_RefcountLarge.tab18 : rtab .any (opsOf Try.f8 18) = tegulalaw34_RefcountLarge.T18 := by kernel_rfl
theorem tegulalaw34_RefcountLarge.bits18 : waitsOk tegulalaw34_RefcountLarge.T18.2 tegulalaw34_RefcountLarge.B18 = true := by kernel_rfl
set_option maxHeartbeats 8000000 in
set_option maxRecDepth 100000 in
theorem tegulalaw34_RefcountLarge.calls (k : Nat) (a0_0 : Int) (a0_1 : Int) (a1_0 : Int) (a1_1 : Int) (r : Bool) (w : World) (h : tegulalaw34_RefcountLarge.f k a0_0 a0_1 a1_0 a1_1 = some r) :
  Calls Try.prog 8 #[.agg #[.int .u16 a0_0, .int .u16 a0_1], .agg #[.int .u16 a1_0, .int .u16 a1_1]] w fun e w' => e = .returned (.bool r) ∧ Below w.heap.size w w' := by
 have hu52 := Try.underlying52
 have hu27 := Try.underlying27
 have hu41 := Try.underlying41
 have HB := Aside0.mk (Below.refl w.heap.size w)
 have H : ((tegulalaw34_awake.f k).bind fun t224 => (if t224 = true then ((refcount_New.f 65536).bind fun bt225 => (if (wrap64 (65536 - (wrap64 (a0_0)))) = 0 then (none) else (if (wrap64 (65536 - (wrap64 (a1_0)))) = 0 then (none) else ((refcount_Counts_Add.f k bt225.1 (([(⟨0, wrap64 (1 + (Int.tmod (wrap64 (a0_1)) (wrap64 (65536 - (wrap64 (a0_0)))))), wrap64 (a0_0)⟩ : S41), (⟨0, wrap64 (1 + (Int.tmod (wrap64 (a1_1)) (wrap64 (65536 - (wrap64 (a1_0)))))), wrap64 (a1_0)⟩ : S41)] : List (S41)))).bind fun bt235 => (if bt225.2 = 0 then (tegulalaw34_RefcountLarge.j0 k (bt235.2 != 0) bt235.1 0 (wrap64 (1 + (Int.tmod (wrap64 (a0_1)) (wrap64 (65536 - (wrap64 (a0_0))))))) (wrap64 (a0_0)) 0 (wrap64 (1 + (Int.tmod (wrap64 (a1_1)) (wrap64 (65536 - (wrap64 (a1_0))))))) (wrap64 (a1_0))) else (tegulalaw34_RefcountLarge.j0 k true bt235.1 0 (wrap64 (1 + (Int.tmod (wrap64 (a0_1)) (wrap64 (65536 - (wrap64 (a0_0))))))) (wrap64 (a0_0)) 0 (wrap64 (1 + (Int.tmod (wrap64 (a1_1)) (wrap64 (65536 - (wrap64 (a1_0))))))) (wrap64 (a1_0)))))))) else (some false))) = some r := h
 clear h
 replace H := Option.bind_eq_some_iff.mp H
 obtain ⟨t224, A30, H⟩ := H
 replace H : (if t224 = true then ((refcount_New.f 65536).bind fun bt225 => (if (wrap64 (65536 - (wrap64 (a0_0)))) = 0 then (none) else (if (wrap64 (65536 - (wrap64 (a1_0)))) = 0 then (none) else ((refcount_Counts_Add.f k bt225.1 (([(⟨0, wrap64 (1 + (Int.tmod (wrap64 (a0_1)) (wrap64 (65536 - (wrap64 (a0_0)))))), wrap64 (a0_0)⟩ : S41), (⟨0, wrap64 (1 + (Int.tmod (wrap64 (a1_1)) (wrap64 (65536 - (wrap64 (a1_0)))))), wrap64 (a1_0)⟩ : S41)] : List (S41)))).bind fun bt235 => (if bt225.2 = 0 then (tegulalaw34_RefcountLarge.j0 k (bt235.2 != 0) bt235.1 0 (wrap64 (1 + (Int.tmod (wrap64 (a0_1)) (wrap64 (65536 - (wrap64 (a0_0))))))) (wrap64 (a0_0)) 0 (wrap64 (1 + (Int.tmod (wrap64 (a1_1)) (wrap64 (65536 - (wrap64 (a1_0))))))) (wrap64 (a1_0))) else (tegulalaw34_RefcountLarge.j0 k true bt235.1 0 (wrap64 (1 + (Int.tmod (wrap64 (a0_1)) (wrap64 (65536 - (wrap64 (a0_0))))))) (wrap64 (a0_0)) 0 (wrap64 (1 + (Int.tmod (wrap64 (a1_1)) (wrap64 (65536 - (wrap64 (a1_0))))))) (wrap64 (a1_0)))))))) else (some false)) = some r := H
 have A3 := Aside0.mk A30
 clear A30
 by_cases c4 : t224 = true
 ·
  subst c4
  have H1 : ((refcount_New.f 65536).bind fun bt225 => (if (wrap64 (65536 - (wrap64 (a0_0)))) = 0 then (none) else (if (wrap64 (65536 - (wrap64 (a1_0)))) = 0 then (none) else ((refcount_Counts_Add.f k bt225.1 (([(⟨0, wrap64 (1 + (Int.tmod (wrap64 (a0_1)) (wrap64 (65536 - (wrap64 (a0_0)))))), wrap64 (a0_0)⟩ : S41), (⟨0, wrap64 (1 + (Int.tmod (wrap64 (a1_1)) (wrap64 (65536 - (wrap64 (a1_0)))))), wrap64 (a1_0)⟩ : S41)] : List (S41)))).bind fun bt235 => (if bt225.2 = 0 then (tegulalaw34_RefcountLarge.j0 k (bt235.2 != 0) bt235.1 0 (wrap64 (1 + (Int.tmod (wrap64 (a0_1)) (wrap64 (65536 - (wrap64 (a0_0))))))) (wrap64 (a0_0)) 0 (wrap64 (1 + (Int.tmod (wrap64 (a1_1)) (wrap64 (65536 - (wrap64 (a1_0))))))) (wrap64 (a1_0))) else (tegulalaw34_RefcountLarge.j0 k true bt235.1 0 (wrap64 (1 + (Int.tmod (wrap64 (a0_1)) (wrap64 (65536 - (wrap64 (a0_0))))))) (wrap64 (a0_0)) 0 (wrap64 (1 + (Int.tmod (wrap64 (a1_1)) (wrap64 (65536 - (wrap64 (a1_0))))))) (wrap64 (a1_0)))))))) = some r := by rw [if_pos rfl] at H; exact H
  clear H
  have H := H1
  clear H1
  replace H := Option.bind_eq_some_iff.mp H
  obtain ⟨⟨t225, t228⟩, A50, H⟩ := H
  replace H : (if (wrap64 (65536 - (wrap64 (a0_0)))) = 0 then (none) else (if (wrap64 (65536 - (wrap64 (a1_0)))) = 0 then (none) else ((refcount_Counts_Add.f k t225 (([(⟨0, wrap64 (1 + (Int.tmod (wrap64 (a0_1)) (wrap64 (65536 - (wrap64 (a0_0)))))), wrap64 (a0_0)⟩ : S41), (⟨0, wrap64 (1 + (Int.tmod (wrap64 (a1_1)) (wrap64 (65536 - (wrap64 (a1_0)))))), wrap64 (a1_0)⟩ : S41)] : List (S41)))).bind fun bt235 => (if t228 = 0 then (tegulalaw34_RefcountLarge.j0 k (bt235.2 != 0) bt235.1 0 (wrap64 (1 + (Int.tmod (wrap64 (a0_1)) (wrap64 (65536 - (wrap64 (a0_0))))))) (wrap64 (a0_0)) 0 (wrap64 (1 + (Int.tmod (wrap64 (a1_1)) (wrap64 (65536 - (wrap64 (a1_0))))))) (wrap64 (a1_0))) else (tegulalaw34_RefcountLarge.j0 k true bt235.1 0 (wrap64 (1 + (Int.tmod (wrap64 (a0_1)) (wrap64 (65536 - (wrap64 (a0_0))))))) (wrap64 (a0_0)) 0 (wrap64 (1 + (Int.tmod (wrap64 (a1_1)) (wrap64 (65536 - (wrap64 (a1_0))))))) (wrap64 (a1_0))))))) = some r := H
  have A5 := Aside0.mk A50
  clear A50
  by_cases c6 : (wrap64 (65536 - (wrap64 (a0_0)))) = 0
  ·
   rw [if_pos c6] at H
   exact absurd H (by simp)
  ·
   rw [if_neg c6] at H
   have c6b0 : ((wrap64 (65536 - (wrap64 (a0_0)))) == 0) = false := beq_eq_false_iff_ne.mpr c6
   have c6b1 : ((wrap64 (65536 - (wrap64 (a0_0)))) != 0) = true := bne_iff_ne.mpr c6
   by_cases c7 : (wrap64 (65536 - (wrap64 (a1_0)))) = 0
   ·
    rw [if_pos c7] at H
    exact absurd H (by simp)
   ·
    rw [if_neg c7] at H
    have c7b0 : ((wrap64 (65536 - (wrap64 (a1_0)))) == 0) = false := beq_eq_false_iff_ne.mpr c7
    have c7b1 : ((wrap64 (65536 - (wrap64 (a1_0)))) != 0) = true := bne_iff_ne.mpr c7
    obtain ⟨y232, hy232⟩ : ∃ y_ : List (S41), y_ = (([(⟨0, wrap64 (1 + (Int.tmod (wrap64 (a0_1)) (wrap64 (65536 - (wrap64 (a0_0)))))), wrap64 (a0_0)⟩ : S41), (⟨0, wrap64 (1 + (Int.tmod (wrap64 (a1_1)) (wrap64 (65536 - (wrap64 (a1_0)))))), wrap64 (a1_0)⟩ : S41)] : List (S41))) := ⟨_, rfl⟩
    replace H : ((refcount_Counts_Add.f k t225 y232).bind fun bt235 => (if t228 = 0 then (tegulalaw34_RefcountLarge.j0 k (bt235.2 != 0) bt235.1 0 (wrap64 (1 + (Int.tmod (wrap64 (a0_1)) (wrap64 (65536 - (wrap64 (a0_0))))))) (wrap64 (a0_0)) 0 (wrap64 (1 + (Int.tmod (wrap64 (a1_1)) (wrap64 (65536 - (wrap64 (a1_0))))))) (wrap64 (a1_0))) else (tegulalaw34_RefcountLarge.j0 k true bt235.1 0 (wrap64 (1 + (Int.tmod (wrap64 (a0_1)) (wrap64 (65536 - (wrap64 (a0_0))))))) (wrap64 (a0_0)) 0 (wrap64 (1 + (Int.tmod (wrap64 (a1_1)) (wrap64 (65536 - (wrap64 (a1_0))))))) (wrap64 (a1_0))))) = some r := by first | (rw [hy232]; exact H) | exact H
    have Ny232 := Aside0.mk hy232
    clear hy232
    replace H := Option.bind_eq_some_iff.mp H
    obtain ⟨⟨t235, t238⟩, A80, H⟩ := H
    replace H : (if t228 = 0 then (tegulalaw34_RefcountLarge.j0 k (t238 != 0) t235 0 (wrap64 (1 + (Int.tmod (wrap64 (a0_1)) (wrap64 (65536 - (wrap64 (a0_0))))))) (wrap64 (a0_0)) 0 (wrap64 (1 + (Int.tmod (wrap64 (a1_1)) (wrap64 (65536 - (wrap64 (a1_0))))))) (wrap64 (a1_0))) else (tegulalaw34_RefcountLarge.j0 k true t235 0 (wrap64 (1 + (Int.tmod (wrap64 (a0_1)) (wrap64 (65536 - (wrap64 (a0_0))))))) (wrap64 (a0_0)) 0 (wrap64 (1 + (Int.tmod (wrap64 (a1_1)) (wrap64 (65536 - (wrap64 (a1_0))))))) (wrap64 (a1_0)))) = some r := H
    have A8 := Aside0.mk A80
    clear A80
    have HC9 := Aside0.mk H
    clear H
    go_enter Try.func8, Try.ntmps8
    try go_wp2_with (first | ((with_reducible refine gate_dst (N := 2) rfl ?_); (try (refine gate_guard (by rfl) ?_; dsimp only)); refine box_event ?hg (N := 2) ?hd (cs := #[.int .u16 a0_0, .int .u16 a0_1]) (t := 52) ?hr ?_; (case hd => rfl); (case hg => rfl); (case hr => first | (go_simp; done) | (go_simp; rfl)); intro gb222 hg w10 hbox hb; have BK222 := Aside0.mk (hbox); have GW222 := Aside0.mk ((by rw [hg]; exact (below_size (bU HB.out)) : w.heap.size ≤ gb222)); have GE222 := Aside0.mk ((by rw [hg]; exact (below_size (bU HB.out)) : w.heap.size ≤ gb222)); replace HB := Aside0.mk (below_step (bU HB.out) hb); clear hb hbox hg) | ((with_reducible refine gate_dst (N := 3) rfl ?_); (try (refine gate_guard (by rfl) ?_; dsimp only)); refine box_event ?hg (N := 3) ?hd (cs := #[.int .u16 a1_0, .int .u16 a1_1]) (t := 52) ?hr ?_; (case hd => rfl); (case hg => rfl); (case hr => first | (go_simp; done) | (go_simp; rfl)); intro gb223 hg w11 hbox hb; have BK223 := Aside0.mk (hbox); have GW223 := Aside0.mk ((by rw [hg]; exact (below_size (by repeat (first | (with_reducible first | exact HB.out | apply below_alloc | apply pw_below_drewN | apply below_drew1 | refine below_set ?_ GE222.out) | exact HB.out))) : w.heap.size ≤ gb223)); have GE223 := Aside0.mk ((by rw [hg]; exact (below_size (by repeat (first | (with_reducible first | exact HB.out | apply below_alloc | apply pw_below_drewN | apply below_drew1 | refine below_set ?_ GE222.out) | exact HB.out))) : w.heap.size ≤ gb223)); replace HB := Aside0.mk (below_step (by repeat (first | (with_reducible first | exact HB.out | apply below_alloc | apply pw_below_drewN | apply below_drew1 | refine below_set ?_ GE222.out) | exact HB.out)) hb); have NB222_223 := Aside0.mk ((by rw [hg]; exact Nat.ne_of_lt (blk_lt (g := gb222) (o := .cells #[.int .u16 a0_0, .int .u16 a0_1] 52 (0, 0)) (kU BK222.out)) : gb222 ≠ gb223)); have NB223_222 := Aside0.mk ((by rw [hg]; exact Nat.ne_of_gt (blk_lt (g := gb222) (o := .cells #[.int .u16 a0_0, .int .u16 a0_1] 52 (0, 0)) (kU BK222.out)) : gb223 ≠ gb222)); replace BK222 := Aside0.mk (blk_below (g := gb222) (o := .cells #[.int .u16 a0_0, .int .u16 a0_1] 52 (0, 0)) (kU BK222.out) hb); clear hb hbox hg) | ((with_reducible refine gate_callee (f := 9) rfl ?_); refine goesL_ (some 16) rfl rfl Try.func9 (by kernel_rfl) rfl #[] rfl (by (try simp only [List.map_toArray, List.map_cons, List.map_nil]); first | done | rfl | (simp only [List.length_drop, List.length_take]; rfl)) ?_; (with_reducible refine (tegulalaw34_awake.calls k  true _ A3.out).mono ?_); rintro e w12 ⟨rfl, hb⟩; refine ⟨_, rfl, ?_⟩; replace BK222 := Aside0.mk (blk_below (g := gb222) (o := .cells #[.int .u16 a0_0, .int .u16 a0_1] 52 (0, 0)) (kU BK222.out) hb); replace BK223 := Aside0.mk (blk_below (g := gb223) (o := .cells #[.int .u16 a1_0, .int .u16 a1_1] 52 (0, 0)) (kU BK223.out) hb); replace HB := Aside0.mk (below_step (by repeat (first | (with_reducible first | exact HB.out | apply below_alloc | apply pw_below_drewN | apply below_drew1 | refine below_set ?_ GE222.out | refine below_set ?_ GE223.out) | exact HB.out)) hb); (try clear hb)) | ((with_reducible refine gate_callee (f := 22) rfl ?_); refine goesL_ (some 19) rfl rfl Try.func22 (by kernel_rfl) rfl #[.int .i64 65536] rfl (by (try simp only [List.map_toArray, List.map_cons, List.map_nil]); first | done | rfl | (simp only [List.length_drop, List.length_take]; rfl)) ?_; (with_reducible refine (refcount_New.calls 65536 t225 t228 _ A5.out).mono ?_); rintro e w13 ⟨v226, rfl, ho0, hb⟩; refine ⟨_, rfl, ?_⟩; have HO227 := Aside0.mk (Kd.R_lower ho0 (below_size (by repeat (first | (with_reducible first | exact HB.out | apply below_alloc | apply pw_below_drewN | apply below_drew1 | refine below_set ?_ GE222.out | refine below_set ?_ GE223.out) | exact HB.out)))); replace BK222 := Aside0.mk (blk_below (g := gb222) (o := .cells #[.int .u16 a0_0, .int .u16 a0_1] 52 (0, 0)) (kU BK222.out) hb); replace BK223 := Aside0.mk (blk_below (g := gb223) (o := .cells #[.int .u16 a1_0, .int .u16 a1_1] 52 (0, 0)) (kU BK223.out) hb); replace HB := Aside0.mk (below_step (by repeat (first | (with_reducible first | exact HB.out | apply below_alloc | apply pw_below_drewN | apply below_drew1 | refine below_set ?_ GE222.out | refine below_set ?_ GE223.out) | exact HB.out)) hb); (try clear hb); (try clear ho0)) | ((with_reducible refine gate_dst (N := 5) rfl ?_); (try (refine gate_guard (by rfl) ?_; dsimp only)); refine box_event ?hg (N := 5) ?hd (cs := #[.slice none 0 0]) (t := 27) ?hr ?_; (case hd => rfl); (case hg => rfl); (case hr => first | (go_simp; done) | (go_simp; rfl)); intro gb229 hg w14 hbox hb; replace HO227 := Aside0.mk (Kd.R_below (rU HO227.out) hb); have BK229 := Aside0.mk (hbox); have GW229 := Aside0.mk ((by rw [hg]; exact (below_size (by repeat (first | (with_reducible first | exact HB.out | apply below_alloc | apply pw_below_drewN | apply below_drew1 | refine below_set ?_ GE222.out | refine below_set ?_ GE223.out) | exact HB.out))) : w.heap.size ≤ gb229)); have GE229 := Aside0.mk ((by rw [hg]; exact (below_size (by repeat (first | (with_reducible first | exact HB.out | apply below_alloc | apply pw_below_drewN | apply below_drew1 | refine below_set ?_ GE222.out | refine below_set ?_ GE223.out) | exact HB.out))) : w.heap.size ≤ gb229)); replace HB := Aside0.mk (below_step (by repeat (first | (with_reducible first | exact HB.out | apply below_alloc | apply pw_below_drewN | apply below_drew1 | refine below_set ?_ GE222.out | refine below_set ?_ GE223.out) | exact HB.out)) hb); have NB222_229 := Aside0.mk ((by rw [hg]; exact Nat.ne_of_lt (blk_lt (g := gb222) (o := .cells #[.int .u16 a0_0, .int .u16 a0_1] 52 (0, 0)) (kU BK222.out)) : gb222 ≠ gb229)); have NB229_222 := Aside0.mk ((by rw [hg]; exact Nat.ne_of_gt (blk_lt (g := gb222) (o := .cells #[.int .u16 a0_0, .int .u16 a0_1] 52 (0, 0)) (kU BK222.out)) : gb229 ≠ gb222)); replace BK222 := Aside0.mk (blk_below (g := gb222) (o := .cells #[.int .u16 a0_0, .int .u16 a0_1] 52 (0, 0)) (kU BK222.out) hb); have NB223_229 := Aside0.mk ((by rw [hg]; exact Nat.ne_of_lt (blk_lt (g := gb223) (o := .cells #[.int .u16 a1_0, .int .u16 a1_1] 52 (0, 0)) (kU BK223.out)) : gb223 ≠ gb229)); have NB229_223 := Aside0.mk ((by rw [hg]; exact Nat.ne_of_gt (blk_lt (g := gb223) (o := .cells #[.int .u16 a1_0, .int .u16 a1_1] 52 (0, 0)) (kU BK223.out)) : gb229 ≠ gb223)); replace BK223 := Aside0.mk (blk_below (g := gb223) (o := .cells #[.int .u16 a1_0, .int .u16 a1_1] 52 (0, 0)) (kU BK223.out) hb); clear hb hbox hg; obtain ⟨Ao15, co15, eo15⟩ := Kd.R_slice HO227.out; subst eo15; have hnb16 := NB229_222.out; have hnc16 := NB222_229.out; have hnb17 := NB229_223.out; have hnc17 := NB223_229.out; have hcz18_0 : w14.cell? ⟨gb229, 0, none⟩ = some (.slice none 0 0) := (blk_cell BK229.out 0).trans rfl; have hfz18_0 := blk_frozen BK229.out 0))
    have n0_ : Aside0 (Kd.R (Kd.int .i64) 3 (w14.setCell ⟨gb229, 0, none⟩ (.slice Ao15 t225.length co15)) w.heap.size (fun _ => True) (.slice Ao15 t225.length co15) t225) := ⟨by (with_reducible repeat (first | apply Kd.R_alloc | apply Kd.R_drewN | apply Kd.R_drew)); exact Kd.R_mono (Kd.R_far (p := ⟨gb229, 0, none⟩) (Kd.R_types HO227.out BK229.out (by decide)) (fun _ hk => hk.2) (.slice Ao15 t225.length co15)) (fun _ hk => trivial)⟩
    have n1_ : Aside0 ((w14.setCell ⟨gb229, 0, none⟩ (.slice Ao15 t225.length co15)).heap[gb222]? = some (.cells #[.int .u16 a0_0, .int .u16 a0_1] 52 (0, 0))) := ⟨by (with_reducible repeat (first | refine blk_drewN ?_ _ | refine blk_drew ?_ | refine blk_alloc ?_ _)); refine blk_far ?_ NB222_229.out _; (with_reducible repeat (first | refine blk_drewN ?_ _ | refine blk_drew ?_ | refine blk_alloc ?_ _)); exact BK222.out⟩
    have n2_ : Aside0 ((w14.setCell ⟨gb229, 0, none⟩ (.slice Ao15 t225.length co15)).heap[gb223]? = some (.cells #[.int .u16 a1_0, .int .u16 a1_1] 52 (0, 0))) := ⟨by (with_reducible repeat (first | refine blk_drewN ?_ _ | refine blk_drew ?_ | refine blk_alloc ?_ _)); refine blk_far ?_ NB223_229.out _; (with_reducible repeat (first | refine blk_drewN ?_ _ | refine blk_drew ?_ | refine blk_alloc ?_ _)); exact BK223.out⟩
    have n3_ : Aside0 ((w14.setCell ⟨gb229, 0, none⟩ (.slice Ao15 t225.length co15)).heap[gb229]? = some (.cells #[.slice Ao15 t225.length co15] 27 (0, 0))) := ⟨by (with_reducible repeat (first | refine blk_drewN ?_ _ | refine blk_drew ?_ | refine blk_alloc ?_ _)); refine blk_put (cs := #[.slice none 0 0]) ?_ 0 _ rfl; (with_reducible repeat (first | refine blk_drewN ?_ _ | refine blk_drew ?_ | refine blk_alloc ?_ _)); exact BK229.out⟩
    have n4_ : Aside0 (Below w.heap.size w (w14.setCell ⟨gb229, 0, none⟩ (.slice Ao15 t225.length co15))) := ⟨by repeat (first | (with_reducible first | exact HB.out | apply below_alloc | apply pw_below_drewN | apply below_drew1 | refine below_set ?_ GE222.out | refine below_set ?_ GE223.out | refine below_set ?_ GE229.out) | exact HB.out)⟩
    (try clear HO227)
    (try clear BK222)
    (try clear BK223)
    (try clear BK229)
    (try clear HB)
    generalize (w14.setCell ⟨gb229, 0, none⟩ (.slice Ao15 t225.length co15)) = w19 at n0_ n1_ n2_ n3_ n4_ ⊢
    have HO227 := n0_
    have BK222 := n1_
    have BK223 := n2_
    have BK229 := n3_
    have HB := n4_
    clear n0_ n1_ n2_ n3_ n4_
    have n0_ := Aside0.mk (Kd.R_drew HO227.out)
    have n1_ := Aside0.mk (blk_drew BK222.out)
    have n2_ := Aside0.mk (blk_drew BK223.out)
    have n3_ := Aside0.mk (blk_drew BK229.out)
    have n4_ := Aside0.mk (below_drew1 HB.out)
    clear HO227
    clear BK222
    clear BK223
    clear BK229
    clear HB
    have HO227 := n0_
    have BK222 := n1_
    have BK223 := n2_
    have BK229 := n3_
    have HB := n4_
    clear n0_ n1_ n2_ n3_ n4_
    refine start_ (n := 15) (S := fun w' => w'.cell? ⟨gb222, 0, none⟩ = some (.int .u16 a0_0) ∧ w'.cell? ⟨gb222, 1, none⟩ = some (.int .u16 a0_1)) (ds := []) #[false, false, false, false, false, false, false, false, false, false, false, false, false, false, false] (by kernel_rfl) rfl rfl ⟨(blk_cell BK222.out 0).trans rfl, (blk_cell BK222.out 1).trans rfl⟩ (fun hHeld => ?_); refine with_tabW tegulalaw34_RefcountLarge.tab4 tegulalaw34_RefcountLarge.bits4 (fun HT_ HW_ => ?_)
    generalize w19.drew = w20 at HO227 BK222 BK223 BK229 HB hHeld ⊢
    refine pure_ (i := 0) (N := some 22) (v := ?_) (a' := ?_) #[true, false, false, false, false, false, false, false, false, false, false, false, false, false, false] rfl rfl (any_of HT_.out (by kernel_rfl)) (fun _ _ _ h => h) (Or.inl ⟨by rfl, ?_⟩) ?_ ?_
    rotate_left
    ·
     intro w'; go_simp; with_reducible rfl
    rotate_left
    ·
     simp only [AP]; rfl
    refine pure_ (i := 3) (N := some 25) (v := ?_) (a' := ?_) #[true, false, false, true, false, false, false, false, false, false, false, false, false, false, false] rfl rfl (any_of HT_.out (by kernel_rfl)) (fun _ _ _ h => h) (Or.inl ⟨by rfl, ?_⟩) ?_ ?_
    rotate_left
    ·
     intro w'; go_simp; with_reducible rfl
    rotate_left
    ·
     simp only [AP]; rfl
    refine pure_ (i := 9) (N := some 31) (v := ?_) (a' := ?_) #[true, false, false, true, false, false, false, false, false, true, false, false, false, false, false] rfl rfl (any_of HT_.out (by kernel_rfl)) (fun _ _ _ h => h) (Or.inl ⟨by rfl, ?_⟩) ?_ ?_
    rotate_left
    ·
     intro w'; go_simp; with_reducible rfl
    rotate_left
    ·
     simp only [AP]; rfl
    refine take_ (i := 1) (N := some 23) (v := ?_) (a' := ?_) #[true, true, false, true, false, false, false, false, false, true, false, false, false, false, false] rfl rfl (take_ofW HT_.out HW_.out (by kernel_rfl)) (fun _ _ _ h => h) (Or.inl ⟨by rfl, ?_⟩) hHeld ?_ ?_
    rotate_left
    ·
     rintro w' ⟨s0, s1⟩
     go_simp; with_reducible rfl
    rotate_left
    ·
     simp only [AP]; rfl
    refine pure_ (i := 2) (N := some 24) (v := ?_) (a' := ?_) #[true, true, true, true, false, false, false, false, false, true, false, false, false, false, false] rfl rfl (any_of HT_.out (by kernel_rfl)) (fun _ _ _ h => h) (Or.inl ⟨by rfl, ?_⟩) ?_ ?_
    rotate_left
    ·
     intro w'; go_simp; with_reducible rfl
    rotate_left
    ·
     simp only [AP]; rfl
    refine take_ (i := 4) (N := some 26) (v := ?_) (a' := ?_) #[true, true, true, true, true, false, false, false, false, true, false, false, false, false, false] rfl rfl (take_ofW HT_.out HW_.out (by kernel_rfl)) (fun _ _ _ h => h) (Or.inl ⟨by rfl, ?_⟩) hHeld ?_ ?_
    rotate_left
    ·
     rintro w' ⟨s0, s1⟩
     go_simp; with_reducible rfl
    rotate_left
    ·
     simp only [AP]; rfl
    refine pure_ (i := 5) (N := some 27) (v := ?_) (a' := ?_) #[true, true, true, true, true, true, false, false, false, true, false, false, false, false, false] rfl rfl (any_of HT_.out (by kernel_rfl)) (fun _ _ _ h => h) (Or.inl ⟨by rfl, ?_⟩) ?_ ?_
    rotate_left
    ·
     intro w'; go_simp; with_reducible rfl
    rotate_left
    ·
     simp only [AP]; rfl
    refine pure_ (i := 6) (N := some 28) (v := ?_) (a' := ?_) #[true, true, true, true, true, true, true, false, false, true, false, false, false, false, false] rfl rfl (any_of HT_.out (by kernel_rfl)) (fun _ _ _ h => h) (Or.inl ⟨by rfl, ?_⟩) ?_ ?_
    rotate_left
    ·
     intro w'; go_simp; with_reducible rfl
    rotate_left
    ·
     simp only [AP]; rfl
    refine pure_ (i := 7) (N := some 29) (v := ?_) (a' := ?_) #[true, true, true, true, true, true, true, true, false, true, false, false, false, false, false] rfl rfl (any_of HT_.out (by kernel_rfl)) (fun _ _ _ h => h) (Or.inl ⟨by rfl, ?_⟩) ?_ ?_
    rotate_left
    ·
     intro w'; go_simp; with_reducible rfl
    rotate_left
    ·
     simp only [AP]; rfl
    refine pure_ (i := 8) (N := some 30) (v := ?_) (a' := ?_) #[true, true, true, true, true, true, true, true, true, true, false, false, false, false, false] rfl rfl (any_of HT_.out (by kernel_rfl)) (fun _ _ _ h => h) (Or.inl ⟨by rfl, ?_⟩) ?_ ?_
    rotate_left
    ·
     intro w'; go_simp; with_reducible rfl
    rotate_left
    ·
     simp only [AP]; rfl
    refine take_ (i := 10) (N := some 32) (v := ?_) (a' := ?_) #[true, true, true, true, true, true, true, true, true, true, true, false, false, false, false] rfl rfl (take_ofW HT_.out HW_.out (by kernel_rfl)) (fun _ _ _ h => h) (Or.inl ⟨by rfl, ?_⟩) hHeld ?_ ?_
    rotate_left
    ·
     rintro w' ⟨s0, s1⟩
     go_simp; with_reducible rfl
    rotate_left
    ·
     simp only [AP]; rfl
    refine pure_ (i := 11) (N := some 33) (v := ?_) (a' := ?_) #[true, true, true, true, true, true, true, true, true, true, true, true, false, false, false] rfl rfl (any_of HT_.out (by kernel_rfl)) (fun _ _ _ h => h) (Or.inl ⟨by rfl, ?_⟩) ?_ ?_
    rotate_left
    ·
     intro w'; go_simp; with_reducible rfl
    rotate_left
    ·
     simp only [AP]; rfl
    refine pure_ (i := 12) (N := some 34) (v := ?_) (a' := ?_) #[true, true, true, true, true, true, true, true, true, true, true, true, true, false, false] rfl rfl (any_of HT_.out (by kernel_rfl)) (fun _ _ _ h => h) (Or.inl ⟨by rfl, ?_⟩) ?_ ?_
    rotate_left
    ·
     intro w'; go_simp; with_reducible rfl
    rotate_left
    ·
     simp only [AP]; rfl
    refine one_ (i := 13) (N := some 7) #[true, true, true, true, true, true, true, true, true, true, true, true, true, true, false] rfl rfl (one_of HT_.out (by kernel_rfl)) (by decide) (fun K hK => ?_)
    refine box_step ?hg (N := 7) ?hd (cs := #[.int .i64 0, .int .i64 0, .int .i64 0]) (t := 41) ?hr ?_; (case hd => rfl); (case hg => rfl); (case hr => first | (go_simp; done) | (go_simp; rfl))
    intro gb230 hg w21 hbox hb
    have n0_ := Aside0.mk (Kd.R_below (rU HO227.out) hb)
    have n1_ := Aside0.mk (blk_below (g := gb222) (o := .cells #[.int .u16 a0_0, .int .u16 a0_1] 52 (0, 0)) (kU BK222.out) hb)
    have n2_ := Aside0.mk (blk_below (g := gb223) (o := .cells #[.int .u16 a1_0, .int .u16 a1_1] 52 (0, 0)) (kU BK223.out) hb)
    have n3_ := Aside0.mk (blk_below (g := gb229) (o := .cells #[.slice Ao15 t225.length co15] 27 (0, 0)) (kU BK229.out) hb)
    have n4_ := Aside0.mk (below_step (by repeat (first | (with_reducible first | exact HB.out | apply below_alloc | apply pw_below_drewN | apply below_drew1 | refine below_set ?_ GE222.out | refine below_set ?_ GE223.out | refine below_set ?_ GE229.out) | exact HB.out)) hb)
    have n5_ := Aside0.mk (hbox)
    have n6_ := Aside0.mk ((by rw [hg]; exact (below_size (by repeat (first | (with_reducible first | exact HB.out | apply below_alloc | apply pw_below_drewN | apply below_drew1 | refine below_set ?_ GE222.out | refine below_set ?_ GE223.out | refine below_set ?_ GE229.out) | exact HB.out))) : w.heap.size ≤ gb230))
    have n7_ := Aside0.mk ((by rw [hg]; exact (below_size (by repeat (first | (with_reducible first | exact HB.out | apply below_alloc | apply pw_below_drewN | apply below_drew1 | refine below_set ?_ GE222.out | refine below_set ?_ GE223.out | refine below_set ?_ GE229.out) | exact HB.out))) : w.heap.size ≤ gb230))
    have n8_ := Aside0.mk ((by rw [hg]; exact Nat.ne_of_lt (blk_lt (g := gb222) (o := .cells #[.int .u16 a0_0, .int .u16 a0_1] 52 (0, 0)) (kU BK222.out)) : gb222 ≠ gb230))
    have n9_ := Aside0.mk ((by rw [hg]; exact Nat.ne_of_gt (blk_lt (g := gb222) (o := .cells #[.int .u16 a0_0, .int .u16 a0_1] 52 (0, 0)) (kU BK222.out)) : gb230 ≠ gb222))
    have n10_ := Aside0.mk ((by rw [hg]; exact Nat.ne_of_lt (blk_lt (g := gb223) (o := .cells #[.int .u16 a1_0, .int .u16 a1_1] 52 (0, 0)) (kU BK223.out)) : gb223 ≠ gb230))
    have n11_ := Aside0.mk ((by rw [hg]; exact Nat.ne_of_gt (blk_lt (g := gb223) (o := .cells #[.int .u16 a1_0, .int .u16 a1_1] 52 (0, 0)) (kU BK223.out)) : gb230 ≠ gb223))
    have n12_ := Aside0.mk ((by rw [hg]; exact Nat.ne_of_lt (blk_lt (g := gb229) (o := .cells #[.slice Ao15 t225.length co15] 27 (0, 0)) (kU BK229.out)) : gb229 ≠ gb230))
    have n13_ := Aside0.mk ((by rw [hg]; exact Nat.ne_of_gt (blk_lt (g := gb229) (o := .cells #[.slice Ao15 t225.length co15] 27 (0, 0)) (kU BK229.out)) : gb230 ≠ gb229))
    clear HO227
    clear BK222
    clear BK223
    clear BK229
    clear HB
    have HO227 := n0_
    have BK222 := n1_
    have BK223 := n2_
    have BK229 := n3_
    have HB := n4_
    have BK230 := n5_
    have GW230 := n6_
    have GE230 := n7_
    have NB222_230 := n8_
    have NB230_222 := n9_
    have NB223_230 := n10_
    have NB230_223 := n11_
    have NB229_230 := n12_
    have NB230_229 := n13_
    clear n0_ n1_ n2_ n3_ n4_ n5_ n6_ n7_ n8_ n9_ n10_ n11_ n12_ n13_
    clear hb hbox hg
    refine hK.out _ _ ⟨(blk_cell BK222.out 0).trans rfl, (blk_cell BK222.out 1).trans rfl⟩ (fun hHeld => ?_)
    clear hK K
    refine norm_ (a' := ?_) ?_ ?_
    rotate_left
    ·
     show Act.put _ (some 7) _ = _
     simp only [AP]; rfl
    refine one_ (i := 14) (N := none) #[true, true, true, true, true, true, true, true, true, true, true, true, true, true, true] rfl rfl (one_of HT_.out (by kernel_rfl)) (by decide) (fun K hK => ?_)
    have hs22 : w21.cell? ⟨gb230, 0, none⟩ = some (.int .i64 0) := (blk_cell BK230.out 0).trans rfl
    have hfs22 := blk_frozen BK230.out 0
    have hns22_0 := NB222_230.out
    have hns22_1 := NB223_230.out
    have hns22_2 := NB229_230.out
    have hms22_0 := NB230_222.out
    have hms22_1 := NB230_223.out
    have hms22_2 := NB230_229.out
    have hs23 : w21.cell? ⟨gb230, 1, none⟩ = some (.int .i64 0) := (blk_cell BK230.out 1).trans rfl
    have hfs23 := blk_frozen BK230.out 1
    have hns23_0 := NB222_230.out
    have hns23_1 := NB223_230.out
    have hns23_2 := NB229_230.out
    have hms23_0 := NB230_222.out
    have hms23_1 := NB230_223.out
    have hms23_2 := NB230_229.out
    have hs24 : w21.cell? ⟨gb230, 2, none⟩ = some (.int .i64 0) := (blk_cell BK230.out 2).trans rfl
    have hfs24 := blk_frozen BK230.out 2
    have hns24_0 := NB222_230.out
    have hns24_1 := NB223_230.out
    have hns24_2 := NB229_230.out
    have hms24_0 := NB230_222.out
    have hms24_1 := NB230_223.out
    have hms24_2 := NB230_229.out
    refine skip_ (w1 := ?_) (by rfl) rfl ?_ ?_
    rotate_left
    ·
     go_simp; rfl
    refine hK.out _ _ ⟨((cell_far (p := ⟨gb230, _, none⟩) NB222_230.out _).trans (((cell_far (p := ⟨gb230, _, none⟩) NB222_230.out _).trans (((cell_far (p := ⟨gb230, _, none⟩) NB222_230.out _).trans (hHeld.1)))))), ((cell_far (p := ⟨gb230, _, none⟩) NB222_230.out _).trans (((cell_far (p := ⟨gb230, _, none⟩) NB222_230.out _).trans (((cell_far (p := ⟨gb230, _, none⟩) NB222_230.out _).trans (hHeld.2))))))⟩ (fun hHeld => ?_)
    clear hK K
    refine done_ (done_of HT_.out (by kernel_rfl)) ?_
    try go_wp2
    have n0_ : Aside0 (Kd.R (Kd.int .i64) 3 (((w21.setCell ⟨gb230, 0, none⟩ (.int .i64 0)).setCell ⟨gb230, 1, none⟩ (.int .i64 (wrap64 (1 + (Int.tmod (wrap64 (a0_1)) (wrap64 (65536 - (wrap64 (a0_0))))))))).setCell ⟨gb230, 2, none⟩ (.int .i64 (wrap64 (a0_0)))) w.heap.size (fun _ => True) (.slice Ao15 t225.length co15) t225) := ⟨by (with_reducible repeat (first | apply Kd.R_alloc | apply Kd.R_drewN | apply Kd.R_drew)); exact Kd.R_mono (Kd.R_far (p := ⟨gb230, 2, none⟩) (Kd.R_far (p := ⟨gb230, 1, none⟩) (Kd.R_far (p := ⟨gb230, 0, none⟩) (Kd.R_types HO227.out BK230.out (by decide)) (fun _ hk => hk.2) (.int .i64 0)) (fun _ hk => hk.2) (.int .i64 (wrap64 (1 + (Int.tmod (wrap64 (a0_1)) (wrap64 (65536 - (wrap64 (a0_0))))))))) (fun _ hk => hk.2) (.int .i64 (wrap64 (a0_0)))) (fun _ hk => trivial)⟩
    have n1_ : Aside0 ((((w21.setCell ⟨gb230, 0, none⟩ (.int .i64 0)).setCell ⟨gb230, 1, none⟩ (.int .i64 (wrap64 (1 + (Int.tmod (wrap64 (a0_1)) (wrap64 (65536 - (wrap64 (a0_0))))))))).setCell ⟨gb230, 2, none⟩ (.int .i64 (wrap64 (a0_0)))).heap[gb222]? = some (.cells #[.int .u16 a0_0, .int .u16 a0_1] 52 (0, 0))) := ⟨by (with_reducible repeat (first | refine blk_drewN ?_ _ | refine blk_drew ?_ | refine blk_alloc ?_ _)); refine blk_far ?_ NB222_230.out _; (with_reducible repeat (first | refine blk_drewN ?_ _ | refine blk_drew ?_ | refine blk_alloc ?_ _)); refine blk_far ?_ NB222_230.out _; (with_reducible repeat (first | refine blk_drewN ?_ _ | refine blk_drew ?_ | refine blk_alloc ?_ _)); refine blk_far ?_ NB222_230.out _; (with_reducible repeat (first | refine blk_drewN ?_ _ | refine blk_drew ?_ | refine blk_alloc ?_ _)); exact BK222.out⟩
    have n2_ : Aside0 ((((w21.setCell ⟨gb230, 0, none⟩ (.int .i64 0)).setCell ⟨gb230, 1, none⟩ (.int .i64 (wrap64 (1 + (Int.tmod (wrap64 (a0_1)) (wrap64 (65536 - (wrap64 (a0_0))))))))).setCell ⟨gb230, 2, none⟩ (.int .i64 (wrap64 (a0_0)))).heap[gb223]? = some (.cells #[.int .u16 a1_0, .int .u16 a1_1] 52 (0, 0))) := ⟨by (with_reducible repeat (first | refine blk_drewN ?_ _ | refine blk_drew ?_ | refine blk_alloc ?_ _)); refine blk_far ?_ NB223_230.out _; (with_reducible repeat (first | refine blk_drewN ?_ _ | refine blk_drew ?_ | refine blk_alloc ?_ _)); refine blk_far ?_ NB223_230.out _; (with_reducible repeat (first | refine blk_drewN ?_ _ | refine blk_drew ?_ | refine blk_alloc ?_ _)); refine blk_far ?_ NB223_230.out _; (with_reducible repeat (first | refine blk_drewN ?_ _ | refine blk_drew ?_ | refine blk_alloc ?_ _)); exact BK223.out⟩
    have n3_ : Aside0 ((((w21.setCell ⟨gb230, 0, none⟩ (.int .i64 0)).setCell ⟨gb230, 1, none⟩ (.int .i64 (wrap64 (1 + (Int.tmod (wrap64 (a0_1)) (wrap64 (65536 - (wrap64 (a0_0))))))))).setCell ⟨gb230, 2, none⟩ (.int .i64 (wrap64 (a0_0)))).heap[gb229]? = some (.cells #[.slice Ao15 t225.length co15] 27 (0, 0))) := ⟨by (with_reducible repeat (first | refine blk_drewN ?_ _ | refine blk_drew ?_ | refine blk_alloc ?_ _)); refine blk_far ?_ NB229_230.out _; (with_reducible repeat (first | refine blk_drewN ?_ _ | refine blk_drew ?_ | refine blk_alloc ?_ _)); refine blk_far ?_ NB229_230.out _; (with_reducible repeat (first | refine blk_drewN ?_ _ | refine blk_drew ?_ | refine blk_alloc ?_ _)); refine blk_far ?_ NB229_230.out _; (with_reducible repeat (first | refine blk_drewN ?_ _ | refine blk_drew ?_ | refine blk_alloc ?_ _)); exact BK229.out⟩
    have n4_ : Aside0 ((((w21.setCell ⟨gb230, 0, none⟩ (.int .i64 0)).setCell ⟨gb230, 1, none⟩ (.int .i64 (wrap64 (1 + (Int.tmod (wrap64 (a0_1)) (wrap64 (65536 - (wrap64 (a0_0))))))))).setCell ⟨gb230, 2, none⟩ (.int .i64 (wrap64 (a0_0)))).heap[gb230]? = some (.cells #[.int .i64 0, .int .i64 (wrap64 (1 + (Int.tmod (wrap64 (a0_1)) (wrap64 (65536 - (wrap64 (a0_0))))))), .int .i64 (wrap64 (a0_0))] 41 (0, 0))) := ⟨by (with_reducible repeat (first | refine blk_drewN ?_ _ | refine blk_drew ?_ | refine blk_alloc ?_ _)); refine blk_put (cs := #[.int .i64 0, .int .i64 (wrap64 (1 + (Int.tmod (wrap64 (a0_1)) (wrap64 (65536 - (wrap64 (a0_0))))))), .int .i64 0]) ?_ 2 _ rfl; (with_reducible repeat (first | refine blk_drewN ?_ _ | refine blk_drew ?_ | refine blk_alloc ?_ _)); refine blk_put (cs := #[.int .i64 0, .int .i64 0, .int .i64 0]) ?_ 1 _ rfl; (with_reducible repeat (first | refine blk_drewN ?_ _ | refine blk_drew ?_ | refine blk_alloc ?_ _)); refine blk_put (cs := #[.int .i64 0, .int .i64 0, .int .i64 0]) ?_ 0 _ rfl; (with_reducible repeat (first | refine blk_drewN ?_ _ | refine blk_drew ?_ | refine blk_alloc ?_ _)); exact BK230.out⟩
    have n5_ : Aside0 (Below w.heap.size w (((w21.setCell ⟨gb230, 0, none⟩ (.int .i64 0)).setCell ⟨gb230, 1, none⟩ (.int .i64 (wrap64 (1 + (Int.tmod (wrap64 (a0_1)) (wrap64 (65536 - (wrap64 (a0_0))))))))).setCell ⟨gb230, 2, none⟩ (.int .i64 (wrap64 (a0_0))))) := ⟨by repeat (first | (with_reducible first | exact HB.out | apply below_alloc | apply pw_below_drewN | apply below_drew1 | refine below_set ?_ GE222.out | refine below_set ?_ GE223.out | refine below_set ?_ GE229.out | refine below_set ?_ GE230.out) | exact HB.out)⟩
    (try clear HO227)
    (try clear BK222)
    (try clear BK223)
    (try clear BK229)
    (try clear BK230)
    (try clear HB)
    generalize (((w21.setCell ⟨gb230, 0, none⟩ (.int .i64 0)).setCell ⟨gb230, 1, none⟩ (.int .i64 (wrap64 (1 + (Int.tmod (wrap64 (a0_1)) (wrap64 (65536 - (wrap64 (a0_0))))))))).setCell ⟨gb230, 2, none⟩ (.int .i64 (wrap64 (a0_0)))) = w25 at n0_ n1_ n2_ n3_ n4_ n5_ ⊢
    have HO227 := n0_
    have BK222 := n1_
    have BK223 := n2_
    have BK229 := n3_
    have BK230 := n4_
    have HB := n5_
    clear n0_ n1_ n2_ n3_ n4_ n5_
    have n0_ := Aside0.mk (Kd.R_drew HO227.out)
    have n1_ := Aside0.mk (blk_drew BK222.out)
    have n2_ := Aside0.mk (blk_drew BK223.out)
    have n3_ := Aside0.mk (blk_drew BK229.out)
    have n4_ := Aside0.mk (blk_drew BK230.out)
    have n5_ := Aside0.mk (below_drew1 HB.out)
    clear HO227
    clear BK222
    clear BK223
    clear BK229
    clear BK230
    clear HB
    have HO227 := n0_
    have BK222 := n1_
    have BK223 := n2_
    have BK229 := n3_
    have BK230 := n4_
    have HB := n5_
    clear n0_ n1_ n2_ n3_ n4_ n5_
    refine start_ (n := 15) (S := fun w' => w'.cell? ⟨gb223, 0, none⟩ = some (.int .u16 a1_0) ∧ w'.cell? ⟨gb223, 1, none⟩ = some (.int .u16 a1_1)) (ds := []) #[false, false, false, false, false, false, false, false, false, false, false, false, false, false, false] (by kernel_rfl) rfl rfl ⟨(blk_cell BK223.out 0).trans rfl, (blk_cell BK223.out 1).trans rfl⟩ (fun hHeld => ?_); refine with_tabW tegulalaw34_RefcountLarge.tab5 tegulalaw34_RefcountLarge.bits5 (fun HT_ HW_ => ?_)
    generalize w25.drew = w26 at HO227 BK222 BK223 BK229 BK230 HB hHeld ⊢
    refine pure_ (i := 0) (N := some 35) (v := ?_) (a' := ?_) #[true, false, false, false, false, false, false, false, false, false, false, false, false, false, false] rfl rfl (any_of HT_.out (by kernel_rfl)) (fun _ _ _ h => h) (Or.inl ⟨by rfl, ?_⟩) ?_ ?_
    rotate_left
    ·
     intro w'; go_simp; with_reducible rfl
    rotate_left
    ·
     simp only [AP]; rfl
    refine pure_ (i := 3) (N := some 38) (v := ?_) (a' := ?_) #[true, false, false, true, false, false, false, false, false, false, false, false, false, false, false] rfl rfl (any_of HT_.out (by kernel_rfl)) (fun _ _ _ h => h) (Or.inl ⟨by rfl, ?_⟩) ?_ ?_
    rotate_left
    ·
     intro w'; go_simp; with_reducible rfl
    rotate_left
    ·
     simp only [AP]; rfl
    refine pure_ (i := 9) (N := some 44) (v := ?_) (a' := ?_) #[true, false, false, true, false, false, false, false, false, true, false, false, false, false, false] rfl rfl (any_of HT_.out (by kernel_rfl)) (fun _ _ _ h => h) (Or.inl ⟨by rfl, ?_⟩) ?_ ?_
    rotate_left
    ·
     intro w'; go_simp; with_reducible rfl
    rotate_left
    ·
     simp only [AP]; rfl
    refine take_ (i := 1) (N := some 36) (v := ?_) (a' := ?_) #[true, true, false, true, false, false, false, false, false, true, false, false, false, false, false] rfl rfl (take_ofW HT_.out HW_.out (by kernel_rfl)) (fun _ _ _ h => h) (Or.inl ⟨by rfl, ?_⟩) hHeld ?_ ?_
    rotate_left
    ·
     rintro w' ⟨s0, s1⟩
     go_simp; with_reducible rfl
    rotate_left
    ·
     simp only [AP]; rfl
    refine pure_ (i := 2) (N := some 37) (v := ?_) (a' := ?_) #[true, true, true, true, false, false, false, false, false, true, false, false, false, false, false] rfl rfl (any_of HT_.out (by kernel_rfl)) (fun _ _ _ h => h) (Or.inl ⟨by rfl, ?_⟩) ?_ ?_
    rotate_left
    ·
     intro w'; go_simp; with_reducible rfl
    rotate_left
    ·
     simp only [AP]; rfl
    refine take_ (i := 4) (N := some 39) (v := ?_) (a' := ?_) #[true, true, true, true, true, false, false, false, false, true, false, false, false, false, false] rfl rfl (take_ofW HT_.out HW_.out (by kernel_rfl)) (fun _ _ _ h => h) (Or.inl ⟨by rfl, ?_⟩) hHeld ?_ ?_
    rotate_left
    ·
     rintro w' ⟨s0, s1⟩
     go_simp; with_reducible rfl
    rotate_left
    ·
     simp only [AP]; rfl
    refine pure_ (i := 5) (N := some 40) (v := ?_) (a' := ?_) #[true, true, true, true, true, true, false, false, false, true, false, false, false, false, false] rfl rfl (any_of HT_.out (by kernel_rfl)) (fun _ _ _ h => h) (Or.inl ⟨by rfl, ?_⟩) ?_ ?_
    rotate_left
    ·
     intro w'; go_simp; with_reducible rfl
    rotate_left
    ·
     simp only [AP]; rfl
    refine pure_ (i := 6) (N := some 41) (v := ?_) (a' := ?_) #[true, true, true, true, true, true, true, false, false, true, false, false, false, false, false] rfl rfl (any_of HT_.out (by kernel_rfl)) (fun _ _ _ h => h) (Or.inl ⟨by rfl, ?_⟩) ?_ ?_
    rotate_left
    ·
     intro w'; go_simp; with_reducible rfl
    rotate_left
    ·
     simp only [AP]; rfl
    refine pure_ (i := 7) (N := some 42) (v := ?_) (a' := ?_) #[true, true, true, true, true, true, true, true, false, true, false, false, false, false, false] rfl rfl (any_of HT_.out (by kernel_rfl)) (fun _ _ _ h => h) (Or.inl ⟨by rfl, ?_⟩) ?_ ?_
    rotate_left
    ·
     intro w'; go_simp; with_reducible rfl
    rotate_left
    ·
     simp only [AP]; rfl
    refine pure_ (i := 8) (N := some 43) (v := ?_) (a' := ?_) #[true, true, true, true, true, true, true, true, true, true, false, false, false, false, false] rfl rfl (any_of HT_.out (by kernel_rfl)) (fun _ _ _ h => h) (Or.inl ⟨by rfl, ?_⟩) ?_ ?_
    rotate_left
    ·
     intro w'; go_simp; with_reducible rfl
    rotate_left
    ·
     simp only [AP]; rfl
    refine take_ (i := 10) (N := some 45) (v := ?_) (a' := ?_) #[true, true, true, true, true, true, true, true, true, true, true, false, false, false, false] rfl rfl (take_ofW HT_.out HW_.out (by kernel_rfl)) (fun _ _ _ h => h) (Or.inl ⟨by rfl, ?_⟩) hHeld ?_ ?_
    rotate_left
    ·
     rintro w' ⟨s0, s1⟩
     go_simp; with_reducible rfl
    rotate_left
    ·
     simp only [AP]; rfl
    refine pure_ (i := 11) (N := some 46) (v := ?_) (a' := ?_) #[true, true, true, true, true, true, true, true, true, true, true, true, false, false, false] rfl rfl (any_of HT_.out (by kernel_rfl)) (fun _ _ _ h => h) (Or.inl ⟨by rfl, ?_⟩) ?_ ?_
    rotate_left
    ·
     intro w'; go_simp; with_reducible rfl
    rotate_left
    ·
     simp only [AP]; rfl
    refine pure_ (i := 12) (N := some 47) (v := ?_) (a' := ?_) #[true, true, true, true, true, true, true, true, true, true, true, true, true, false, false] rfl rfl (any_of HT_.out (by kernel_rfl)) (fun _ _ _ h => h) (Or.inl ⟨by rfl, ?_⟩) ?_ ?_
    rotate_left
    ·
     intro w'; go_simp; with_reducible rfl
    rotate_left
    ·
     simp only [AP]; rfl
    refine one_ (i := 13) (N := some 8) #[true, true, true, true, true, true, true, true, true, true, true, true, true, true, false] rfl rfl (one_of HT_.out (by kernel_rfl)) (by decide) (fun K hK => ?_)
    refine box_step ?hg (N := 8) ?hd (cs := #[.int .i64 0, .int .i64 0, .int .i64 0]) (t := 41) ?hr ?_; (case hd => rfl); (case hg => rfl); (case hr => first | (go_simp; done) | (go_simp; rfl))
    intro gb231 hg w27 hbox hb
    have n0_ := Aside0.mk (Kd.R_below (rU HO227.out) hb)
    have n1_ := Aside0.mk (blk_below (g := gb222) (o := .cells #[.int .u16 a0_0, .int .u16 a0_1] 52 (0, 0)) (kU BK222.out) hb)
    have n2_ := Aside0.mk (blk_below (g := gb223) (o := .cells #[.int .u16 a1_0, .int .u16 a1_1] 52 (0, 0)) (kU BK223.out) hb)
    have n3_ := Aside0.mk (blk_below (g := gb229) (o := .cells #[.slice Ao15 t225.length co15] 27 (0, 0)) (kU BK229.out) hb)
    have n4_ := Aside0.mk (blk_below (g := gb230) (o := .cells #[.int .i64 0, .int .i64 (wrap64 (1 + (Int.tmod (wrap64 (a0_1)) (wrap64 (65536 - (wrap64 (a0_0))))))), .int .i64 (wrap64 (a0_0))] 41 (0, 0)) (kU BK230.out) hb)
    have n5_ := Aside0.mk (below_step (by repeat (first | (with_reducible first | exact HB.out | apply below_alloc | apply pw_below_drewN | apply below_drew1 | refine below_set ?_ GE222.out | refine below_set ?_ GE223.out | refine below_set ?_ GE229.out | refine below_set ?_ GE230.out) | exact HB.out)) hb)
    have n6_ := Aside0.mk (hbox)
    have n7_ := Aside0.mk ((by rw [hg]; exact (below_size (by repeat (first | (with_reducible first | exact HB.out | apply below_alloc | apply pw_below_drewN | apply below_drew1 | refine below_set ?_ GE222.out | refine below_set ?_ GE223.out | refine below_set ?_ GE229.out | refine below_set ?_ GE230.out) | exact HB.out))) : w.heap.size ≤ gb231))
    have n8_ := Aside0.mk ((by rw [hg]; exact (below_size (by repeat (first | (with_reducible first | exact HB.out | apply below_alloc | apply pw_below_drewN | apply below_drew1 | refine below_set ?_ GE222.out | refine below_set ?_ GE223.out | refine below_set ?_ GE229.out | refine below_set ?_ GE230.out) | exact HB.out))) : w.heap.size ≤ gb231))
    have n9_ := Aside0.mk ((by rw [hg]; exact Nat.ne_of_lt (blk_lt (g := gb222) (o := .cells #[.int .u16 a0_0, .int .u16 a0_1] 52 (0, 0)) (kU BK222.out)) : gb222 ≠ gb231))
    have n10_ := Aside0.mk ((by rw [hg]; exact Nat.ne_of_gt (blk_lt (g := gb222) (o := .cells #[.int .u16 a0_0, .int .u16 a0_1] 52 (0, 0)) (kU BK222.out)) : gb231 ≠ gb222))
    have n11_ := Aside0.mk ((by rw [hg]; exact Nat.ne_of_lt (blk_lt (g := gb223) (o := .cells #[.int .u16 a1_0, .int .u16 a1_1] 52 (0, 0)) (kU BK223.out)) : gb223 ≠ gb231))
    have n12_ := Aside0.mk ((by rw [hg]; exact Nat.ne_of_gt (blk_lt (g := gb223) (o := .cells #[.int .u16 a1_0, .int .u16 a1_1] 52 (0, 0)) (kU BK223.out)) : gb231 ≠ gb223))
    have n13_ := Aside0.mk ((by rw [hg]; exact Nat.ne_of_lt (blk_lt (g := gb229) (o := .cells #[.slice Ao15 t225.length co15] 27 (0, 0)) (kU BK229.out)) : gb229 ≠ gb231))
    have n14_ := Aside0.mk ((by rw [hg]; exact Nat.ne_of_gt (blk_lt (g := gb229) (o := .cells #[.slice Ao15 t225.length co15] 27 (0, 0)) (kU BK229.out)) : gb231 ≠ gb229))
    have n15_ := Aside0.mk ((by rw [hg]; exact Nat.ne_of_lt (blk_lt (g := gb230) (o := .cells #[.int .i64 0, .int .i64 (wrap64 (1 + (Int.tmod (wrap64 (a0_1)) (wrap64 (65536 - (wrap64 (a0_0))))))), .int .i64 (wrap64 (a0_0))] 41 (0, 0)) (kU BK230.out)) : gb230 ≠ gb231))
    have n16_ := Aside0.mk ((by rw [hg]; exact Nat.ne_of_gt (blk_lt (g := gb230) (o := .cells #[.int .i64 0, .int .i64 (wrap64 (1 + (Int.tmod (wrap64 (a0_1)) (wrap64 (65536 - (wrap64 (a0_0))))))), .int .i64 (wrap64 (a0_0))] 41 (0, 0)) (kU BK230.out)) : gb231 ≠ gb230))
    clear HO227
    clear BK222
    clear BK223
    clear BK229
    clear BK230
    clear HB
    have HO227 := n0_
    have BK222 := n1_
    have BK223 := n2_
    have BK229 := n3_
    have BK230 := n4_
    have HB := n5_
    have BK231 := n6_
    have GW231 := n7_
    have GE231 := n8_
    have NB222_231 := n9_
    have NB231_222 := n10_
    have NB223_231 := n11_
    have NB231_223 := n12_
    have NB229_231 := n13_
    have NB231_229 := n14_
    have NB230_231 := n15_
    have NB231_230 := n16_
    clear n0_ n1_ n2_ n3_ n4_ n5_ n6_ n7_ n8_ n9_ n10_ n11_ n12_ n13_ n14_ n15_ n16_
    clear hb hbox hg
    refine hK.out _ _ ⟨(blk_cell BK223.out 0).trans rfl, (blk_cell BK223.out 1).trans rfl⟩ (fun hHeld => ?_)
    clear hK K
    refine norm_ (a' := ?_) ?_ ?_
    rotate_left
    ·
     show Act.put _ (some 8) _ = _
     simp only [AP]; rfl
    refine one_ (i := 14) (N := none) #[true, true, true, true, true, true, true, true, true, true, true, true, true, true, true] rfl rfl (one_of HT_.out (by kernel_rfl)) (by decide) (fun K hK => ?_)
    have hs28 : w27.cell? ⟨gb231, 0, none⟩ = some (.int .i64 0) := (blk_cell BK231.out 0).trans rfl
    have hfs28 := blk_frozen BK231.out 0
    have hns28_0 := NB222_231.out
    have hns28_1 := NB223_231.out
    have hns28_2 := NB229_231.out
    have hns28_3 := NB230_231.out
    have hms28_0 := NB231_222.out
    have hms28_1 := NB231_223.out
    have hms28_2 := NB231_229.out
    have hms28_3 := NB231_230.out
    have hs29 : w27.cell? ⟨gb231, 1, none⟩ = some (.int .i64 0) := (blk_cell BK231.out 1).trans rfl
    have hfs29 := blk_frozen BK231.out 1
    have hns29_0 := NB222_231.out
    have hns29_1 := NB223_231.out
    have hns29_2 := NB229_231.out
    have hns29_3 := NB230_231.out
    have hms29_0 := NB231_222.out
    have hms29_1 := NB231_223.out
    have hms29_2 := NB231_229.out
    have hms29_3 := NB231_230.out
    have hs30 : w27.cell? ⟨gb231, 2, none⟩ = some (.int .i64 0) := (blk_cell BK231.out 2).trans rfl
    have hfs30 := blk_frozen BK231.out 2
    have hns30_0 := NB222_231.out
    have hns30_1 := NB223_231.out
    have hns30_2 := NB229_231.out
    have hns30_3 := NB230_231.out
    have hms30_0 := NB231_222.out
    have hms30_1 := NB231_223.out
    have hms30_2 := NB231_229.out
    have hms30_3 := NB231_230.out
    refine skip_ (w1 := ?_) (by rfl) rfl ?_ ?_
    rotate_left
    ·
     go_simp; rfl
    refine hK.out _ _ ⟨((cell_far (p := ⟨gb231, _, none⟩) NB223_231.out _).trans (((cell_far (p := ⟨gb231, _, none⟩) NB223_231.out _).trans (((cell_far (p := ⟨gb231, _, none⟩) NB223_231.out _).trans (hHeld.1)))))), ((cell_far (p := ⟨gb231, _, none⟩) NB223_231.out _).trans (((cell_far (p := ⟨gb231, _, none⟩) NB223_231.out _).trans (((cell_far (p := ⟨gb231, _, none⟩) NB223_231.out _).trans (hHeld.2))))))⟩ (fun hHeld => ?_)
    clear hK K
    refine done_ (done_of HT_.out (by kernel_rfl)) ?_
    have hnb31 := NB229_230.out
    have hnc31 := NB230_229.out
    have hnb32 := NB229_231.out
    have hnc32 := NB231_229.out
    have hcz33_0 : w27.cell? ⟨gb229, 0, none⟩ = some (.slice Ao15 t225.length co15) := (blk_cell BK229.out 0).trans rfl
    have hfz33_0 := blk_frozen BK229.out 0
    have hnb34 := NB230_222.out
    have hnc34 := NB222_230.out
    have hnb35 := NB230_223.out
    have hnc35 := NB223_230.out
    have hnb36 := NB230_231.out
    have hnc36 := NB231_230.out
    have hcz37_0 : w27.cell? ⟨gb230, 0, none⟩ = some (.int .i64 0) := (blk_cell BK230.out 0).trans rfl
    have hcz37_1 : w27.cell? ⟨gb230, 1, none⟩ = some (.int .i64 (wrap64 (1 + (Int.tmod (wrap64 (a0_1)) (wrap64 (65536 - (wrap64 (a0_0)))))))) := (blk_cell BK230.out 1).trans rfl
    have hcz37_2 : w27.cell? ⟨gb230, 2, none⟩ = some (.int .i64 (wrap64 (a0_0))) := (blk_cell BK230.out 2).trans rfl
    have hfz37_0 := blk_frozen BK230.out 0
    have hfz37_1 := blk_frozen BK230.out 1
    have hfz37_2 := blk_frozen BK230.out 2
    have hnb38 := NB231_222.out
    have hnc38 := NB222_231.out
    have hnb39 := NB231_223.out
    have hnc39 := NB223_231.out
    have hcz40_0 : w27.cell? ⟨gb231, 0, none⟩ = some (.int .i64 0) := (blk_cell BK231.out 0).trans rfl
    have hcz40_1 : w27.cell? ⟨gb231, 1, none⟩ = some (.int .i64 0) := (blk_cell BK231.out 1).trans rfl
    have hcz40_2 : w27.cell? ⟨gb231, 2, none⟩ = some (.int .i64 0) := (blk_cell BK231.out 2).trans rfl
    have hfz40_0 := blk_frozen BK231.out 0
    have hfz40_1 := blk_frozen BK231.out 1
    have hfz40_2 := blk_frozen BK231.out 2
    go_upto_region 7 with (first | ((with_reducible refine gate_dst (N := 52) rfl ?_); (try (refine gate_guard (by rfl) ?_; dsimp only)); refine Kd.R_lit k41 _ 41 ?hg (N := 52) ?hd (xs := ([(⟨0, wrap64 (1 + (Int.tmod (wrap64 (a0_1)) (wrap64 (65536 - (wrap64 (a0_0)))))), wrap64 (a0_0)⟩ : S41), (⟨0, wrap64 (1 + (Int.tmod (wrap64 (a1_1)) (wrap64 (65536 - (wrap64 (a1_0)))))), wrap64 (a1_0)⟩ : S41)] : List (S41))) (inner := [.int .i64 0, .int .i64 (wrap64 (1 + (Int.tmod (wrap64 (a0_1)) (wrap64 (65536 - (wrap64 (a0_0))))))), .int .i64 (wrap64 (a0_0)), .int .i64 0, .int .i64 (wrap64 (1 + (Int.tmod (wrap64 (a1_1)) (wrap64 (65536 - (wrap64 (a1_0))))))), .int .i64 (wrap64 (a1_0))]) (ok := fun _ => True) (okp := fun _ => True) ?hr ?hp (fun _ hk => hk) trivial (Below.refl _ _) (Nat.le_refl _) (by simp) ?_; (case hd => rfl); (case hg => rfl); (case hr => first | (go_simp; done) | (go_simp; rfl)); (case hp => exact (Reps.c3 (show Kd.M k41 _ _ _ (⟨0, wrap64 (1 + (Int.tmod (wrap64 (a0_1)) (wrap64 (65536 - (wrap64 (a0_0)))))), wrap64 (a0_0)⟩ : S41) [.int .i64 0, .int .i64 (wrap64 (1 + (Int.tmod (wrap64 (a0_1)) (wrap64 (65536 - (wrap64 (a0_0))))))), .int .i64 (wrap64 (a0_0))] from (k41_mkM _ _ _ (⟨0, wrap64 (1 + (Int.tmod (wrap64 (a0_1)) (wrap64 (65536 - (wrap64 (a0_0)))))), wrap64 (a0_0)⟩ : S41) )) (Reps.c3 (show Kd.M k41 _ _ _ (⟨0, wrap64 (1 + (Int.tmod (wrap64 (a1_1)) (wrap64 (65536 - (wrap64 (a1_0)))))), wrap64 (a1_0)⟩ : S41) [.int .i64 0, .int .i64 (wrap64 (1 + (Int.tmod (wrap64 (a1_1)) (wrap64 (65536 - (wrap64 (a1_0))))))), .int .i64 (wrap64 (a1_0))] from (k41_mkM _ _ _ (⟨0, wrap64 (1 + (Int.tmod (wrap64 (a1_1)) (wrap64 (65536 - (wrap64 (a1_0)))))), wrap64 (a1_0)⟩ : S41) )) (Reps.none _ _)))); intro v233 w41 ho42 hb hg_ hnew_; clear hg_ hnew_; (first | rw [← Ny232.out] at ho42 | (simp only [Int.reduceToNat] at ho42; rw [← Ny232.out] at ho42)); replace HO227 := Aside0.mk (Kd.R_below (rU (Kd.R_mono (Kd.R_far (p := ⟨gb231, 2, none⟩) (Kd.R_far (p := ⟨gb231, 1, none⟩) (Kd.R_far (p := ⟨gb231, 0, none⟩) (Kd.R_types HO227.out BK231.out (by decide)) (fun _ hk => hk.2) (.int .i64 0)) (fun _ hk => hk.2) (.int .i64 (wrap64 (1 + (Int.tmod (wrap64 (a1_1)) (wrap64 (65536 - (wrap64 (a1_0))))))))) (fun _ hk => hk.2) (.int .i64 (wrap64 (a1_0)))) (fun _ h_ => h_.1))) hb); have HO234 := Aside0.mk (Kd.R_lower (Kd.R_newB (Kd.R_newB ho42 (g := gb230) (o := .cells #[.int .i64 0, .int .i64 (wrap64 (1 + (Int.tmod (wrap64 (a0_1)) (wrap64 (65536 - (wrap64 (a0_0))))))), .int .i64 (wrap64 (a0_0))] 41 (0, 0)) (by (with_reducible repeat (first | refine blk_drewN ?_ _ | refine blk_drew ?_ | refine blk_alloc ?_ _)); refine blk_far ?_ NB230_231.out _; (with_reducible repeat (first | refine blk_drewN ?_ _ | refine blk_drew ?_ | refine blk_alloc ?_ _)); refine blk_far ?_ NB230_231.out _; (with_reducible repeat (first | refine blk_drewN ?_ _ | refine blk_drew ?_ | refine blk_alloc ?_ _)); refine blk_far ?_ NB230_231.out _; (with_reducible repeat (first | refine blk_drewN ?_ _ | refine blk_drew ?_ | refine blk_alloc ?_ _)); exact BK230.out)) (g := gb231) (o := .cells #[.int .i64 0, .int .i64 (wrap64 (1 + (Int.tmod (wrap64 (a1_1)) (wrap64 (65536 - (wrap64 (a1_0))))))), .int .i64 (wrap64 (a1_0))] 41 (0, 0)) (by (with_reducible repeat (first | refine blk_drewN ?_ _ | refine blk_drew ?_ | refine blk_alloc ?_ _)); refine blk_put (cs := #[.int .i64 0, .int .i64 (wrap64 (1 + (Int.tmod (wrap64 (a1_1)) (wrap64 (65536 - (wrap64 (a1_0))))))), .int .i64 0]) ?_ 2 _ rfl; (with_reducible repeat (first | refine blk_drewN ?_ _ | refine blk_drew ?_ | refine blk_alloc ?_ _)); refine blk_put (cs := #[.int .i64 0, .int .i64 0, .int .i64 0]) ?_ 1 _ rfl; (with_reducible repeat (first | refine blk_drewN ?_ _ | refine blk_drew ?_ | refine blk_alloc ?_ _)); refine blk_put (cs := #[.int .i64 0, .int .i64 0, .int .i64 0]) ?_ 0 _ rfl; (with_reducible repeat (first | refine blk_drewN ?_ _ | refine blk_drew ?_ | refine blk_alloc ?_ _)); exact BK231.out)) (below_size (by repeat (first | (with_reducible first | exact HB.out | apply below_alloc | apply pw_below_drewN | apply below_drew1 | refine below_set ?_ GE222.out | refine below_set ?_ GE223.out | refine below_set ?_ GE229.out | refine below_set ?_ GE230.out | refine below_set ?_ GE231.out) | exact HB.out)))); replace BK222 := Aside0.mk (blk_below (g := gb222) (o := .cells #[.int .u16 a0_0, .int .u16 a0_1] 52 (0, 0)) (by (with_reducible repeat (first | refine blk_drewN ?_ _ | refine blk_drew ?_ | refine blk_alloc ?_ _)); refine blk_far ?_ NB222_231.out _; (with_reducible repeat (first | refine blk_drewN ?_ _ | refine blk_drew ?_ | refine blk_alloc ?_ _)); refine blk_far ?_ NB222_231.out _; (with_reducible repeat (first | refine blk_drewN ?_ _ | refine blk_drew ?_ | refine blk_alloc ?_ _)); refine blk_far ?_ NB222_231.out _; (with_reducible repeat (first | refine blk_drewN ?_ _ | refine blk_drew ?_ | refine blk_alloc ?_ _)); exact BK222.out) hb); replace BK223 := Aside0.mk (blk_below (g := gb223) (o := .cells #[.int .u16 a1_0, .int .u16 a1_1] 52 (0, 0)) (by (with_reducible repeat (first | refine blk_drewN ?_ _ | refine blk_drew ?_ | refine blk_alloc ?_ _)); refine blk_far ?_ NB223_231.out _; (with_reducible repeat (first | refine blk_drewN ?_ _ | refine blk_drew ?_ | refine blk_alloc ?_ _)); refine blk_far ?_ NB223_231.out _; (with_reducible repeat (first | refine blk_drewN ?_ _ | refine blk_drew ?_ | refine blk_alloc ?_ _)); refine blk_far ?_ NB223_231.out _; (with_reducible repeat (first | refine blk_drewN ?_ _ | refine blk_drew ?_ | refine blk_alloc ?_ _)); exact BK223.out) hb); replace BK229 := Aside0.mk (blk_below (g := gb229) (o := .cells #[.slice Ao15 t225.length co15] 27 (0, 0)) (by (with_reducible repeat (first | refine blk_drewN ?_ _ | refine blk_drew ?_ | refine blk_alloc ?_ _)); refine blk_far ?_ NB229_231.out _; (with_reducible repeat (first | refine blk_drewN ?_ _ | refine blk_drew ?_ | refine blk_alloc ?_ _)); refine blk_far ?_ NB229_231.out _; (with_reducible repeat (first | refine blk_drewN ?_ _ | refine blk_drew ?_ | refine blk_alloc ?_ _)); refine blk_far ?_ NB229_231.out _; (with_reducible repeat (first | refine blk_drewN ?_ _ | refine blk_drew ?_ | refine blk_alloc ?_ _)); exact BK229.out) hb); replace BK230 := Aside0.mk (blk_below (g := gb230) (o := .cells #[.int .i64 0, .int .i64 (wrap64 (1 + (Int.tmod (wrap64 (a0_1)) (wrap64 (65536 - (wrap64 (a0_0))))))), .int .i64 (wrap64 (a0_0))] 41 (0, 0)) (by (with_reducible repeat (first | refine blk_drewN ?_ _ | refine blk_drew ?_ | refine blk_alloc ?_ _)); refine blk_far ?_ NB230_231.out _; (with_reducible repeat (first | refine blk_drewN ?_ _ | refine blk_drew ?_ | refine blk_alloc ?_ _)); refine blk_far ?_ NB230_231.out _; (with_reducible repeat (first | refine blk_drewN ?_ _ | refine blk_drew ?_ | refine blk_alloc ?_ _)); refine blk_far ?_ NB230_231.out _; (with_reducible repeat (first | refine blk_drewN ?_ _ | refine blk_drew ?_ | refine blk_alloc ?_ _)); exact BK230.out) hb); replace BK231 := Aside0.mk (blk_below (g := gb231) (o := .cells #[.int .i64 0, .int .i64 (wrap64 (1 + (Int.tmod (wrap64 (a1_1)) (wrap64 (65536 - (wrap64 (a1_0))))))), .int .i64 (wrap64 (a1_0))] 41 (0, 0)) (by (with_reducible repeat (first | refine blk_drewN ?_ _ | refine blk_drew ?_ | refine blk_alloc ?_ _)); refine blk_put (cs := #[.int .i64 0, .int .i64 (wrap64 (1 + (Int.tmod (wrap64 (a1_1)) (wrap64 (65536 - (wrap64 (a1_0))))))), .int .i64 0]) ?_ 2 _ rfl; (with_reducible repeat (first | refine blk_drewN ?_ _ | refine blk_drew ?_ | refine blk_alloc ?_ _)); refine blk_put (cs := #[.int .i64 0, .int .i64 0, .int .i64 0]) ?_ 1 _ rfl; (with_reducible repeat (first | refine blk_drewN ?_ _ | refine blk_drew ?_ | refine blk_alloc ?_ _)); refine blk_put (cs := #[.int .i64 0, .int .i64 0, .int .i64 0]) ?_ 0 _ rfl; (with_reducible repeat (first | refine blk_drewN ?_ _ | refine blk_drew ?_ | refine blk_alloc ?_ _)); exact BK231.out) hb); replace HB := Aside0.mk (below_step (by repeat (first | (with_reducible first | exact HB.out | apply below_alloc | apply pw_below_drewN | apply below_drew1 | refine below_set ?_ GE222.out | refine below_set ?_ GE223.out | refine below_set ?_ GE229.out | refine below_set ?_ GE230.out | refine below_set ?_ GE231.out) | exact HB.out)) hb); clear hb ho42; obtain ⟨Ao43, co43, eo43⟩ := Kd.R_slice HO234.out; subst eo43) | ((with_reducible refine gate_callee (f := 12) rfl ?_); refine goesL_ (some 53) rfl rfl Try.func12 (by kernel_rfl) rfl #[.agg #[.slice Ao15 t225.length co15], .slice Ao43 y232.length co43] rfl (by (try simp only [List.map_toArray, List.map_cons, List.map_nil]); first | done | rfl | (simp only [List.length_drop, List.length_take]; rfl)) ?_; (with_reducible refine (refcount_Counts_Add.calls k _ _ t225 _ _ y232 t235 t238 _ ?side1 ?side2 ?side3 ?side4 A8.out).mono ?_); (case side1 => repeat (first | exact (Kd.R_reads' HO227.out).2.2 | (with_reducible refine Kd.C_alloc ?_ _) | (with_reducible refine Kd.C_drewN ?_ _) | (with_reducible refine Kd.C_drew ?_))); (case side2 => exact (Kd.R_reads' HO227.out).2.1); (case side3 => repeat (first | exact (Kd.R_reads' HO234.out).2.2 | (with_reducible refine Kd.C_alloc ?_ _) | (with_reducible refine Kd.C_drewN ?_ _) | (with_reducible refine Kd.C_drew ?_))); (case side4 => exact (Kd.R_reads' HO234.out).2.1); rintro e w44 ⟨v236, rfl, ho0, hb⟩; refine ⟨_, rfl, ?_⟩; replace HO234 := Aside0.mk (Kd.R_below (rU HO234.out) hb); have HO237 := Aside0.mk (Kd.R_lower (Kd.R_new' ho0 (Kd.R_lt (rU HO227.out))) (below_size (by repeat (first | (with_reducible first | exact HB.out | apply below_alloc | apply pw_below_drewN | apply below_drew1 | refine below_set ?_ GE222.out | refine below_set ?_ GE223.out | refine below_set ?_ GE229.out | refine below_set ?_ GE230.out | refine below_set ?_ GE231.out) | exact HB.out)))); replace HO227 := Aside0.mk (Kd.R_elder' (rU HO227.out) (Kd.R_base ho0) hb); replace BK222 := Aside0.mk (blk_below (g := gb222) (o := .cells #[.int .u16 a0_0, .int .u16 a0_1] 52 (0, 0)) (kU BK222.out) hb); replace BK223 := Aside0.mk (blk_below (g := gb223) (o := .cells #[.int .u16 a1_0, .int .u16 a1_1] 52 (0, 0)) (kU BK223.out) hb); replace BK229 := Aside0.mk (blk_below (g := gb229) (o := .cells #[.slice Ao15 t225.length co15] 27 (0, 0)) (kU BK229.out) hb); replace BK230 := Aside0.mk (blk_below (g := gb230) (o := .cells #[.int .i64 0, .int .i64 (wrap64 (1 + (Int.tmod (wrap64 (a0_1)) (wrap64 (65536 - (wrap64 (a0_0))))))), .int .i64 (wrap64 (a0_0))] 41 (0, 0)) (kU BK230.out) hb); replace BK231 := Aside0.mk (blk_below (g := gb231) (o := .cells #[.int .i64 0, .int .i64 (wrap64 (1 + (Int.tmod (wrap64 (a1_1)) (wrap64 (65536 - (wrap64 (a1_0))))))), .int .i64 (wrap64 (a1_0))] 41 (0, 0)) (kU BK231.out) hb); replace HB := Aside0.mk (below_step (by repeat (first | (with_reducible first | exact HB.out | apply below_alloc | apply pw_below_drewN | apply below_drew1 | refine below_set ?_ GE222.out | refine below_set ?_ GE223.out | refine below_set ?_ GE229.out | refine below_set ?_ GE230.out | refine below_set ?_ GE231.out) | exact HB.out)) hb); (try clear hb); (try clear hk); (try clear ho0); obtain ⟨Ao45, co45, eo45⟩ := Kd.R_slice HO237.out; subst eo45; have hcz46_0 : w44.cell? ⟨gb229, 0, none⟩ = some (.slice Ao15 t225.length co15) := (blk_cell BK229.out 0).trans rfl; have hfz46_0 := blk_frozen BK229.out 0))
    (try simp only [Act.put, List.setIfInBounds_toArray, List.set_cons_zero, List.set_cons_succ])
    go_cut [61] (fun v61 wc => ∃ (kq : Nat) (x61_8 : Bool), v61 = .bool x61_8 ∧ Aside0 (tegulalaw34_RefcountLarge.j0 kq x61_8 t235 0 (wrap64 (1 + (Int.tmod (wrap64 (a0_1)) (wrap64 (65536 - (wrap64 (a0_0))))))) (wrap64 (a0_0)) 0 (wrap64 (1 + (Int.tmod (wrap64 (a1_1)) (wrap64 (65536 - (wrap64 (a1_0))))))) (wrap64 (a1_0)) = some r) ∧ Aside0 (kq ≤ k) ∧ Aside0 (Kd.R (Kd.int .i64) 3 wc w.heap.size (fun _ => True) (.slice Ao45 t235.length co45) t235) ∧ Aside0 (wc.heap[gb222]? = some (.cells #[.int .u16 a0_0, .int .u16 a0_1] 52 (0, 0))) ∧ Aside0 (wc.heap[gb223]? = some (.cells #[.int .u16 a1_0, .int .u16 a1_1] 52 (0, 0))) ∧ Aside0 (wc.heap[gb229]? = some (.cells #[(.slice Ao45 t235.length co45)] 27 (0, 0))) ∧ Aside0 (wc.heap[gb230]? = some (.cells #[.int .i64 0, .int .i64 (wrap64 (1 + (Int.tmod (wrap64 (a0_1)) (wrap64 (65536 - (wrap64 (a0_0))))))), .int .i64 (wrap64 (a0_0))] 41 (0, 0))) ∧ Aside0 (wc.heap[gb231]? = some (.cells #[.int .i64 0, .int .i64 (wrap64 (1 + (Int.tmod (wrap64 (a1_1)) (wrap64 (65536 - (wrap64 (a1_0))))))), .int .i64 (wrap64 (a1_0))] 41 (0, 0))) ∧ Aside0 (Below w.heap.size w wc))
    case first =>
     have H := HC9.out
     clear HC9
     by_cases c47 : t228 = 0
     ·
      rw [if_pos c47] at H
      have c47b0 : (t228 == 0) = true := beq_iff_eq.mpr c47
      have c47b1 : (t228 != 0) = false := bne_eq_false_iff_eq.mpr c47
      clear c47
      (first | rw [c47b0] | (simp only [i64_w, i32_w]; rw [c47b0]) | skip)
      have H' := Aside0.mk H
      clear H
      go_wp2
      go_meet
      case rel => exact ⟨_, ((t238 != 0)), (by first | rfl | (simp; done) | (simp [*]; done)), H', ⟨by first | omega | exact Nat.le_refl _⟩, ⟨by (with_reducible repeat (first | apply Kd.R_alloc | apply Kd.R_drewN | apply Kd.R_drew)); exact Kd.R_mono (Kd.R_far (p := ⟨gb229, 0, none⟩) (Kd.R_types HO237.out BK229.out (by decide)) (fun _ hk => hk.2) (.slice Ao45 t235.length co45)) (fun _ hk => trivial)⟩, ⟨by (with_reducible repeat (first | refine blk_drewN ?_ _ | refine blk_drew ?_ | refine blk_alloc ?_ _)); refine blk_far ?_ NB222_229.out _; (with_reducible repeat (first | refine blk_drewN ?_ _ | refine blk_drew ?_ | refine blk_alloc ?_ _)); exact BK222.out⟩, ⟨by (with_reducible repeat (first | refine blk_drewN ?_ _ | refine blk_drew ?_ | refine blk_alloc ?_ _)); refine blk_far ?_ NB223_229.out _; (with_reducible repeat (first | refine blk_drewN ?_ _ | refine blk_drew ?_ | refine blk_alloc ?_ _)); exact BK223.out⟩, ⟨by (with_reducible repeat (first | refine blk_drewN ?_ _ | refine blk_drew ?_ | refine blk_alloc ?_ _)); refine blk_put (cs := #[.slice Ao15 t225.length co15]) ?_ 0 _ rfl; (with_reducible repeat (first | refine blk_drewN ?_ _ | refine blk_drew ?_ | refine blk_alloc ?_ _)); exact BK229.out⟩, ⟨by (with_reducible repeat (first | refine blk_drewN ?_ _ | refine blk_drew ?_ | refine blk_alloc ?_ _)); refine blk_far ?_ NB230_229.out _; (with_reducible repeat (first | refine blk_drewN ?_ _ | refine blk_drew ?_ | refine blk_alloc ?_ _)); exact BK230.out⟩, ⟨by (with_reducible repeat (first | refine blk_drewN ?_ _ | refine blk_drew ?_ | refine blk_alloc ?_ _)); refine blk_far ?_ NB231_229.out _; (with_reducible repeat (first | refine blk_drewN ?_ _ | refine blk_drew ?_ | refine blk_alloc ?_ _)); exact BK231.out⟩, ⟨by repeat (first | (with_reducible first | exact HB.out | apply below_alloc | apply pw_below_drewN | apply below_drew1 | refine below_set ?_ GE222.out | refine below_set ?_ GE223.out | refine below_set ?_ GE229.out | refine below_set ?_ GE230.out | refine below_set ?_ GE231.out) | exact HB.out)⟩⟩
     ·
      rw [if_neg c47] at H
      have c47b0 : (t228 == 0) = false := beq_eq_false_iff_ne.mpr c47
      have c47b1 : (t228 != 0) = true := bne_iff_ne.mpr c47
      (first | rw [c47b0] | (simp only [i64_w, i32_w]; rw [c47b0]) | skip)
      have H' := Aside0.mk H
      clear H
      go_wp2
      go_meet
      case rel => exact ⟨_, (true), (by first | rfl | (simp; done) | (simp [*]; done)), H', ⟨by first | omega | exact Nat.le_refl _⟩, ⟨by (with_reducible repeat (first | apply Kd.R_alloc | apply Kd.R_drewN | apply Kd.R_drew)); exact Kd.R_mono (Kd.R_far (p := ⟨gb229, 0, none⟩) (Kd.R_types HO237.out BK229.out (by decide)) (fun _ hk => hk.2) (.slice Ao45 t235.length co45)) (fun _ hk => trivial)⟩, ⟨by (with_reducible repeat (first | refine blk_drewN ?_ _ | refine blk_drew ?_ | refine blk_alloc ?_ _)); refine blk_far ?_ NB222_229.out _; (with_reducible repeat (first | refine blk_drewN ?_ _ | refine blk_drew ?_ | refine blk_alloc ?_ _)); exact BK222.out⟩, ⟨by (with_reducible repeat (first | refine blk_drewN ?_ _ | refine blk_drew ?_ | refine blk_alloc ?_ _)); refine blk_far ?_ NB223_229.out _; (with_reducible repeat (first | refine blk_drewN ?_ _ | refine blk_drew ?_ | refine blk_alloc ?_ _)); exact BK223.out⟩, ⟨by (with_reducible repeat (first | refine blk_drewN ?_ _ | refine blk_drew ?_ | refine blk_alloc ?_ _)); refine blk_put (cs := #[.slice Ao15 t225.length co15]) ?_ 0 _ rfl; (with_reducible repeat (first | refine blk_drewN ?_ _ | refine blk_drew ?_ | refine blk_alloc ?_ _)); exact BK229.out⟩, ⟨by (with_reducible repeat (first | refine blk_drewN ?_ _ | refine blk_drew ?_ | refine blk_alloc ?_ _)); refine blk_far ?_ NB230_229.out _; (with_reducible repeat (first | refine blk_drewN ?_ _ | refine blk_drew ?_ | refine blk_alloc ?_ _)); exact BK230.out⟩, ⟨by (with_reducible repeat (first | refine blk_drewN ?_ _ | refine blk_drew ?_ | refine blk_alloc ?_ _)); refine blk_far ?_ NB231_229.out _; (with_reducible repeat (first | refine blk_drewN ?_ _ | refine blk_drew ?_ | refine blk_alloc ?_ _)); exact BK231.out⟩, ⟨by repeat (first | (with_reducible first | exact HB.out | apply below_alloc | apply pw_below_drewN | apply below_drew1 | refine below_set ?_ GE222.out | refine below_set ?_ GE223.out | refine below_set ?_ GE229.out | refine below_set ?_ GE230.out | refine below_set ?_ GE231.out) | exact HB.out)⟩⟩
    case rest =>
     clear HC9
     try clear c1
     try clear c2
     try clear p2
     try clear c3
     try clear c4
     try clear c6
     try clear c6b0
     try clear c6b1
     try clear p6
     try clear c7
     try clear c7b0
     try clear c7b1
     try clear c8
     try clear c9
     try clear c12
     try clear c16
     try clear c17
     try clear c22
     try clear c31
     try clear c32
     try clear c34
     try clear c35
     try clear c36
     try clear c38
     try clear c39
     try clear c47
     try clear c47b0
     try clear c47b1
     try clear hcz18_0
     try clear hcz33_0
     try clear hcz37_0
     try clear hcz37_1
     try clear hcz37_2
     try clear hcz40_0
     try clear hcz40_1
     try clear hcz40_2
     try clear hcz46_0
     try clear hfz18_0
     try clear hfz33_0
     try clear hfz37_0
     try clear hfz37_1
     try clear hfz37_2
     try clear hfz40_0
     try clear hfz40_1
     try clear hfz40_2
     try clear hfz46_0
     obtain ⟨kq, x61_8, rfl, HA, HJ8, HO_230000, BK222, BK223, BK229, BK230, BK231, HB⟩ := hcut
     cases kq with
     | zero => exact absurd HA.out (by simp [tegulalaw34_RefcountLarge.j0])
     | succ kj8 =>
      have H := HA.out
      clear HA
      simp only [tegulalaw34_RefcountLarge.j0] at H
      by_cases c48 : x61_8 = true
      ·
       subst c48
       have H1 : (some false) = some r := by rw [if_pos rfl] at H; exact H
       clear H
       have H := H1
       clear H1
       obtain rfl := Option.some.inj H
       go_wp2
       go_ret
       exact ⟨by first | rfl | (simp [errW_none, errW_some] <;> rfl) | (simp [*, errW_none, errW_some] <;> rfl), by repeat (first | (with_reducible first | exact HB.out | apply below_alloc | apply pw_below_drewN | apply below_drew1 | refine below_set ?_ GE222.out | refine below_set ?_ GE223.out | refine below_set ?_ GE229.out | refine below_set ?_ GE230.out | refine below_set ?_ GE231.out) | exact HB.out)⟩
      ·
       replace c48 := Bool.eq_false_iff.mpr c48
       subst c48
       have H1 : ((refcount_Counts_Total.f t235).bind fun t239 => (if t239 = (wrap64 ((wrap64 (1 + (Int.tmod (wrap64 (a0_1)) (wrap64 (65536 - (wrap64 (a0_0))))))) + (wrap64 (1 + (Int.tmod (wrap64 (a1_1)) (wrap64 (65536 - (wrap64 (a1_0))))))))) then ((refcount_Counts_Used.f t235).bind fun t240 => (if t240 = (wrap64 ((wrap64 ((wrap64 (1 + (Int.tmod (wrap64 (a0_1)) (wrap64 (65536 - (wrap64 (a0_0))))))) + (wrap64 (1 + (Int.tmod (wrap64 (a1_1)) (wrap64 (65536 - (wrap64 (a1_0))))))))) - (mx 0 (wrap64 ((mn (wrap64 ((wrap64 (a0_0)) + (wrap64 (1 + (Int.tmod (wrap64 (a0_1)) (wrap64 (65536 - (wrap64 (a0_0))))))))) (wrap64 ((wrap64 (a1_0)) + (wrap64 (1 + (Int.tmod (wrap64 (a1_1)) (wrap64 (65536 - (wrap64 (a1_0)))))))))) - (mx (wrap64 (a0_0)) (wrap64 (a1_0)))))))) then ((refcount_Counts_Single.f kj8 t235 (([(⟨0, (wrap64 (1 + (Int.tmod (wrap64 (a0_1)) (wrap64 (65536 - (wrap64 (a0_0))))))), (wrap64 (a0_0))⟩ : S41), (⟨0, (wrap64 (1 + (Int.tmod (wrap64 (a1_1)) (wrap64 (65536 - (wrap64 (a1_0))))))), (wrap64 (a1_0))⟩ : S41)] : List (S41)))).bind fun t244 => (tegulalaw34_RefcountLarge.j1 kj8 (mx 0 (wrap64 ((mn (wrap64 ((wrap64 (a0_0)) + (wrap64 (1 + (Int.tmod (wrap64 (a0_1)) (wrap64 (65536 - (wrap64 (a0_0))))))))) (wrap64 ((wrap64 (a1_0)) + (wrap64 (1 + (Int.tmod (wrap64 (a1_1)) (wrap64 (65536 - (wrap64 (a1_0)))))))))) - (mx (wrap64 (a0_0)) (wrap64 (a1_0)))))) (t244 != (wrap64 ((wrap64 ((wrap64 (1 + (Int.tmod (wrap64 (a0_1)) (wrap64 (65536 - (wrap64 (a0_0))))))) + (wrap64 (1 + (Int.tmod (wrap64 (a1_1)) (wrap64 (65536 - (wrap64 (a1_0))))))))) - (wrap64 (2 * (mx 0 (wrap64 ((mn (wrap64 ((wrap64 (a0_0)) + (wrap64 (1 + (Int.tmod (wrap64 (a0_1)) (wrap64 (65536 - (wrap64 (a0_0))))))))) (wrap64 ((wrap64 (a1_0)) + (wrap64 (1 + (Int.tmod (wrap64 (a1_1)) (wrap64 (65536 - (wrap64 (a1_0)))))))))) - (mx (wrap64 (a0_0)) (wrap64 (a1_0))))))))))) t235 0 (wrap64 (1 + (Int.tmod (wrap64 (a0_1)) (wrap64 (65536 - (wrap64 (a0_0))))))) (wrap64 (a0_0)) 0 (wrap64 (1 + (Int.tmod (wrap64 (a1_1)) (wrap64 (65536 - (wrap64 (a1_0))))))) (wrap64 (a1_0)))) else (tegulalaw34_RefcountLarge.j1 kj8 (mx 0 (wrap64 ((mn (wrap64 ((wrap64 (a0_0)) + (wrap64 (1 + (Int.tmod (wrap64 (a0_1)) (wrap64 (65536 - (wrap64 (a0_0))))))))) (wrap64 ((wrap64 (a1_0)) + (wrap64 (1 + (Int.tmod (wrap64 (a1_1)) (wrap64 (65536 - (wrap64 (a1_0)))))))))) - (mx (wrap64 (a0_0)) (wrap64 (a1_0)))))) true t235 0 (wrap64 (1 + (Int.tmod (wrap64 (a0_1)) (wrap64 (65536 - (wrap64 (a0_0))))))) (wrap64 (a0_0)) 0 (wrap64 (1 + (Int.tmod (wrap64 (a1_1)) (wrap64 (65536 - (wrap64 (a1_0))))))) (wrap64 (a1_0))))) else (tegulalaw34_RefcountLarge.j1 kj8 (mx 0 (wrap64 ((mn (wrap64 ((wrap64 (a0_0)) + (wrap64 (1 + (Int.tmod (wrap64 (a0_1)) (wrap64 (65536 - (wrap64 (a0_0))))))))) (wrap64 ((wrap64 (a1_0)) + (wrap64 (1 + (Int.tmod (wrap64 (a1_1)) (wrap64 (65536 - (wrap64 (a1_0)))))))))) - (mx (wrap64 (a0_0)) (wrap64 (a1_0)))))) true t235 0 (wrap64 (1 + (Int.tmod (wrap64 (a0_1)) (wrap64 (65536 - (wrap64 (a0_0))))))) (wrap64 (a0_0)) 0 (wrap64 (1 + (Int.tmod (wrap64 (a1_1)) (wrap64 (65536 - (wrap64 (a1_0))))))) (wrap64 (a1_0))))) = some r := by rw [if_neg (show ¬ (false = true) by decide)] at H; exact H
       clear H
       have H := H1
       clear H1
       obtain ⟨ji49, hji49⟩ : ∃ j_ : Int, (mn (wrap64 ((wrap64 (a0_0)) + (wrap64 (1 + (Int.tmod (wrap64 (a0_1)) (wrap64 (65536 - (wrap64 (a0_0))))))))) (wrap64 ((wrap64 (a1_0)) + (wrap64 (1 + (Int.tmod (wrap64 (a1_1)) (wrap64 (65536 - (wrap64 (a1_0)))))))))) = j_ := ⟨_, rfl⟩
       replace H : ((refcount_Counts_Total.f t235).bind fun t239 => (if t239 = (wrap64 ((wrap64 (1 + (Int.tmod (wrap64 (a0_1)) (wrap64 (65536 - (wrap64 (a0_0))))))) + (wrap64 (1 + (Int.tmod (wrap64 (a1_1)) (wrap64 (65536 - (wrap64 (a1_0))))))))) then ((refcount_Counts_Used.f t235).bind fun t240 => (if t240 = (wrap64 ((wrap64 ((wrap64 (1 + (Int.tmod (wrap64 (a0_1)) (wrap64 (65536 - (wrap64 (a0_0))))))) + (wrap64 (1 + (Int.tmod (wrap64 (a1_1)) (wrap64 (65536 - (wrap64 (a1_0))))))))) - (mx 0 (wrap64 ((ji49) - (mx (wrap64 (a0_0)) (wrap64 (a1_0)))))))) then ((refcount_Counts_Single.f kj8 t235 (([(⟨0, (wrap64 (1 + (Int.tmod (wrap64 (a0_1)) (wrap64 (65536 - (wrap64 (a0_0))))))), (wrap64 (a0_0))⟩ : S41), (⟨0, (wrap64 (1 + (Int.tmod (wrap64 (a1_1)) (wrap64 (65536 - (wrap64 (a1_0))))))), (wrap64 (a1_0))⟩ : S41)] : List (S41)))).bind fun t244 => (tegulalaw34_RefcountLarge.j1 kj8 (mx 0 (wrap64 ((ji49) - (mx (wrap64 (a0_0)) (wrap64 (a1_0)))))) (t244 != (wrap64 ((wrap64 ((wrap64 (1 + (Int.tmod (wrap64 (a0_1)) (wrap64 (65536 - (wrap64 (a0_0))))))) + (wrap64 (1 + (Int.tmod (wrap64 (a1_1)) (wrap64 (65536 - (wrap64 (a1_0))))))))) - (wrap64 (2 * (mx 0 (wrap64 ((ji49) - (mx (wrap64 (a0_0)) (wrap64 (a1_0))))))))))) t235 0 (wrap64 (1 + (Int.tmod (wrap64 (a0_1)) (wrap64 (65536 - (wrap64 (a0_0))))))) (wrap64 (a0_0)) 0 (wrap64 (1 + (Int.tmod (wrap64 (a1_1)) (wrap64 (65536 - (wrap64 (a1_0))))))) (wrap64 (a1_0)))) else (tegulalaw34_RefcountLarge.j1 kj8 (mx 0 (wrap64 ((ji49) - (mx (wrap64 (a0_0)) (wrap64 (a1_0)))))) true t235 0 (wrap64 (1 + (Int.tmod (wrap64 (a0_1)) (wrap64 (65536 - (wrap64 (a0_0))))))) (wrap64 (a0_0)) 0 (wrap64 (1 + (Int.tmod (wrap64 (a1_1)) (wrap64 (65536 - (wrap64 (a1_0))))))) (wrap64 (a1_0))))) else (tegulalaw34_RefcountLarge.j1 kj8 (mx 0 (wrap64 ((ji49) - (mx (wrap64 (a0_0)) (wrap64 (a1_0)))))) true t235 0 (wrap64 (1 + (Int.tmod (wrap64 (a0_1)) (wrap64 (65536 - (wrap64 (a0_0))))))) (wrap64 (a0_0)) 0 (wrap64 (1 + (Int.tmod (wrap64 (a1_1)) (wrap64 (65536 - (wrap64 (a1_0))))))) (wrap64 (a1_0))))) = some r := by first | (rw [hji49] at H; exact H) | (simp only [hji49] at H ⊢; exact H)
       have hji49_ : (if (wrap64 ((wrap64 (a1_0)) + (wrap64 (1 + (Int.tmod (wrap64 (a1_1)) (wrap64 (65536 - (wrap64 (a1_0))))))))) < (wrap64 ((wrap64 (a0_0)) + (wrap64 (1 + (Int.tmod (wrap64 (a0_1)) (wrap64 (65536 - (wrap64 (a0_0))))))))) then (wrap64 ((wrap64 (a1_0)) + (wrap64 (1 + (Int.tmod (wrap64 (a1_1)) (wrap64 (65536 - (wrap64 (a1_0))))))))) else (wrap64 ((wrap64 (a0_0)) + (wrap64 (1 + (Int.tmod (wrap64 (a0_1)) (wrap64 (65536 - (wrap64 (a0_0)))))))))) = ji49 := hji49
       obtain ⟨ji50, hji50⟩ : ∃ j_ : Int, (mx (wrap64 (a0_0)) (wrap64 (a1_0))) = j_ := ⟨_, rfl⟩
       replace H : ((refcount_Counts_Total.f t235).bind fun t239 => (if t239 = (wrap64 ((wrap64 (1 + (Int.tmod (wrap64 (a0_1)) (wrap64 (65536 - (wrap64 (a0_0))))))) + (wrap64 (1 + (Int.tmod (wrap64 (a1_1)) (wrap64 (65536 - (wrap64 (a1_0))))))))) then ((refcount_Counts_Used.f t235).bind fun t240 => (if t240 = (wrap64 ((wrap64 ((wrap64 (1 + (Int.tmod (wrap64 (a0_1)) (wrap64 (65536 - (wrap64 (a0_0))))))) + (wrap64 (1 + (Int.tmod (wrap64 (a1_1)) (wrap64 (65536 - (wrap64 (a1_0))))))))) - (mx 0 (wrap64 ((ji49) - (ji50)))))) then ((refcount_Counts_Single.f kj8 t235 (([(⟨0, (wrap64 (1 + (Int.tmod (wrap64 (a0_1)) (wrap64 (65536 - (wrap64 (a0_0))))))), (wrap64 (a0_0))⟩ : S41), (⟨0, (wrap64 (1 + (Int.tmod (wrap64 (a1_1)) (wrap64 (65536 - (wrap64 (a1_0))))))), (wrap64 (a1_0))⟩ : S41)] : List (S41)))).bind fun t244 => (tegulalaw34_RefcountLarge.j1 kj8 (mx 0 (wrap64 ((ji49) - (ji50)))) (t244 != (wrap64 ((wrap64 ((wrap64 (1 + (Int.tmod (wrap64 (a0_1)) (wrap64 (65536 - (wrap64 (a0_0))))))) + (wrap64 (1 + (Int.tmod (wrap64 (a1_1)) (wrap64 (65536 - (wrap64 (a1_0))))))))) - (wrap64 (2 * (mx 0 (wrap64 ((ji49) - (ji50))))))))) t235 0 (wrap64 (1 + (Int.tmod (wrap64 (a0_1)) (wrap64 (65536 - (wrap64 (a0_0))))))) (wrap64 (a0_0)) 0 (wrap64 (1 + (Int.tmod (wrap64 (a1_1)) (wrap64 (65536 - (wrap64 (a1_0))))))) (wrap64 (a1_0)))) else (tegulalaw34_RefcountLarge.j1 kj8 (mx 0 (wrap64 ((ji49) - (ji50)))) true t235 0 (wrap64 (1 + (Int.tmod (wrap64 (a0_1)) (wrap64 (65536 - (wrap64 (a0_0))))))) (wrap64 (a0_0)) 0 (wrap64 (1 + (Int.tmod (wrap64 (a1_1)) (wrap64 (65536 - (wrap64 (a1_0))))))) (wrap64 (a1_0))))) else (tegulalaw34_RefcountLarge.j1 kj8 (mx 0 (wrap64 ((ji49) - (ji50)))) true t235 0 (wrap64 (1 + (Int.tmod (wrap64 (a0_1)) (wrap64 (65536 - (wrap64 (a0_0))))))) (wrap64 (a0_0)) 0 (wrap64 (1 + (Int.tmod (wrap64 (a1_1)) (wrap64 (65536 - (wrap64 (a1_0))))))) (wrap64 (a1_0))))) = some r := by first | (rw [hji50] at H; exact H) | (simp only [hji50] at H ⊢; exact H)
       have hji50_ : (if (wrap64 (a0_0)) < (wrap64 (a1_0)) then (wrap64 (a1_0)) else (wrap64 (a0_0))) = ji50 := hji50
       obtain ⟨ji51, hji51⟩ : ∃ j_ : Int, (mx 0 (wrap64 ((ji49) - (ji50)))) = j_ := ⟨_, rfl⟩
       replace H : ((refcount_Counts_Total.f t235).bind fun t239 => (if t239 = (wrap64 ((wrap64 (1 + (Int.tmod (wrap64 (a0_1)) (wrap64 (65536 - (wrap64 (a0_0))))))) + (wrap64 (1 + (Int.tmod (wrap64 (a1_1)) (wrap64 (65536 - (wrap64 (a1_0))))))))) then ((refcount_Counts_Used.f t235).bind fun t240 => (if t240 = (wrap64 ((wrap64 ((wrap64 (1 + (Int.tmod (wrap64 (a0_1)) (wrap64 (65536 - (wrap64 (a0_0))))))) + (wrap64 (1 + (Int.tmod (wrap64 (a1_1)) (wrap64 (65536 - (wrap64 (a1_0))))))))) - (ji51))) then ((refcount_Counts_Single.f kj8 t235 (([(⟨0, (wrap64 (1 + (Int.tmod (wrap64 (a0_1)) (wrap64 (65536 - (wrap64 (a0_0))))))), (wrap64 (a0_0))⟩ : S41), (⟨0, (wrap64 (1 + (Int.tmod (wrap64 (a1_1)) (wrap64 (65536 - (wrap64 (a1_0))))))), (wrap64 (a1_0))⟩ : S41)] : List (S41)))).bind fun t244 => (tegulalaw34_RefcountLarge.j1 kj8 ji51 (t244 != (wrap64 ((wrap64 ((wrap64 (1 + (Int.tmod (wrap64 (a0_1)) (wrap64 (65536 - (wrap64 (a0_0))))))) + (wrap64 (1 + (Int.tmod (wrap64 (a1_1)) (wrap64 (65536 - (wrap64 (a1_0))))))))) - (wrap64 (2 * (ji51)))))) t235 0 (wrap64 (1 + (Int.tmod (wrap64 (a0_1)) (wrap64 (65536 - (wrap64 (a0_0))))))) (wrap64 (a0_0)) 0 (wrap64 (1 + (Int.tmod (wrap64 (a1_1)) (wrap64 (65536 - (wrap64 (a1_0))))))) (wrap64 (a1_0)))) else (tegulalaw34_RefcountLarge.j1 kj8 ji51 true t235 0 (wrap64 (1 + (Int.tmod (wrap64 (a0_1)) (wrap64 (65536 - (wrap64 (a0_0))))))) (wrap64 (a0_0)) 0 (wrap64 (1 + (Int.tmod (wrap64 (a1_1)) (wrap64 (65536 - (wrap64 (a1_0))))))) (wrap64 (a1_0))))) else (tegulalaw34_RefcountLarge.j1 kj8 ji51 true t235 0 (wrap64 (1 + (Int.tmod (wrap64 (a0_1)) (wrap64 (65536 - (wrap64 (a0_0))))))) (wrap64 (a0_0)) 0 (wrap64 (1 + (Int.tmod (wrap64 (a1_1)) (wrap64 (65536 - (wrap64 (a1_0))))))) (wrap64 (a1_0))))) = some r := by first | (rw [hji51] at H; exact H) | (simp only [hji51] at H ⊢; exact H)
       have hji51_ : (if 0 < (wrap64 ((ji49) - (ji50))) then (wrap64 ((ji49) - (ji50))) else 0) = ji51 := hji51
       have HC52 := Aside0.mk H
       clear H
       have hnb53 := NB230_222.out
       have hnc53 := NB222_230.out
       have hnb54 := NB230_223.out
       have hnc54 := NB223_230.out
       have hnb55 := NB230_229.out
       have hnc55 := NB229_230.out
       have hnb56 := NB230_231.out
       have hnc56 := NB231_230.out
       have hcz57_0 : wc.cell? ⟨gb230, 0, none⟩ = some (.int .i64 0) := (blk_cell BK230.out 0).trans rfl
       have hcz57_1 : wc.cell? ⟨gb230, 1, none⟩ = some (.int .i64 (wrap64 (1 + (Int.tmod (wrap64 (a0_1)) (wrap64 (65536 - (wrap64 (a0_0)))))))) := (blk_cell BK230.out 1).trans rfl
       have hcz57_2 : wc.cell? ⟨gb230, 2, none⟩ = some (.int .i64 (wrap64 (a0_0))) := (blk_cell BK230.out 2).trans rfl
       have hfz57_0 := blk_frozen BK230.out 0
       have hfz57_1 := blk_frozen BK230.out 1
       have hfz57_2 := blk_frozen BK230.out 2
       have hnb58 := NB231_222.out
       have hnc58 := NB222_231.out
       have hnb59 := NB231_223.out
       have hnc59 := NB223_231.out
       have hnb60 := NB231_229.out
       have hnc60 := NB229_231.out
       have hcz61_0 : wc.cell? ⟨gb231, 0, none⟩ = some (.int .i64 0) := (blk_cell BK231.out 0).trans rfl
       have hcz61_1 : wc.cell? ⟨gb231, 1, none⟩ = some (.int .i64 (wrap64 (1 + (Int.tmod (wrap64 (a1_1)) (wrap64 (65536 - (wrap64 (a1_0)))))))) := (blk_cell BK231.out 1).trans rfl
       have hcz61_2 : wc.cell? ⟨gb231, 2, none⟩ = some (.int .i64 (wrap64 (a1_0))) := (blk_cell BK231.out 2).trans rfl
       have hfz61_0 := blk_frozen BK231.out 0
       have hfz61_1 := blk_frozen BK231.out 1
       have hfz61_2 := blk_frozen BK231.out 2
       go_upto_region 10 with (fail)
       go_cut [115] (fun v115 wc => ∃ (kq : Nat) (x115_51 : Bool), v115 = .bool x115_51 ∧ Aside0 (tegulalaw34_RefcountLarge.j1 kq ji51 x115_51 t235 0 (wrap64 (1 + (Int.tmod (wrap64 (a0_1)) (wrap64 (65536 - (wrap64 (a0_0))))))) (wrap64 (a0_0)) 0 (wrap64 (1 + (Int.tmod (wrap64 (a1_1)) (wrap64 (65536 - (wrap64 (a1_0))))))) (wrap64 (a1_0)) = some r) ∧ Aside0 (kq ≤ kj8) ∧ Aside0 (Kd.R (Kd.int .i64) 3 wc w.heap.size (fun _ => True) (.slice Ao45 t235.length co45) t235) ∧ Aside0 (wc.heap[gb222]? = some (.cells #[.int .u16 a0_0, .int .u16 a0_1] 52 (0, 0))) ∧ Aside0 (wc.heap[gb223]? = some (.cells #[.int .u16 a1_0, .int .u16 a1_1] 52 (0, 0))) ∧ Aside0 (wc.heap[gb229]? = some (.cells #[(.slice Ao45 t235.length co45)] 27 (0, 0))) ∧ Aside0 (wc.heap[gb230]? = some (.cells #[.int .i64 0, .int .i64 (wrap64 (1 + (Int.tmod (wrap64 (a0_1)) (wrap64 (65536 - (wrap64 (a0_0))))))), .int .i64 (wrap64 (a0_0))] 41 (0, 0))) ∧ Aside0 (wc.heap[gb231]? = some (.cells #[.int .i64 0, .int .i64 (wrap64 (1 + (Int.tmod (wrap64 (a1_1)) (wrap64 (65536 - (wrap64 (a1_0))))))), .int .i64 (wrap64 (a1_0))] 41 (0, 0))) ∧ Aside0 (Below w.heap.size w wc))
       case first =>
        have H := HC52.out
        clear HC52
        replace H := Option.bind_eq_some_iff.mp H
        obtain ⟨t239, A620, H⟩ := H
        replace H : (if t239 = (wrap64 ((wrap64 (1 + (Int.tmod (wrap64 (a0_1)) (wrap64 (65536 - (wrap64 (a0_0))))))) + (wrap64 (1 + (Int.tmod (wrap64 (a1_1)) (wrap64 (65536 - (wrap64 (a1_0))))))))) then ((refcount_Counts_Used.f t235).bind fun t240 => (if t240 = (wrap64 ((wrap64 ((wrap64 (1 + (Int.tmod (wrap64 (a0_1)) (wrap64 (65536 - (wrap64 (a0_0))))))) + (wrap64 (1 + (Int.tmod (wrap64 (a1_1)) (wrap64 (65536 - (wrap64 (a1_0))))))))) - (ji51))) then ((refcount_Counts_Single.f kj8 t235 (([(⟨0, (wrap64 (1 + (Int.tmod (wrap64 (a0_1)) (wrap64 (65536 - (wrap64 (a0_0))))))), (wrap64 (a0_0))⟩ : S41), (⟨0, (wrap64 (1 + (Int.tmod (wrap64 (a1_1)) (wrap64 (65536 - (wrap64 (a1_0))))))), (wrap64 (a1_0))⟩ : S41)] : List (S41)))).bind fun t244 => (tegulalaw34_RefcountLarge.j1 kj8 ji51 (t244 != (wrap64 ((wrap64 ((wrap64 (1 + (Int.tmod (wrap64 (a0_1)) (wrap64 (65536 - (wrap64 (a0_0))))))) + (wrap64 (1 + (Int.tmod (wrap64 (a1_1)) (wrap64 (65536 - (wrap64 (a1_0))))))))) - (wrap64 (2 * (ji51)))))) t235 0 (wrap64 (1 + (Int.tmod (wrap64 (a0_1)) (wrap64 (65536 - (wrap64 (a0_0))))))) (wrap64 (a0_0)) 0 (wrap64 (1 + (Int.tmod (wrap64 (a1_1)) (wrap64 (65536 - (wrap64 (a1_0))))))) (wrap64 (a1_0)))) else (tegulalaw34_RefcountLarge.j1 kj8 ji51 true t235 0 (wrap64 (1 + (Int.tmod (wrap64 (a0_1)) (wrap64 (65536 - (wrap64 (a0_0))))))) (wrap64 (a0_0)) 0 (wrap64 (1 + (Int.tmod (wrap64 (a1_1)) (wrap64 (65536 - (wrap64 (a1_0))))))) (wrap64 (a1_0))))) else (tegulalaw34_RefcountLarge.j1 kj8 ji51 true t235 0 (wrap64 (1 + (Int.tmod (wrap64 (a0_1)) (wrap64 (65536 - (wrap64 (a0_0))))))) (wrap64 (a0_0)) 0 (wrap64 (1 + (Int.tmod (wrap64 (a1_1)) (wrap64 (65536 - (wrap64 (a1_0))))))) (wrap64 (a1_0)))) = some r := H
        have A62 := Aside0.mk A620
        clear A620
        by_cases c63 : t239 = (wrap64 ((wrap64 (1 + (Int.tmod (wrap64 (a0_1)) (wrap64 (65536 - (wrap64 (a0_0))))))) + (wrap64 (1 + (Int.tmod (wrap64 (a1_1)) (wrap64 (65536 - (wrap64 (a1_0)))))))))
        ·
         rw [if_pos c63] at H
         have c63b0 : (t239 == (wrap64 ((wrap64 (1 + (Int.tmod (wrap64 (a0_1)) (wrap64 (65536 - (wrap64 (a0_0))))))) + (wrap64 (1 + (Int.tmod (wrap64 (a1_1)) (wrap64 (65536 - (wrap64 (a1_0)))))))))) = true := beq_iff_eq.mpr c63
         have c63b1 : (t239 != (wrap64 ((wrap64 (1 + (Int.tmod (wrap64 (a0_1)) (wrap64 (65536 - (wrap64 (a0_0))))))) + (wrap64 (1 + (Int.tmod (wrap64 (a1_1)) (wrap64 (65536 - (wrap64 (a1_0)))))))))) = false := bne_eq_false_iff_eq.mpr c63
         clear c63
         (first | rw [c63b0] | (simp only [i64_w, i32_w]; rw [c63b0]) | skip)
         replace H := Option.bind_eq_some_iff.mp H
         obtain ⟨t240, A640, H⟩ := H
         replace H : (if t240 = (wrap64 ((wrap64 ((wrap64 (1 + (Int.tmod (wrap64 (a0_1)) (wrap64 (65536 - (wrap64 (a0_0))))))) + (wrap64 (1 + (Int.tmod (wrap64 (a1_1)) (wrap64 (65536 - (wrap64 (a1_0))))))))) - (ji51))) then ((refcount_Counts_Single.f kj8 t235 (([(⟨0, (wrap64 (1 + (Int.tmod (wrap64 (a0_1)) (wrap64 (65536 - (wrap64 (a0_0))))))), (wrap64 (a0_0))⟩ : S41), (⟨0, (wrap64 (1 + (Int.tmod (wrap64 (a1_1)) (wrap64 (65536 - (wrap64 (a1_0))))))), (wrap64 (a1_0))⟩ : S41)] : List (S41)))).bind fun t244 => (tegulalaw34_RefcountLarge.j1 kj8 ji51 (t244 != (wrap64 ((wrap64 ((wrap64 (1 + (Int.tmod (wrap64 (a0_1)) (wrap64 (65536 - (wrap64 (a0_0))))))) + (wrap64 (1 + (Int.tmod (wrap64 (a1_1)) (wrap64 (65536 - (wrap64 (a1_0))))))))) - (wrap64 (2 * (ji51)))))) t235 0 (wrap64 (1 + (Int.tmod (wrap64 (a0_1)) (wrap64 (65536 - (wrap64 (a0_0))))))) (wrap64 (a0_0)) 0 (wrap64 (1 + (Int.tmod (wrap64 (a1_1)) (wrap64 (65536 - (wrap64 (a1_0))))))) (wrap64 (a1_0)))) else (tegulalaw34_RefcountLarge.j1 kj8 ji51 true t235 0 (wrap64 (1 + (Int.tmod (wrap64 (a0_1)) (wrap64 (65536 - (wrap64 (a0_0))))))) (wrap64 (a0_0)) 0 (wrap64 (1 + (Int.tmod (wrap64 (a1_1)) (wrap64 (65536 - (wrap64 (a1_0))))))) (wrap64 (a1_0)))) = some r := H
         have A64 := Aside0.mk A640
         clear A640
         by_cases c65 : t240 = (wrap64 ((wrap64 ((wrap64 (1 + (Int.tmod (wrap64 (a0_1)) (wrap64 (65536 - (wrap64 (a0_0))))))) + (wrap64 (1 + (Int.tmod (wrap64 (a1_1)) (wrap64 (65536 - (wrap64 (a1_0))))))))) - (ji51)))
         ·
          rw [if_pos c65] at H
          have c65b0 : (t240 == (wrap64 ((wrap64 ((wrap64 (1 + (Int.tmod (wrap64 (a0_1)) (wrap64 (65536 - (wrap64 (a0_0))))))) + (wrap64 (1 + (Int.tmod (wrap64 (a1_1)) (wrap64 (65536 - (wrap64 (a1_0))))))))) - (ji51)))) = true := beq_iff_eq.mpr c65
          have c65b1 : (t240 != (wrap64 ((wrap64 ((wrap64 (1 + (Int.tmod (wrap64 (a0_1)) (wrap64 (65536 - (wrap64 (a0_0))))))) + (wrap64 (1 + (Int.tmod (wrap64 (a1_1)) (wrap64 (65536 - (wrap64 (a1_0))))))))) - (ji51)))) = false := bne_eq_false_iff_eq.mpr c65
          clear c65
          obtain ⟨y241, hy241⟩ : ∃ y_ : List (S41), y_ = (([(⟨0, (wrap64 (1 + (Int.tmod (wrap64 (a0_1)) (wrap64 (65536 - (wrap64 (a0_0))))))), (wrap64 (a0_0))⟩ : S41), (⟨0, (wrap64 (1 + (Int.tmod (wrap64 (a1_1)) (wrap64 (65536 - (wrap64 (a1_0))))))), (wrap64 (a1_0))⟩ : S41)] : List (S41))) := ⟨_, rfl⟩
          replace H : ((refcount_Counts_Single.f kj8 t235 y241).bind fun t244 => (tegulalaw34_RefcountLarge.j1 kj8 ji51 (t244 != (wrap64 ((wrap64 ((wrap64 (1 + (Int.tmod (wrap64 (a0_1)) (wrap64 (65536 - (wrap64 (a0_0))))))) + (wrap64 (1 + (Int.tmod (wrap64 (a1_1)) (wrap64 (65536 - (wrap64 (a1_0))))))))) - (wrap64 (2 * (ji51)))))) t235 0 (wrap64 (1 + (Int.tmod (wrap64 (a0_1)) (wrap64 (65536 - (wrap64 (a0_0))))))) (wrap64 (a0_0)) 0 (wrap64 (1 + (Int.tmod (wrap64 (a1_1)) (wrap64 (65536 - (wrap64 (a1_0))))))) (wrap64 (a1_0)))) = some r := by first | (rw [hy241]; exact H) | exact H
          have Ny241 := Aside0.mk hy241
          clear hy241
          replace H := Option.bind_eq_some_iff.mp H
          obtain ⟨t244, A660, H⟩ := H
          replace H : (tegulalaw34_RefcountLarge.j1 kj8 ji51 (t244 != (wrap64 ((wrap64 ((wrap64 (1 + (Int.tmod (wrap64 (a0_1)) (wrap64 (65536 - (wrap64 (a0_0))))))) + (wrap64 (1 + (Int.tmod (wrap64 (a1_1)) (wrap64 (65536 - (wrap64 (a1_0))))))))) - (wrap64 (2 * (ji51)))))) t235 0 (wrap64 (1 + (Int.tmod (wrap64 (a0_1)) (wrap64 (65536 - (wrap64 (a0_0))))))) (wrap64 (a0_0)) 0 (wrap64 (1 + (Int.tmod (wrap64 (a1_1)) (wrap64 (65536 - (wrap64 (a1_0))))))) (wrap64 (a1_0))) = some r := H
          have A66 := Aside0.mk A660
          clear A660
          have H' := Aside0.mk H
          clear H
          try go_wp2
          have n0_ := Aside0.mk (Kd.R_drew HO_230000.out)
          have n1_ := Aside0.mk (blk_drew BK222.out)
          have n2_ := Aside0.mk (blk_drew BK223.out)
          have n3_ := Aside0.mk (blk_drew BK229.out)
          have n4_ := Aside0.mk (blk_drew BK230.out)
          have n5_ := Aside0.mk (blk_drew BK231.out)
          have n6_ := Aside0.mk (below_drew1 HB.out)
          clear HO_230000
          clear BK222
          clear BK223
          clear BK229
          clear BK230
          clear BK231
          clear HB
          have HO_230000 := n0_
          have BK222 := n1_
          have BK223 := n2_
          have BK229 := n3_
          have BK230 := n4_
          have BK231 := n5_
          have HB := n6_
          clear n0_ n1_ n2_ n3_ n4_ n5_ n6_
          refine start_ (n := 36) (S := fun w' => w'.cell? ⟨gb229, 0, none⟩ = some (.slice Ao45 t235.length co45) ∧ w'.cell? ⟨gb230, 0, none⟩ = some (.int .i64 0) ∧ w'.cell? ⟨gb230, 1, none⟩ = some (.int .i64 (wrap64 (1 + (Int.tmod (wrap64 (a0_1)) (wrap64 (65536 - (wrap64 (a0_0)))))))) ∧ w'.cell? ⟨gb230, 2, none⟩ = some (.int .i64 (wrap64 (a0_0))) ∧ w'.cell? ⟨gb231, 0, none⟩ = some (.int .i64 0) ∧ w'.cell? ⟨gb231, 1, none⟩ = some (.int .i64 (wrap64 (1 + (Int.tmod (wrap64 (a1_1)) (wrap64 (65536 - (wrap64 (a1_0)))))))) ∧ w'.cell? ⟨gb231, 2, none⟩ = some (.int .i64 (wrap64 (a1_0)))) (ds := []) #[false, false, false, false, false, false, false, false, false, false, false, false, false, false, false, false, false, false, false, false, false, false, false, false, false, false, false, false, false, false, false, false, false, false, false, false] (by kernel_rfl) rfl rfl ⟨(blk_cell BK229.out 0).trans rfl, (blk_cell BK230.out 0).trans rfl, (blk_cell BK230.out 1).trans rfl, (blk_cell BK230.out 2).trans rfl, (blk_cell BK231.out 0).trans rfl, (blk_cell BK231.out 1).trans rfl, (blk_cell BK231.out 2).trans rfl⟩ (fun hHeld => ?_); refine with_tabW tegulalaw34_RefcountLarge.tab10 tegulalaw34_RefcountLarge.bits10 (fun HT_ HW_ => ?_)
          generalize wc.drew = w67 at HO_230000 BK222 BK223 BK229 BK230 BK231 HB hHeld ⊢
          refine pure_ (i := 2) (N := some 82) (v := ?_) (a' := ?_) #[false, false, true, false, false, false, false, false, false, false, false, false, false, false, false, false, false, false, false, false, false, false, false, false, false, false, false, false, false, false, false, false, false, false, false, false] rfl rfl (any_of HT_.out (by kernel_rfl)) (fun _ _ _ h => h) (Or.inl ⟨by rfl, ?_⟩) ?_ ?_
          rotate_left
          ·
           intro w'; go_simp; with_reducible rfl
          rotate_left
          ·
           simp only [AP]; rfl
          refine pure_ (i := 4) (N := some 84) (v := ?_) (a' := ?_) #[false, false, true, false, true, false, false, false, false, false, false, false, false, false, false, false, false, false, false, false, false, false, false, false, false, false, false, false, false, false, false, false, false, false, false, false] rfl rfl (any_of HT_.out (by kernel_rfl)) (fun _ _ _ h => h) (Or.inl ⟨by rfl, ?_⟩) ?_ ?_
          rotate_left
          ·
           intro w'; go_simp; with_reducible rfl
          rotate_left
          ·
           simp only [AP]; rfl
          refine take_ (i := 0) (N := some 80) (v := ?_) (a' := ?_) #[true, false, true, false, true, false, false, false, false, false, false, false, false, false, false, false, false, false, false, false, false, false, false, false, false, false, false, false, false, false, false, false, false, false, false, false] rfl rfl (take_ofW HT_.out HW_.out (by kernel_rfl)) (fun _ _ _ h => h) (Or.inl ⟨by rfl, ?_⟩) hHeld ?_ ?_
          rotate_left
          ·
           rintro w' ⟨s0, s1, s2, s3, s4, s5, s6⟩
           go_simp; with_reducible rfl
          rotate_left
          ·
           simp only [AP]; rfl
          refine take_ (i := 3) (N := some 83) (v := ?_) (a' := ?_) #[true, false, true, true, true, false, false, false, false, false, false, false, false, false, false, false, false, false, false, false, false, false, false, false, false, false, false, false, false, false, false, false, false, false, false, false] rfl rfl (take_ofW HT_.out HW_.out (by kernel_rfl)) (fun _ _ _ h => h) (Or.inl ⟨by rfl, ?_⟩) hHeld ?_ ?_
          rotate_left
          ·
           rintro w' ⟨s0, s1, s2, s3, s4, s5, s6⟩
           go_simp; with_reducible rfl
          rotate_left
          ·
           simp only [AP]; rfl
          refine take_ (i := 5) (N := some 85) (v := ?_) (a' := ?_) #[true, false, true, true, true, true, false, false, false, false, false, false, false, false, false, false, false, false, false, false, false, false, false, false, false, false, false, false, false, false, false, false, false, false, false, false] rfl rfl (take_ofW HT_.out HW_.out (by kernel_rfl)) (fun _ _ _ h => h) (Or.inl ⟨by rfl, ?_⟩) hHeld ?_ ?_
          rotate_left
          ·
           rintro w' ⟨s0, s1, s2, s3, s4, s5, s6⟩
           go_simp; with_reducible rfl
          rotate_left
          ·
           simp only [AP]; rfl
          refine pure_ (i := 6) (N := some 86) (v := ?_) (a' := ?_) #[true, false, true, true, true, true, true, false, false, false, false, false, false, false, false, false, false, false, false, false, false, false, false, false, false, false, false, false, false, false, false, false, false, false, false, false] rfl rfl (any_of HT_.out (by kernel_rfl)) (fun _ _ _ h => h) (Or.inl ⟨by rfl, ?_⟩) ?_ ?_
          rotate_left
          ·
           intro w'; go_simp; with_reducible rfl
          rotate_left
          ·
           simp only [AP]; rfl
          refine one_ (i := 1) (N := some 81) #[true, true, true, true, true, true, true, false, false, false, false, false, false, false, false, false, false, false, false, false, false, false, false, false, false, false, false, false, false, false, false, false, false, false, false, false] rfl rfl (one_of HT_.out (by kernel_rfl)) (by decide) (fun K hK => ?_)
          refine goes_ Try.func19 (by kernel_rfl) rfl #[.agg #[.slice Ao45 t235.length co45]] (by rfl) rfl rfl (by (try simp only [List.map_toArray, List.map_cons, List.map_nil]); first | done | rfl | (simp only [List.length_drop, List.length_take]; rfl)) ?_
          with_reducible refine (refcount_Counts_Total.calls _ _ t235 t239 _ ?side1 ?side2 A62.out).mono ?_
          (case side1 => repeat (first | exact (Kd.R_reads' HO_230000.out).2.2 | (with_reducible refine Kd.C_alloc ?_ _) | (with_reducible refine Kd.C_drewN ?_ _) | (with_reducible refine Kd.C_drew ?_)))
          (case side2 => exact (Kd.R_reads' HO_230000.out).2.1)
          rintro e w68 ⟨rfl, hb⟩
          refine ⟨_, rfl, ?_⟩
          have n0_ := Aside0.mk (Kd.R_below (rU HO_230000.out) hb)
          have n1_ := Aside0.mk (blk_below (g := gb222) (o := .cells #[.int .u16 a0_0, .int .u16 a0_1] 52 (0, 0)) (kU BK222.out) hb)
          have n2_ := Aside0.mk (blk_below (g := gb223) (o := .cells #[.int .u16 a1_0, .int .u16 a1_1] 52 (0, 0)) (kU BK223.out) hb)
          have n3_ := Aside0.mk (blk_below (g := gb229) (o := .cells #[.slice Ao45 t235.length co45] 27 (0, 0)) (kU BK229.out) hb)
          have n4_ := Aside0.mk (blk_below (g := gb230) (o := .cells #[.int .i64 0, .int .i64 (wrap64 (1 + (Int.tmod (wrap64 (a0_1)) (wrap64 (65536 - (wrap64 (a0_0))))))), .int .i64 (wrap64 (a0_0))] 41 (0, 0)) (kU BK230.out) hb)
          have n5_ := Aside0.mk (blk_below (g := gb231) (o := .cells #[.int .i64 0, .int .i64 (wrap64 (1 + (Int.tmod (wrap64 (a1_1)) (wrap64 (65536 - (wrap64 (a1_0))))))), .int .i64 (wrap64 (a1_0))] 41 (0, 0)) (kU BK231.out) hb)
          have n6_ := Aside0.mk (below_step (by repeat (first | (with_reducible first | exact HB.out | apply below_alloc | apply pw_below_drewN | apply below_drew1 | refine below_set ?_ GE222.out | refine below_set ?_ GE223.out | refine below_set ?_ GE229.out | refine below_set ?_ GE230.out | refine below_set ?_ GE231.out) | exact HB.out)) hb)
          clear HO_230000
          clear BK222
          clear BK223
          clear BK229
          clear BK230
          clear BK231
          clear HB
          have HO_230000 := n0_
          have BK222 := n1_
          have BK223 := n2_
          have BK229 := n3_
          have BK230 := n4_
          have BK231 := n5_
          have HB := n6_
          clear n0_ n1_ n2_ n3_ n4_ n5_ n6_
          (try clear hb)
          (try clear hb2)
          (try clear hk)
          (try clear hi)
          refine hK.out _ _ ⟨(blk_cell BK229.out 0).trans rfl, (blk_cell BK230.out 0).trans rfl, (blk_cell BK230.out 1).trans rfl, (blk_cell BK230.out 2).trans rfl, (blk_cell BK231.out 0).trans rfl, (blk_cell BK231.out 1).trans rfl, (blk_cell BK231.out 2).trans rfl⟩ (fun hHeld => ?_)
          clear hK K
          refine norm_ (a' := ?_) ?_ ?_
          rotate_left
          ·
           show Act.put _ (some 81) _ = _
           simp only [AP]; rfl
          refine pure_ (i := 7) (N := some 87) (v := ?_) (a' := ?_) #[true, true, true, true, true, true, true, true, false, false, false, false, false, false, false, false, false, false, false, false, false, false, false, false, false, false, false, false, false, false, false, false, false, false, false, false] rfl rfl (any_of HT_.out (by kernel_rfl)) (fun _ _ _ h => h) (Or.inl ⟨by rfl, ?_⟩) ?_ ?_
          rotate_left
          ·
           intro w'; go_simp; with_reducible rfl
          rotate_left
          ·
           simp only [AP]; rfl
          refine pure_ (i := 8) (N := some 88) (v := ?_) (a' := ?_) #[true, true, true, true, true, true, true, true, true, false, false, false, false, false, false, false, false, false, false, false, false, false, false, false, false, false, false, false, false, false, false, false, false, false, false, false] rfl rfl (any_of HT_.out (by kernel_rfl)) (fun _ _ _ h => h) (Or.inl ⟨by rfl, ?_⟩) ?_ ?_
          rotate_left
          ·
           intro w'; go_simp; with_reducible rfl
          rotate_left
          ·
           simp only [AP]; rfl
          refine pure_ (i := 11) (N := some 91) (v := ?_) (a' := ?_) #[true, true, true, true, true, true, true, true, true, false, false, true, false, false, false, false, false, false, false, false, false, false, false, false, false, false, false, false, false, false, false, false, false, false, false, false] rfl rfl (any_of HT_.out (by kernel_rfl)) (fun _ _ _ h => h) (Or.inl ⟨by rfl, ?_⟩) ?_ ?_
          rotate_left
          ·
           intro w'; go_simp; with_reducible rfl
          rotate_left
          ·
           simp only [AP]; rfl
          refine pure_ (i := 13) (N := some 93) (v := ?_) (a' := ?_) #[true, true, true, true, true, true, true, true, true, false, false, true, false, true, false, false, false, false, false, false, false, false, false, false, false, false, false, false, false, false, false, false, false, false, false, false] rfl rfl (any_of HT_.out (by kernel_rfl)) (fun _ _ _ h => h) (Or.inl ⟨by rfl, ?_⟩) ?_ ?_
          rotate_left
          ·
           intro w'; go_simp; with_reducible rfl
          rotate_left
          ·
           simp only [AP]; rfl
          refine pure_ (i := 16) (N := some 96) (v := ?_) (a' := ?_) #[true, true, true, true, true, true, true, true, true, false, false, true, false, true, false, false, true, false, false, false, false, false, false, false, false, false, false, false, false, false, false, false, false, false, false, false] rfl rfl (any_of HT_.out (by kernel_rfl)) (fun _ _ _ h => h) (Or.inl ⟨by rfl, ?_⟩) ?_ ?_
          rotate_left
          ·
           intro w'; go_simp; with_reducible rfl
          rotate_left
          ·
           simp only [AP]; rfl
          refine take_ (i := 9) (N := some 89) (v := ?_) (a' := ?_) #[true, true, true, true, true, true, true, true, true, true, false, true, false, true, false, false, true, false, false, false, false, false, false, false, false, false, false, false, false, false, false, false, false, false, false, false] rfl rfl (take_ofW HT_.out HW_.out (by kernel_rfl)) (fun _ _ _ h => h) (Or.inl ⟨by rfl, ?_⟩) hHeld ?_ ?_
          rotate_left
          ·
           rintro w' ⟨s0, s1, s2, s3, s4, s5, s6⟩
           go_simp; with_reducible rfl
          rotate_left
          ·
           simp only [AP]; rfl
          refine take_ (i := 12) (N := some 92) (v := ?_) (a' := ?_) #[true, true, true, true, true, true, true, true, true, true, false, true, true, true, false, false, true, false, false, false, false, false, false, false, false, false, false, false, false, false, false, false, false, false, false, false] rfl rfl (take_ofW HT_.out HW_.out (by kernel_rfl)) (fun _ _ _ h => h) (Or.inl ⟨by rfl, ?_⟩) hHeld ?_ ?_
          rotate_left
          ·
           rintro w' ⟨s0, s1, s2, s3, s4, s5, s6⟩
           go_simp; with_reducible rfl
          rotate_left
          ·
           simp only [AP]; rfl
          refine take_ (i := 14) (N := some 94) (v := ?_) (a' := ?_) #[true, true, true, true, true, true, true, true, true, true, false, true, true, true, true, false, true, false, false, false, false, false, false, false, false, false, false, false, false, false, false, false, false, false, false, false] rfl rfl (take_ofW HT_.out HW_.out (by kernel_rfl)) (fun _ _ _ h => h) (Or.inl ⟨by rfl, ?_⟩) hHeld ?_ ?_
          rotate_left
          ·
           rintro w' ⟨s0, s1, s2, s3, s4, s5, s6⟩
           go_simp; with_reducible rfl
          rotate_left
          ·
           simp only [AP]; rfl
          refine pure_ (i := 15) (N := some 95) (v := ?_) (a' := ?_) #[true, true, true, true, true, true, true, true, true, true, false, true, true, true, true, true, true, false, false, false, false, false, false, false, false, false, false, false, false, false, false, false, false, false, false, false] rfl rfl (any_of HT_.out (by kernel_rfl)) (fun _ _ _ h => h) (Or.inl ⟨by rfl, ?_⟩) ?_ ?_
          rotate_left
          ·
           intro w'; go_simp; with_reducible rfl
          rotate_left
          ·
           simp only [AP]; rfl
          refine pure_ (i := 17) (N := some 97) (v := ?_) (a' := ?_) #[true, true, true, true, true, true, true, true, true, true, false, true, true, true, true, true, true, true, false, false, false, false, false, false, false, false, false, false, false, false, false, false, false, false, false, false] rfl rfl (any_of HT_.out (by kernel_rfl)) (fun _ _ _ h => h) (Or.inl ⟨by rfl, ?_⟩) ?_ ?_
          rotate_left
          ·
           intro w'; go_simp; with_reducible rfl
          rotate_left
          ·
           simp only [AP]; rfl
          refine one_ (i := 10) (N := some 90) #[true, true, true, true, true, true, true, true, true, true, true, true, true, true, true, true, true, true, false, false, false, false, false, false, false, false, false, false, false, false, false, false, false, false, false, false] rfl rfl (one_of HT_.out (by kernel_rfl)) (by decide) (fun K hK => ?_)
          refine goes_ Try.func20 (by kernel_rfl) rfl #[.agg #[.slice Ao45 t235.length co45]] (by rfl) rfl rfl (by (try simp only [List.map_toArray, List.map_cons, List.map_nil]); first | done | rfl | (simp only [List.length_drop, List.length_take]; rfl)) ?_
          with_reducible refine (refcount_Counts_Used.calls _ _ t235 t240 _ ?side1 ?side2 A64.out).mono ?_
          (case side1 => repeat (first | exact (Kd.R_reads' HO_230000.out).2.2 | (with_reducible refine Kd.C_alloc ?_ _) | (with_reducible refine Kd.C_drewN ?_ _) | (with_reducible refine Kd.C_drew ?_)))
          (case side2 => exact (Kd.R_reads' HO_230000.out).2.1)
          rintro e w69 ⟨rfl, hb⟩
          refine ⟨_, rfl, ?_⟩
          have n0_ := Aside0.mk (Kd.R_below (rU HO_230000.out) hb)
          have n1_ := Aside0.mk (blk_below (g := gb222) (o := .cells #[.int .u16 a0_0, .int .u16 a0_1] 52 (0, 0)) (kU BK222.out) hb)
          have n2_ := Aside0.mk (blk_below (g := gb223) (o := .cells #[.int .u16 a1_0, .int .u16 a1_1] 52 (0, 0)) (kU BK223.out) hb)
          have n3_ := Aside0.mk (blk_below (g := gb229) (o := .cells #[.slice Ao45 t235.length co45] 27 (0, 0)) (kU BK229.out) hb)
          have n4_ := Aside0.mk (blk_below (g := gb230) (o := .cells #[.int .i64 0, .int .i64 (wrap64 (1 + (Int.tmod (wrap64 (a0_1)) (wrap64 (65536 - (wrap64 (a0_0))))))), .int .i64 (wrap64 (a0_0))] 41 (0, 0)) (kU BK230.out) hb)
          have n5_ := Aside0.mk (blk_below (g := gb231) (o := .cells #[.int .i64 0, .int .i64 (wrap64 (1 + (Int.tmod (wrap64 (a1_1)) (wrap64 (65536 - (wrap64 (a1_0))))))), .int .i64 (wrap64 (a1_0))] 41 (0, 0)) (kU BK231.out) hb)
          have n6_ := Aside0.mk (below_step (by repeat (first | (with_reducible first | exact HB.out | apply below_alloc | apply pw_below_drewN | apply below_drew1 | refine below_set ?_ GE222.out | refine below_set ?_ GE223.out | refine below_set ?_ GE229.out | refine below_set ?_ GE230.out | refine below_set ?_ GE231.out) | exact HB.out)) hb)
          clear HO_230000
          clear BK222
          clear BK223
          clear BK229
          clear BK230
          clear BK231
          clear HB
          have HO_230000 := n0_
          have BK222 := n1_
          have BK223 := n2_
          have BK229 := n3_
          have BK230 := n4_
          have BK231 := n5_
          have HB := n6_
          clear n0_ n1_ n2_ n3_ n4_ n5_ n6_
          (try clear hb)
          (try clear hb2)
          (try clear hk)
          (try clear hi)
          refine hK.out _ _ ⟨(blk_cell BK229.out 0).trans rfl, (blk_cell BK230.out 0).trans rfl, (blk_cell BK230.out 1).trans rfl, (blk_cell BK230.out 2).trans rfl, (blk_cell BK231.out 0).trans rfl, (blk_cell BK231.out 1).trans rfl, (blk_cell BK231.out 2).trans rfl⟩ (fun hHeld => ?_)
          clear hK K
          refine norm_ (a' := ?_) ?_ ?_
          rotate_left
          ·
           show Act.put _ (some 90) _ = _
           simp only [AP]; rfl
          refine pure_ (i := 18) (N := some 98) (v := ?_) (a' := ?_) #[true, true, true, true, true, true, true, true, true, true, true, true, true, true, true, true, true, true, true, false, false, false, false, false, false, false, false, false, false, false, false, false, false, false, false, false] rfl rfl (any_of HT_.out (by kernel_rfl)) (fun _ _ _ h => h) (Or.inl ⟨by rfl, ?_⟩) ?_ ?_
          rotate_left
          ·
           intro w'; go_simp; with_reducible rfl
          rotate_left
          ·
           simp only [AP]; rfl
          refine pure_ (i := 19) (N := some 99) (v := ?_) (a' := ?_) #[true, true, true, true, true, true, true, true, true, true, true, true, true, true, true, true, true, true, true, true, false, false, false, false, false, false, false, false, false, false, false, false, false, false, false, false] rfl rfl (any_of HT_.out (by kernel_rfl)) (fun _ _ _ h => h) (Or.inl ⟨by rfl, ?_⟩) ?_ ?_
          rotate_left
          ·
           intro w'; go_simp; with_reducible rfl
          rotate_left
          ·
           simp only [AP]; rfl
          refine pure_ (i := 20) (N := some 100) (v := ?_) (a' := ?_) #[true, true, true, true, true, true, true, true, true, true, true, true, true, true, true, true, true, true, true, true, true, false, false, false, false, false, false, false, false, false, false, false, false, false, false, false] rfl rfl (any_of HT_.out (by kernel_rfl)) (fun _ _ _ h => h) (Or.inl ⟨by rfl, ?_⟩) ?_ ?_
          rotate_left
          ·
           intro w'; go_simp; with_reducible rfl
          rotate_left
          ·
           simp only [AP]; rfl
          refine pure_ (i := 26) (N := some 106) (v := ?_) (a' := ?_) #[true, true, true, true, true, true, true, true, true, true, true, true, true, true, true, true, true, true, true, true, true, false, false, false, false, false, true, false, false, false, false, false, false, false, false, false] rfl rfl (any_of HT_.out (by kernel_rfl)) (fun _ _ _ h => h) (Or.inl ⟨by rfl, ?_⟩) ?_ ?_
          rotate_left
          ·
           intro w'; go_simp; with_reducible rfl
          rotate_left
          ·
           simp only [AP]; rfl
          refine pure_ (i := 28) (N := some 108) (v := ?_) (a' := ?_) #[true, true, true, true, true, true, true, true, true, true, true, true, true, true, true, true, true, true, true, true, true, false, false, false, false, false, true, false, true, false, false, false, false, false, false, false] rfl rfl (any_of HT_.out (by kernel_rfl)) (fun _ _ _ h => h) (Or.inl ⟨by rfl, ?_⟩) ?_ ?_
          rotate_left
          ·
           intro w'; go_simp; with_reducible rfl
          rotate_left
          ·
           simp only [AP]; rfl
          refine pure_ (i := 31) (N := some 111) (v := ?_) (a' := ?_) #[true, true, true, true, true, true, true, true, true, true, true, true, true, true, true, true, true, true, true, true, true, false, false, false, false, false, true, false, true, false, false, true, false, false, false, false] rfl rfl (any_of HT_.out (by kernel_rfl)) (fun _ _ _ h => h) (Or.inl ⟨by rfl, ?_⟩) ?_ ?_
          rotate_left
          ·
           intro w'; go_simp; with_reducible rfl
          rotate_left
          ·
           simp only [AP]; rfl
          refine pure_ (i := 32) (N := some 112) (v := ?_) (a' := ?_) #[true, true, true, true, true, true, true, true, true, true, true, true, true, true, true, true, true, true, true, true, true, false, false, false, false, false, true, false, true, false, false, true, true, false, false, false] rfl rfl (any_of HT_.out (by kernel_rfl)) (fun _ _ _ h => h) (Or.inl ⟨by rfl, ?_⟩) ?_ ?_
          rotate_left
          ·
           intro w'; go_simp; with_reducible rfl
          rotate_left
          ·
           simp only [AP]; rfl
          refine take_ (i := 21) (N := some 101) (v := ?_) (a' := ?_) #[true, true, true, true, true, true, true, true, true, true, true, true, true, true, true, true, true, true, true, true, true, true, false, false, false, false, true, false, true, false, false, true, true, false, false, false] rfl rfl (take_ofW HT_.out HW_.out (by kernel_rfl)) (fun _ _ _ h => h) (Or.inl ⟨by rfl, ?_⟩) hHeld ?_ ?_
          rotate_left
          ·
           rintro w' ⟨s0, s1, s2, s3, s4, s5, s6⟩
           go_simp; with_reducible rfl
          rotate_left
          ·
           simp only [AP]; rfl
          refine take_ (i := 22) (N := some 102) (v := ?_) (a' := ?_) #[true, true, true, true, true, true, true, true, true, true, true, true, true, true, true, true, true, true, true, true, true, true, true, false, false, false, true, false, true, false, false, true, true, false, false, false] rfl rfl (take_ofW HT_.out HW_.out (by kernel_rfl)) (fun _ _ _ h => h) (Or.inl ⟨by rfl, ?_⟩) hHeld ?_ ?_
          rotate_left
          ·
           rintro w' ⟨s0, s1, s2, s3, s4, s5, s6⟩
           go_simp; with_reducible rfl
          rotate_left
          ·
           simp only [AP]; rfl
          refine take_ (i := 23) (N := some 103) (v := ?_) (a' := ?_) #[true, true, true, true, true, true, true, true, true, true, true, true, true, true, true, true, true, true, true, true, true, true, true, true, false, false, true, false, true, false, false, true, true, false, false, false] rfl rfl (take_ofW HT_.out HW_.out (by kernel_rfl)) (fun _ _ _ h => h) (Or.inl ⟨by rfl, ?_⟩) hHeld ?_ ?_
          rotate_left
          ·
           rintro w' ⟨s0, s1, s2, s3, s4, s5, s6⟩
           go_simp; with_reducible rfl
          rotate_left
          ·
           simp only [AP]; rfl
          refine take_ (i := 27) (N := some 107) (v := ?_) (a' := ?_) #[true, true, true, true, true, true, true, true, true, true, true, true, true, true, true, true, true, true, true, true, true, true, true, true, false, false, true, true, true, false, false, true, true, false, false, false] rfl rfl (take_ofW HT_.out HW_.out (by kernel_rfl)) (fun _ _ _ h => h) (Or.inl ⟨by rfl, ?_⟩) hHeld ?_ ?_
          rotate_left
          ·
           rintro w' ⟨s0, s1, s2, s3, s4, s5, s6⟩
           go_simp; with_reducible rfl
          rotate_left
          ·
           simp only [AP]; rfl
          refine take_ (i := 29) (N := some 109) (v := ?_) (a' := ?_) #[true, true, true, true, true, true, true, true, true, true, true, true, true, true, true, true, true, true, true, true, true, true, true, true, false, false, true, true, true, true, false, true, true, false, false, false] rfl rfl (take_ofW HT_.out HW_.out (by kernel_rfl)) (fun _ _ _ h => h) (Or.inl ⟨by rfl, ?_⟩) hHeld ?_ ?_
          rotate_left
          ·
           rintro w' ⟨s0, s1, s2, s3, s4, s5, s6⟩
           go_simp; with_reducible rfl
          rotate_left
          ·
           simp only [AP]; rfl
          refine pure_ (i := 30) (N := some 110) (v := ?_) (a' := ?_) #[true, true, true, true, true, true, true, true, true, true, true, true, true, true, true, true, true, true, true, true, true, true, true, true, false, false, true, true, true, true, true, true, true, false, false, false] rfl rfl (any_of HT_.out (by kernel_rfl)) (fun _ _ _ h => h) (Or.inl ⟨by rfl, ?_⟩) ?_ ?_
          rotate_left
          ·
           intro w'; go_simp; with_reducible rfl
          rotate_left
          ·
           simp only [AP]; rfl
          refine pure_ (i := 33) (N := some 113) (v := ?_) (a' := ?_) #[true, true, true, true, true, true, true, true, true, true, true, true, true, true, true, true, true, true, true, true, true, true, true, true, false, false, true, true, true, true, true, true, true, true, false, false] rfl rfl (any_of HT_.out (by kernel_rfl)) (fun _ _ _ h => h) (Or.inl ⟨by rfl, ?_⟩) ?_ ?_
          rotate_left
          ·
           intro w'; go_simp; with_reducible rfl
          rotate_left
          ·
           simp only [AP]; rfl
          refine one_ (i := 24) (N := some 104) #[true, true, true, true, true, true, true, true, true, true, true, true, true, true, true, true, true, true, true, true, true, true, true, true, true, false, true, true, true, true, true, true, true, true, false, false] rfl rfl (one_of HT_.out (by kernel_rfl)) (by decide) (fun K hK => ?_)
          refine Kd.R_lit_step k41 _ 41 ?hg (N := 104) ?hd (xs := ([(⟨0, (wrap64 (1 + (Int.tmod (wrap64 (a0_1)) (wrap64 (65536 - (wrap64 (a0_0))))))), (wrap64 (a0_0))⟩ : S41), (⟨0, (wrap64 (1 + (Int.tmod (wrap64 (a1_1)) (wrap64 (65536 - (wrap64 (a1_0))))))), (wrap64 (a1_0))⟩ : S41)] : List (S41))) (inner := [.int .i64 0, .int .i64 (wrap64 (1 + (Int.tmod (wrap64 (a0_1)) (wrap64 (65536 - (wrap64 (a0_0))))))), .int .i64 (wrap64 (a0_0)), .int .i64 0, .int .i64 (wrap64 (1 + (Int.tmod (wrap64 (a1_1)) (wrap64 (65536 - (wrap64 (a1_0))))))), .int .i64 (wrap64 (a1_0))]) (ok := fun _ => True) (okp := fun _ => True) ?hr ?hp (fun _ hk => hk) trivial (Below.refl _ _) (Nat.le_refl _) (by simp) ?_; (case hd => rfl); (case hg => rfl); (case hr => first | (go_simp; done) | (go_simp; rfl)); (case hp => exact (Reps.c3 (show Kd.M k41 _ _ _ (⟨0, (wrap64 (1 + (Int.tmod (wrap64 (a0_1)) (wrap64 (65536 - (wrap64 (a0_0))))))), (wrap64 (a0_0))⟩ : S41) [.int .i64 0, .int .i64 (wrap64 (1 + (Int.tmod (wrap64 (a0_1)) (wrap64 (65536 - (wrap64 (a0_0))))))), .int .i64 (wrap64 (a0_0))] from (k41_mkM _ _ _ (⟨0, (wrap64 (1 + (Int.tmod (wrap64 (a0_1)) (wrap64 (65536 - (wrap64 (a0_0))))))), (wrap64 (a0_0))⟩ : S41) )) (Reps.c3 (show Kd.M k41 _ _ _ (⟨0, (wrap64 (1 + (Int.tmod (wrap64 (a1_1)) (wrap64 (65536 - (wrap64 (a1_0))))))), (wrap64 (a1_0))⟩ : S41) [.int .i64 0, .int .i64 (wrap64 (1 + (Int.tmod (wrap64 (a1_1)) (wrap64 (65536 - (wrap64 (a1_0))))))), .int .i64 (wrap64 (a1_0))] from (k41_mkM _ _ _ (⟨0, (wrap64 (1 + (Int.tmod (wrap64 (a1_1)) (wrap64 (65536 - (wrap64 (a1_0))))))), (wrap64 (a1_0))⟩ : S41) )) (Reps.none _ _))))
          intro v242 w70 ho71 hb hg_ hnew_
          clear hg_ hnew_
          (first | rw [← Ny241.out] at ho71 | (simp only [Int.reduceToNat] at ho71; rw [← Ny241.out] at ho71))
          have n0_ := Aside0.mk (Kd.R_below (rU HO_230000.out) hb)
          have n1_ := Aside0.mk (Kd.R_lower (Kd.R_newB (Kd.R_newB ho71 (g := gb230) (o := .cells #[.int .i64 0, .int .i64 (wrap64 (1 + (Int.tmod (wrap64 (a0_1)) (wrap64 (65536 - (wrap64 (a0_0))))))), .int .i64 (wrap64 (a0_0))] 41 (0, 0)) (kU BK230.out)) (g := gb231) (o := .cells #[.int .i64 0, .int .i64 (wrap64 (1 + (Int.tmod (wrap64 (a1_1)) (wrap64 (65536 - (wrap64 (a1_0))))))), .int .i64 (wrap64 (a1_0))] 41 (0, 0)) (kU BK231.out)) (below_size (by repeat (first | (with_reducible first | exact HB.out | apply below_alloc | apply pw_below_drewN | apply below_drew1 | refine below_set ?_ GE222.out | refine below_set ?_ GE223.out | refine below_set ?_ GE229.out | refine below_set ?_ GE230.out | refine below_set ?_ GE231.out) | exact HB.out))))
          have n2_ := Aside0.mk (blk_below (g := gb222) (o := .cells #[.int .u16 a0_0, .int .u16 a0_1] 52 (0, 0)) (kU BK222.out) hb)
          have n3_ := Aside0.mk (blk_below (g := gb223) (o := .cells #[.int .u16 a1_0, .int .u16 a1_1] 52 (0, 0)) (kU BK223.out) hb)
          have n4_ := Aside0.mk (blk_below (g := gb229) (o := .cells #[.slice Ao45 t235.length co45] 27 (0, 0)) (kU BK229.out) hb)
          have n5_ := Aside0.mk (blk_below (g := gb230) (o := .cells #[.int .i64 0, .int .i64 (wrap64 (1 + (Int.tmod (wrap64 (a0_1)) (wrap64 (65536 - (wrap64 (a0_0))))))), .int .i64 (wrap64 (a0_0))] 41 (0, 0)) (kU BK230.out) hb)
          have n6_ := Aside0.mk (blk_below (g := gb231) (o := .cells #[.int .i64 0, .int .i64 (wrap64 (1 + (Int.tmod (wrap64 (a1_1)) (wrap64 (65536 - (wrap64 (a1_0))))))), .int .i64 (wrap64 (a1_0))] 41 (0, 0)) (kU BK231.out) hb)
          have n7_ := Aside0.mk (below_step (by repeat (first | (with_reducible first | exact HB.out | apply below_alloc | apply pw_below_drewN | apply below_drew1 | refine below_set ?_ GE222.out | refine below_set ?_ GE223.out | refine below_set ?_ GE229.out | refine below_set ?_ GE230.out | refine below_set ?_ GE231.out) | exact HB.out)) hb)
          clear HO_230000
          clear BK222
          clear BK223
          clear BK229
          clear BK230
          clear BK231
          clear HB
          have HO_230000 := n0_
          have HO243 := n1_
          have BK222 := n2_
          have BK223 := n3_
          have BK229 := n4_
          have BK230 := n5_
          have BK231 := n6_
          have HB := n7_
          clear n0_ n1_ n2_ n3_ n4_ n5_ n6_ n7_
          clear hb ho71
          obtain ⟨Ao72, co72, eo72⟩ := Kd.R_slice HO243.out
          (first | subst eo72 | (injection eo72 with f1_ f2_ f3_; have f4_ := f1_.symm; have f5_ := f3_.symm; clear f1_ f2_ f3_; subst f4_; subst f5_))
          refine hK.out _ _ ⟨(blk_cell BK229.out 0).trans rfl, (blk_cell BK230.out 0).trans rfl, (blk_cell BK230.out 1).trans rfl, (blk_cell BK230.out 2).trans rfl, (blk_cell BK231.out 0).trans rfl, (blk_cell BK231.out 1).trans rfl, (blk_cell BK231.out 2).trans rfl⟩ (fun hHeld => ?_)
          clear hK K
          refine norm_ (a' := ?_) ?_ ?_
          rotate_left
          ·
           show Act.put _ (some 104) _ = _
           simp only [AP]; rfl
          refine one_ (i := 25) (N := some 105) #[true, true, true, true, true, true, true, true, true, true, true, true, true, true, true, true, true, true, true, true, true, true, true, true, true, true, true, true, true, true, true, true, true, true, false, false] rfl rfl (one_of HT_.out (by kernel_rfl)) (by decide) (fun K hK => ?_)
          refine goes_ Try.func24 (by kernel_rfl) rfl #[.agg #[.slice Ao45 t235.length co45], .slice Ao72 y241.length co72] (by rfl) rfl rfl (by (try simp only [List.map_toArray, List.map_cons, List.map_nil]); first | done | rfl | (simp only [List.length_drop, List.length_take]; rfl)) ?_
          with_reducible refine (refcount_Counts_Single.calls kj8 _ _ t235 _ _ y241 t244 _ ?side1 ?side2 ?side3 ?side4 A66.out).mono ?_
          (case side1 => repeat (first | exact (Kd.R_reads' HO_230000.out).2.2 | (with_reducible refine Kd.C_alloc ?_ _) | (with_reducible refine Kd.C_drewN ?_ _) | (with_reducible refine Kd.C_drew ?_)))
          (case side2 => exact (Kd.R_reads' HO_230000.out).2.1)
          (case side3 => repeat (first | exact (Kd.R_reads' HO243.out).2.2 | (with_reducible refine Kd.C_alloc ?_ _) | (with_reducible refine Kd.C_drewN ?_ _) | (with_reducible refine Kd.C_drew ?_)))
          (case side4 => exact (Kd.R_reads' HO243.out).2.1)
          rintro e w73 ⟨rfl, hb⟩
          refine ⟨_, rfl, ?_⟩
          have n0_ := Aside0.mk (Kd.R_below (rU HO_230000.out) hb)
          have n1_ := Aside0.mk (Kd.R_below (rU HO243.out) hb)
          have n2_ := Aside0.mk (blk_below (g := gb222) (o := .cells #[.int .u16 a0_0, .int .u16 a0_1] 52 (0, 0)) (kU BK222.out) hb)
          have n3_ := Aside0.mk (blk_below (g := gb223) (o := .cells #[.int .u16 a1_0, .int .u16 a1_1] 52 (0, 0)) (kU BK223.out) hb)
          have n4_ := Aside0.mk (blk_below (g := gb229) (o := .cells #[.slice Ao45 t235.length co45] 27 (0, 0)) (kU BK229.out) hb)
          have n5_ := Aside0.mk (blk_below (g := gb230) (o := .cells #[.int .i64 0, .int .i64 (wrap64 (1 + (Int.tmod (wrap64 (a0_1)) (wrap64 (65536 - (wrap64 (a0_0))))))), .int .i64 (wrap64 (a0_0))] 41 (0, 0)) (kU BK230.out) hb)
          have n6_ := Aside0.mk (blk_below (g := gb231) (o := .cells #[.int .i64 0, .int .i64 (wrap64 (1 + (Int.tmod (wrap64 (a1_1)) (wrap64 (65536 - (wrap64 (a1_0))))))), .int .i64 (wrap64 (a1_0))] 41 (0, 0)) (kU BK231.out) hb)
          have n7_ := Aside0.mk (below_step (by repeat (first | (with_reducible first | exact HB.out | apply below_alloc | apply pw_below_drewN | apply below_drew1 | refine below_set ?_ GE222.out | refine below_set ?_ GE223.out | refine below_set ?_ GE229.out | refine below_set ?_ GE230.out | refine below_set ?_ GE231.out) | exact HB.out)) hb)
          clear HO_230000
          clear HO243
          clear BK222
          clear BK223
          clear BK229
          clear BK230
          clear BK231
          clear HB
          have HO_230000 := n0_
          have HO243 := n1_
          have BK222 := n2_
          have BK223 := n3_
          have BK229 := n4_
          have BK230 := n5_
          have BK231 := n6_
          have HB := n7_
          clear n0_ n1_ n2_ n3_ n4_ n5_ n6_ n7_
          (try clear hb)
          (try clear hb2)
          (try clear hk)
          (try clear hi)
          refine hK.out _ _ ⟨(blk_cell BK229.out 0).trans rfl, (blk_cell BK230.out 0).trans rfl, (blk_cell BK230.out 1).trans rfl, (blk_cell BK230.out 2).trans rfl, (blk_cell BK231.out 0).trans rfl, (blk_cell BK231.out 1).trans rfl, (blk_cell BK231.out 2).trans rfl⟩ (fun hHeld => ?_)
          clear hK K
          refine norm_ (a' := ?_) ?_ ?_
          rotate_left
          ·
           show Act.put _ (some 105) _ = _
           simp only [AP]; rfl
          refine pure_ (i := 34) (N := some 114) (v := ?_) (a' := ?_) #[true, true, true, true, true, true, true, true, true, true, true, true, true, true, true, true, true, true, true, true, true, true, true, true, true, true, true, true, true, true, true, true, true, true, true, false] rfl rfl (any_of HT_.out (by kernel_rfl)) (fun _ _ _ h => h) (Or.inl ⟨by rfl, ?_⟩) ?_ ?_
          rotate_left
          ·
           intro w'; go_simp; with_reducible rfl
          rotate_left
          ·
           simp only [AP]; rfl
          refine pure_ (i := 35) (N := some 115) (v := ?_) (a' := ?_) #[true, true, true, true, true, true, true, true, true, true, true, true, true, true, true, true, true, true, true, true, true, true, true, true, true, true, true, true, true, true, true, true, true, true, true, true] rfl rfl (any_of HT_.out (by kernel_rfl)) (fun _ _ _ h => h) (Or.inl ⟨by rfl, ?_⟩) ?_ ?_
          rotate_left
          ·
           intro w'; go_simp; with_reducible rfl
          rotate_left
          ·
           simp only [AP]; rfl
          refine done_ (done_of HT_.out (by kernel_rfl)) ?_
          try go_wp2
          go_meet
          case rel => exact ⟨_, ((t244 != (wrap64 ((wrap64 ((wrap64 (1 + (Int.tmod (wrap64 (a0_1)) (wrap64 (65536 - (wrap64 (a0_0))))))) + (wrap64 (1 + (Int.tmod (wrap64 (a1_1)) (wrap64 (65536 - (wrap64 (a1_0))))))))) - (wrap64 (2 * (ji51))))))), (by first | rfl | (simp; done) | (simp only [← hji51] <;> (first | rfl | simp)) | (simp [*]; done)), H', ⟨by have := HJ8.out; first | omega | exact Nat.le_refl _⟩, ⟨rU HO_230000.out⟩, ⟨by (with_reducible repeat (first | refine blk_drewN ?_ _ | refine blk_drew ?_ | refine blk_alloc ?_ _)); exact BK222.out⟩, ⟨by (with_reducible repeat (first | refine blk_drewN ?_ _ | refine blk_drew ?_ | refine blk_alloc ?_ _)); exact BK223.out⟩, ⟨by (with_reducible repeat (first | refine blk_drewN ?_ _ | refine blk_drew ?_ | refine blk_alloc ?_ _)); exact BK229.out⟩, ⟨by (with_reducible repeat (first | refine blk_drewN ?_ _ | refine blk_drew ?_ | refine blk_alloc ?_ _)); exact BK230.out⟩, ⟨by (with_reducible repeat (first | refine blk_drewN ?_ _ | refine blk_drew ?_ | refine blk_alloc ?_ _)); exact BK231.out⟩, ⟨by repeat (first | (with_reducible first | exact HB.out | apply below_alloc | apply pw_below_drewN | apply below_drew1 | refine below_set ?_ GE222.out | refine below_set ?_ GE223.out | refine below_set ?_ GE229.out | refine below_set ?_ GE230.out | refine below_set ?_ GE231.out) | exact HB.out)⟩⟩
         ·
          rw [if_neg c65] at H
          have c65b0 : (t240 == (wrap64 ((wrap64 ((wrap64 (1 + (Int.tmod (wrap64 (a0_1)) (wrap64 (65536 - (wrap64 (a0_0))))))) + (wrap64 (1 + (Int.tmod (wrap64 (a1_1)) (wrap64 (65536 - (wrap64 (a1_0))))))))) - (ji51)))) = false := beq_eq_false_iff_ne.mpr c65
          have c65b1 : (t240 != (wrap64 ((wrap64 ((wrap64 (1 + (Int.tmod (wrap64 (a0_1)) (wrap64 (65536 - (wrap64 (a0_0))))))) + (wrap64 (1 + (Int.tmod (wrap64 (a1_1)) (wrap64 (65536 - (wrap64 (a1_0))))))))) - (ji51)))) = true := bne_iff_ne.mpr c65
          have H' := Aside0.mk H
          clear H
          try go_wp2
          have n0_ := Aside0.mk (Kd.R_drew HO_230000.out)
          have n1_ := Aside0.mk (blk_drew BK222.out)
          have n2_ := Aside0.mk (blk_drew BK223.out)
          have n3_ := Aside0.mk (blk_drew BK229.out)
          have n4_ := Aside0.mk (blk_drew BK230.out)
          have n5_ := Aside0.mk (blk_drew BK231.out)
          have n6_ := Aside0.mk (below_drew1 HB.out)
          clear HO_230000
          clear BK222
          clear BK223
          clear BK229
          clear BK230
          clear BK231
          clear HB
          have HO_230000 := n0_
          have BK222 := n1_
          have BK223 := n2_
          have BK229 := n3_
          have BK230 := n4_
          have BK231 := n5_
          have HB := n6_
          clear n0_ n1_ n2_ n3_ n4_ n5_ n6_
          refine start_ (n := 36) (S := fun w' => w'.cell? ⟨gb229, 0, none⟩ = some (.slice Ao45 t235.length co45) ∧ w'.cell? ⟨gb230, 0, none⟩ = some (.int .i64 0) ∧ w'.cell? ⟨gb230, 1, none⟩ = some (.int .i64 (wrap64 (1 + (Int.tmod (wrap64 (a0_1)) (wrap64 (65536 - (wrap64 (a0_0)))))))) ∧ w'.cell? ⟨gb230, 2, none⟩ = some (.int .i64 (wrap64 (a0_0))) ∧ w'.cell? ⟨gb231, 0, none⟩ = some (.int .i64 0) ∧ w'.cell? ⟨gb231, 1, none⟩ = some (.int .i64 (wrap64 (1 + (Int.tmod (wrap64 (a1_1)) (wrap64 (65536 - (wrap64 (a1_0)))))))) ∧ w'.cell? ⟨gb231, 2, none⟩ = some (.int .i64 (wrap64 (a1_0)))) (ds := []) #[false, false, false, false, false, false, false, false, false, false, false, false, false, false, false, false, false, false, false, false, false, false, false, false, false, false, false, false, false, false, false, false, false, false, false, false] (by kernel_rfl) rfl rfl ⟨(blk_cell BK229.out 0).trans rfl, (blk_cell BK230.out 0).trans rfl, (blk_cell BK230.out 1).trans rfl, (blk_cell BK230.out 2).trans rfl, (blk_cell BK231.out 0).trans rfl, (blk_cell BK231.out 1).trans rfl, (blk_cell BK231.out 2).trans rfl⟩ (fun hHeld => ?_); refine with_tabW tegulalaw34_RefcountLarge.tab10 tegulalaw34_RefcountLarge.bits10 (fun HT_ HW_ => ?_)
          generalize wc.drew = w74 at HO_230000 BK222 BK223 BK229 BK230 BK231 HB hHeld ⊢
          refine pure_ (i := 2) (N := some 82) (v := ?_) (a' := ?_) #[false, false, true, false, false, false, false, false, false, false, false, false, false, false, false, false, false, false, false, false, false, false, false, false, false, false, false, false, false, false, false, false, false, false, false, false] rfl rfl (any_of HT_.out (by kernel_rfl)) (fun _ _ _ h => h) (Or.inl ⟨by rfl, ?_⟩) ?_ ?_
          rotate_left
          ·
           intro w'; go_simp; with_reducible rfl
          rotate_left
          ·
           simp only [AP]; rfl
          refine pure_ (i := 4) (N := some 84) (v := ?_) (a' := ?_) #[false, false, true, false, true, false, false, false, false, false, false, false, false, false, false, false, false, false, false, false, false, false, false, false, false, false, false, false, false, false, false, false, false, false, false, false] rfl rfl (any_of HT_.out (by kernel_rfl)) (fun _ _ _ h => h) (Or.inl ⟨by rfl, ?_⟩) ?_ ?_
          rotate_left
          ·
           intro w'; go_simp; with_reducible rfl
          rotate_left
          ·
           simp only [AP]; rfl
          refine take_ (i := 0) (N := some 80) (v := ?_) (a' := ?_) #[true, false, true, false, true, false, false, false, false, false, false, false, false, false, false, false, false, false, false, false, false, false, false, false, false, false, false, false, false, false, false, false, false, false, false, false] rfl rfl (take_ofW HT_.out HW_.out (by kernel_rfl)) (fun _ _ _ h => h) (Or.inl ⟨by rfl, ?_⟩) hHeld ?_ ?_
          rotate_left
          ·
           rintro w' ⟨s0, s1, s2, s3, s4, s5, s6⟩
           go_simp; with_reducible rfl
          rotate_left
          ·
           simp only [AP]; rfl
          refine take_ (i := 3) (N := some 83) (v := ?_) (a' := ?_) #[true, false, true, true, true, false, false, false, false, false, false, false, false, false, false, false, false, false, false, false, false, false, false, false, false, false, false, false, false, false, false, false, false, false, false, false] rfl rfl (take_ofW HT_.out HW_.out (by kernel_rfl)) (fun _ _ _ h => h) (Or.inl ⟨by rfl, ?_⟩) hHeld ?_ ?_
          rotate_left
          ·
           rintro w' ⟨s0, s1, s2, s3, s4, s5, s6⟩
           go_simp; with_reducible rfl
          rotate_left
          ·
           simp only [AP]; rfl
          refine take_ (i := 5) (N := some 85) (v := ?_) (a' := ?_) #[true, false, true, true, true, true, false, false, false, false, false, false, false, false, false, false, false, false, false, false, false, false, false, false, false, false, false, false, false, false, false, false, false, false, false, false] rfl rfl (take_ofW HT_.out HW_.out (by kernel_rfl)) (fun _ _ _ h => h) (Or.inl ⟨by rfl, ?_⟩) hHeld ?_ ?_
          rotate_left
          ·
           rintro w' ⟨s0, s1, s2, s3, s4, s5, s6⟩
           go_simp; with_reducible rfl
          rotate_left
          ·
           simp only [AP]; rfl
          refine pure_ (i := 6) (N := some 86) (v := ?_) (a' := ?_) #[true, false, true, true, true, true, true, false, false, false, false, false, false, false, false, false, false, false, false, false, false, false, false, false, false, false, false, false, false, false, false, false, false, false, false, false] rfl rfl (any_of HT_.out (by kernel_rfl)) (fun _ _ _ h => h) (Or.inl ⟨by rfl, ?_⟩) ?_ ?_
          rotate_left
          ·
           intro w'; go_simp; with_reducible rfl
          rotate_left
          ·
           simp only [AP]; rfl
          refine one_ (i := 1) (N := some 81) #[true, true, true, true, true, true, true, false, false, false, false, false, false, false, false, false, false, false, false, false, false, false, false, false, false, false, false, false, false, false, false, false, false, false, false, false] rfl rfl (one_of HT_.out (by kernel_rfl)) (by decide) (fun K hK => ?_)
          refine goes_ Try.func19 (by kernel_rfl) rfl #[.agg #[.slice Ao45 t235.length co45]] (by rfl) rfl rfl (by (try simp only [List.map_toArray, List.map_cons, List.map_nil]); first | done | rfl | (simp only [List.length_drop, List.length_take]; rfl)) ?_
          with_reducible refine (refcount_Counts_Total.calls _ _ t235 t239 _ ?side1 ?side2 A62.out).mono ?_
          (case side1 => repeat (first | exact (Kd.R_reads' HO_230000.out).2.2 | (with_reducible refine Kd.C_alloc ?_ _) | (with_reducible refine Kd.C_drewN ?_ _) | (with_reducible refine Kd.C_drew ?_)))
          (case side2 => exact (Kd.R_reads' HO_230000.out).2.1)
          rintro e w75 ⟨rfl, hb⟩
          refine ⟨_, rfl, ?_⟩
          have n0_ := Aside0.mk (Kd.R_below (rU HO_230000.out) hb)
          have n1_ := Aside0.mk (blk_below (g := gb222) (o := .cells #[.int .u16 a0_0, .int .u16 a0_1] 52 (0, 0)) (kU BK222.out) hb)
          have n2_ := Aside0.mk (blk_below (g := gb223) (o := .cells #[.int .u16 a1_0, .int .u16 a1_1] 52 (0, 0)) (kU BK223.out) hb)
          have n3_ := Aside0.mk (blk_below (g := gb229) (o := .cells #[.slice Ao45 t235.length co45] 27 (0, 0)) (kU BK229.out) hb)
          have n4_ := Aside0.mk (blk_below (g := gb230) (o := .cells #[.int .i64 0, .int .i64 (wrap64 (1 + (Int.tmod (wrap64 (a0_1)) (wrap64 (65536 - (wrap64 (a0_0))))))), .int .i64 (wrap64 (a0_0))] 41 (0, 0)) (kU BK230.out) hb)
          have n5_ := Aside0.mk (blk_below (g := gb231) (o := .cells #[.int .i64 0, .int .i64 (wrap64 (1 + (Int.tmod (wrap64 (a1_1)) (wrap64 (65536 - (wrap64 (a1_0))))))), .int .i64 (wrap64 (a1_0))] 41 (0, 0)) (kU BK231.out) hb)
          have n6_ := Aside0.mk (below_step (by repeat (first | (with_reducible first | exact HB.out | apply below_alloc | apply pw_below_drewN | apply below_drew1 | refine below_set ?_ GE222.out | refine below_set ?_ GE223.out | refine below_set ?_ GE229.out | refine below_set ?_ GE230.out | refine below_set ?_ GE231.out) | exact HB.out)) hb)
          clear HO_230000
          clear BK222
          clear BK223
          clear BK229
          clear BK230
          clear BK231
          clear HB
          have HO_230000 := n0_
          have BK222 := n1_
          have BK223 := n2_
          have BK229 := n3_
          have BK230 := n4_
          have BK231 := n5_
          have HB := n6_
          clear n0_ n1_ n2_ n3_ n4_ n5_ n6_
          (try clear hb)
          (try clear hb2)
          (try clear hk)
          (try clear hi)
          refine hK.out _ _ ⟨(blk_cell BK229.out 0).trans rfl, (blk_cell BK230.out 0).trans rfl, (blk_cell BK230.out 1).trans rfl, (blk_cell BK230.out 2).trans rfl, (blk_cell BK231.out 0).trans rfl, (blk_cell BK231.out 1).trans rfl, (blk_cell BK231.out 2).trans rfl⟩ (fun hHeld => ?_)
          clear hK K
          refine norm_ (a' := ?_) ?_ ?_
          rotate_left
          ·
           show Act.put _ (some 81) _ = _
           simp only [AP]; rfl
          refine pure_ (i := 7) (N := some 87) (v := ?_) (a' := ?_) #[true, true, true, true, true, true, true, true, false, false, false, false, false, false, false, false, false, false, false, false, false, false, false, false, false, false, false, false, false, false, false, false, false, false, false, false] rfl rfl (any_of HT_.out (by kernel_rfl)) (fun _ _ _ h => h) (Or.inl ⟨by rfl, ?_⟩) ?_ ?_
          rotate_left
          ·
           intro w'; go_simp; with_reducible rfl
          rotate_left
          ·
           simp only [AP]; rfl
          refine pure_ (i := 8) (N := some 88) (v := ?_) (a' := ?_) #[true, true, true, true, true, true, true, true, true, false, false, false, false, false, false, false, false, false, false, false, false, false, false, false, false, false, false, false, false, false, false, false, false, false, false, false] rfl rfl (any_of HT_.out (by kernel_rfl)) (fun _ _ _ h => h) (Or.inl ⟨by rfl, ?_⟩) ?_ ?_
          rotate_left
          ·
           intro w'; go_simp; with_reducible rfl
          rotate_left
          ·
           simp only [AP]; rfl
          refine pure_ (i := 11) (N := some 91) (v := ?_) (a' := ?_) #[true, true, true, true, true, true, true, true, true, false, false, true, false, false, false, false, false, false, false, false, false, false, false, false, false, false, false, false, false, false, false, false, false, false, false, false] rfl rfl (any_of HT_.out (by kernel_rfl)) (fun _ _ _ h => h) (Or.inl ⟨by rfl, ?_⟩) ?_ ?_
          rotate_left
          ·
           intro w'; go_simp; with_reducible rfl
          rotate_left
          ·
           simp only [AP]; rfl
          refine pure_ (i := 13) (N := some 93) (v := ?_) (a' := ?_) #[true, true, true, true, true, true, true, true, true, false, false, true, false, true, false, false, false, false, false, false, false, false, false, false, false, false, false, false, false, false, false, false, false, false, false, false] rfl rfl (any_of HT_.out (by kernel_rfl)) (fun _ _ _ h => h) (Or.inl ⟨by rfl, ?_⟩) ?_ ?_
          rotate_left
          ·
           intro w'; go_simp; with_reducible rfl
          rotate_left
          ·
           simp only [AP]; rfl
          refine pure_ (i := 16) (N := some 96) (v := ?_) (a' := ?_) #[true, true, true, true, true, true, true, true, true, false, false, true, false, true, false, false, true, false, false, false, false, false, false, false, false, false, false, false, false, false, false, false, false, false, false, false] rfl rfl (any_of HT_.out (by kernel_rfl)) (fun _ _ _ h => h) (Or.inl ⟨by rfl, ?_⟩) ?_ ?_
          rotate_left
          ·
           intro w'; go_simp; with_reducible rfl
          rotate_left
          ·
           simp only [AP]; rfl
          refine take_ (i := 9) (N := some 89) (v := ?_) (a' := ?_) #[true, true, true, true, true, true, true, true, true, true, false, true, false, true, false, false, true, false, false, false, false, false, false, false, false, false, false, false, false, false, false, false, false, false, false, false] rfl rfl (take_ofW HT_.out HW_.out (by kernel_rfl)) (fun _ _ _ h => h) (Or.inl ⟨by rfl, ?_⟩) hHeld ?_ ?_
          rotate_left
          ·
           rintro w' ⟨s0, s1, s2, s3, s4, s5, s6⟩
           go_simp; with_reducible rfl
          rotate_left
          ·
           simp only [AP]; rfl
          refine take_ (i := 12) (N := some 92) (v := ?_) (a' := ?_) #[true, true, true, true, true, true, true, true, true, true, false, true, true, true, false, false, true, false, false, false, false, false, false, false, false, false, false, false, false, false, false, false, false, false, false, false] rfl rfl (take_ofW HT_.out HW_.out (by kernel_rfl)) (fun _ _ _ h => h) (Or.inl ⟨by rfl, ?_⟩) hHeld ?_ ?_
          rotate_left
          ·
           rintro w' ⟨s0, s1, s2, s3, s4, s5, s6⟩
           go_simp; with_reducible rfl
          rotate_left
          ·
           simp only [AP]; rfl
          refine take_ (i := 14) (N := some 94) (v := ?_) (a' := ?_) #[true, true, true, true, true, true, true, true, true, true, false, true, true, true, true, false, true, false, false, false, false, false, false, false, false, false, false, false, false, false, false, false, false, false, false, false] rfl rfl (take_ofW HT_.out HW_.out (by kernel_rfl)) (fun _ _ _ h => h) (Or.inl ⟨by rfl, ?_⟩) hHeld ?_ ?_
          rotate_left
          ·
           rintro w' ⟨s0, s1, s2, s3, s4, s5, s6⟩
           go_simp; with_reducible rfl
          rotate_left
          ·
           simp only [AP]; rfl
          refine pure_ (i := 15) (N := some 95) (v := ?_) (a' := ?_) #[true, true, true, true, true, true, true, true, true, true, false, true, true, true, true, true, true, false, false, false, false, false, false, false, false, false, false, false, false, false, false, false, false, false, false, false] rfl rfl (any_of HT_.out (by kernel_rfl)) (fun _ _ _ h => h) (Or.inl ⟨by rfl, ?_⟩) ?_ ?_
          rotate_left
          ·
           intro w'; go_simp; with_reducible rfl
          rotate_left
          ·
           simp only [AP]; rfl
          refine pure_ (i := 17) (N := some 97) (v := ?_) (a' := ?_) #[true, true, true, true, true, true, true, true, true, true, false, true, true, true, true, true, true, true, false, false, false, false, false, false, false, false, false, false, false, false, false, false, false, false, false, false] rfl rfl (any_of HT_.out (by kernel_rfl)) (fun _ _ _ h => h) (Or.inl ⟨by rfl, ?_⟩) ?_ ?_
          rotate_left
          ·
           intro w'; go_simp; with_reducible rfl
          rotate_left
          ·
           simp only [AP]; rfl
          refine one_ (i := 10) (N := some 90) #[true, true, true, true, true, true, true, true, true, true, true, true, true, true, true, true, true, true, false, false, false, false, false, false, false, false, false, false, false, false, false, false, false, false, false, false] rfl rfl (one_of HT_.out (by kernel_rfl)) (by decide) (fun K hK => ?_)
          refine goes_ Try.func20 (by kernel_rfl) rfl #[.agg #[.slice Ao45 t235.length co45]] (by rfl) rfl rfl (by (try simp only [List.map_toArray, List.map_cons, List.map_nil]); first | done | rfl | (simp only [List.length_drop, List.length_take]; rfl)) ?_
          with_reducible refine (refcount_Counts_Used.calls _ _ t235 t240 _ ?side1 ?side2 A64.out).mono ?_
          (case side1 => repeat (first | exact (Kd.R_reads' HO_230000.out).2.2 | (with_reducible refine Kd.C_alloc ?_ _) | (with_reducible refine Kd.C_drewN ?_ _) | (with_reducible refine Kd.C_drew ?_)))
          (case side2 => exact (Kd.R_reads' HO_230000.out).2.1)
          rintro e w76 ⟨rfl, hb⟩
          refine ⟨_, rfl, ?_⟩
          have n0_ := Aside0.mk (Kd.R_below (rU HO_230000.out) hb)
          have n1_ := Aside0.mk (blk_below (g := gb222) (o := .cells #[.int .u16 a0_0, .int .u16 a0_1] 52 (0, 0)) (kU BK222.out) hb)
          have n2_ := Aside0.mk (blk_below (g := gb223) (o := .cells #[.int .u16 a1_0, .int .u16 a1_1] 52 (0, 0)) (kU BK223.out) hb)
          have n3_ := Aside0.mk (blk_below (g := gb229) (o := .cells #[.slice Ao45 t235.length co45] 27 (0, 0)) (kU BK229.out) hb)
          have n4_ := Aside0.mk (blk_below (g := gb230) (o := .cells #[.int .i64 0, .int .i64 (wrap64 (1 + (Int.tmod (wrap64 (a0_1)) (wrap64 (65536 - (wrap64 (a0_0))))))), .int .i64 (wrap64 (a0_0))] 41 (0, 0)) (kU BK230.out) hb)
          have n5_ := Aside0.mk (blk_below (g := gb231) (o := .cells #[.int .i64 0, .int .i64 (wrap64 (1 + (Int.tmod (wrap64 (a1_1)) (wrap64 (65536 - (wrap64 (a1_0))))))), .int .i64 (wrap64 (a1_0))] 41 (0, 0)) (kU BK231.out) hb)
          have n6_ := Aside0.mk (below_step (by repeat (first | (with_reducible first | exact HB.out | apply below_alloc | apply pw_below_drewN | apply below_drew1 | refine below_set ?_ GE222.out | refine below_set ?_ GE223.out | refine below_set ?_ GE229.out | refine below_set ?_ GE230.out | refine below_set ?_ GE231.out) | exact HB.out)) hb)
          clear HO_230000
          clear BK222
          clear BK223
          clear BK229
          clear BK230
          clear BK231
          clear HB
          have HO_230000 := n0_
          have BK222 := n1_
          have BK223 := n2_
          have BK229 := n3_
          have BK230 := n4_
          have BK231 := n5_
          have HB := n6_
          clear n0_ n1_ n2_ n3_ n4_ n5_ n6_
          (try clear hb)
          (try clear hb2)
          (try clear hk)
          (try clear hi)
          refine hK.out _ _ ⟨(blk_cell BK229.out 0).trans rfl, (blk_cell BK230.out 0).trans rfl, (blk_cell BK230.out 1).trans rfl, (blk_cell BK230.out 2).trans rfl, (blk_cell BK231.out 0).trans rfl, (blk_cell BK231.out 1).trans rfl, (blk_cell BK231.out 2).trans rfl⟩ (fun hHeld => ?_)
          clear hK K
          refine norm_ (a' := ?_) ?_ ?_
          rotate_left
          ·
           show Act.put _ (some 90) _ = _
           simp only [AP]; rfl
          refine pure_ (i := 18) (N := some 98) (v := ?_) (a' := ?_) #[true, true, true, true, true, true, true, true, true, true, true, true, true, true, true, true, true, true, true, false, false, false, false, false, false, false, false, false, false, false, false, false, false, false, false, false] rfl rfl (any_of HT_.out (by kernel_rfl)) (fun _ _ _ h => h) (Or.inl ⟨by rfl, ?_⟩) ?_ ?_
          rotate_left
          ·
           intro w'; go_simp; with_reducible rfl
          rotate_left
          ·
           simp only [AP]; rfl
          refine pure_ (i := 19) (N := some 99) (v := ?_) (a' := ?_) #[true, true, true, true, true, true, true, true, true, true, true, true, true, true, true, true, true, true, true, true, false, false, false, false, false, false, false, false, false, false, false, false, false, false, false, false] rfl rfl (any_of HT_.out (by kernel_rfl)) (fun _ _ _ h => h) (Or.inl ⟨by rfl, ?_⟩) ?_ ?_
          rotate_left
          ·
           intro w'; go_simp; with_reducible rfl
          rotate_left
          ·
           simp only [AP]; rfl
          refine pure_ (i := 20) (N := some 100) (v := ?_) (a' := ?_) #[true, true, true, true, true, true, true, true, true, true, true, true, true, true, true, true, true, true, true, true, true, false, false, false, false, false, false, false, false, false, false, false, false, false, false, false] rfl rfl (any_of HT_.out (by kernel_rfl)) (fun _ _ _ h => h) (Or.inl ⟨by rfl, ?_⟩) ?_ ?_
          rotate_left
          ·
           intro w'; go_simp; with_reducible rfl
          rotate_left
          ·
           simp only [AP]; rfl
          refine pure_ (i := 21) (N := some 101) (v := undef) (a' := ?_) #[true, true, true, true, true, true, true, true, true, true, true, true, true, true, true, true, true, true, true, true, true, true, false, false, false, false, false, false, false, false, false, false, false, false, false, false] rfl rfl (any_of HT_.out (by kernel_rfl)) (fun _ _ _ h => h) (Or.inr ⟨by rfl, rfl⟩) ?_ ?_
          rotate_left
          ·
           simp only [AP]; rfl
          refine pure_ (i := 22) (N := some 102) (v := undef) (a' := ?_) #[true, true, true, true, true, true, true, true, true, true, true, true, true, true, true, true, true, true, true, true, true, true, true, false, false, false, false, false, false, false, false, false, false, false, false, false] rfl rfl (any_of HT_.out (by kernel_rfl)) (fun _ _ _ h => h) (Or.inr ⟨by rfl, rfl⟩) ?_ ?_
          rotate_left
          ·
           simp only [AP]; rfl
          refine pure_ (i := 23) (N := some 103) (v := undef) (a' := ?_) #[true, true, true, true, true, true, true, true, true, true, true, true, true, true, true, true, true, true, true, true, true, true, true, true, false, false, false, false, false, false, false, false, false, false, false, false] rfl rfl (any_of HT_.out (by kernel_rfl)) (fun _ _ _ h => h) (Or.inr ⟨by rfl, rfl⟩) ?_ ?_
          rotate_left
          ·
           simp only [AP]; rfl
          refine pure_ (i := 24) (N := some 104) (v := undef) (a' := ?_) #[true, true, true, true, true, true, true, true, true, true, true, true, true, true, true, true, true, true, true, true, true, true, true, true, true, false, false, false, false, false, false, false, false, false, false, false] rfl rfl (any_of HT_.out (by kernel_rfl)) (fun _ _ _ h => h) (Or.inr ⟨by rfl, rfl⟩) ?_ ?_
          rotate_left
          ·
           simp only [AP]; rfl
          refine pure_ (i := 25) (N := some 105) (v := undef) (a' := ?_) #[true, true, true, true, true, true, true, true, true, true, true, true, true, true, true, true, true, true, true, true, true, true, true, true, true, true, false, false, false, false, false, false, false, false, false, false] rfl rfl (any_of HT_.out (by kernel_rfl)) (fun _ _ _ h => h) (Or.inr ⟨by rfl, rfl⟩) ?_ ?_
          rotate_left
          ·
           simp only [AP]; rfl
          refine pure_ (i := 26) (N := some 106) (v := undef) (a' := ?_) #[true, true, true, true, true, true, true, true, true, true, true, true, true, true, true, true, true, true, true, true, true, true, true, true, true, true, true, false, false, false, false, false, false, false, false, false] rfl rfl (any_of HT_.out (by kernel_rfl)) (fun _ _ _ h => h) (Or.inr ⟨by rfl, rfl⟩) ?_ ?_
          rotate_left
          ·
           simp only [AP]; rfl
          refine pure_ (i := 27) (N := some 107) (v := undef) (a' := ?_) #[true, true, true, true, true, true, true, true, true, true, true, true, true, true, true, true, true, true, true, true, true, true, true, true, true, true, true, true, false, false, false, false, false, false, false, false] rfl rfl (any_of HT_.out (by kernel_rfl)) (fun _ _ _ h => h) (Or.inr ⟨by rfl, rfl⟩) ?_ ?_
          rotate_left
          ·
           simp only [AP]; rfl
          refine pure_ (i := 28) (N := some 108) (v := undef) (a' := ?_) #[true, true, true, true, true, true, true, true, true, true, true, true, true, true, true, true, true, true, true, true, true, true, true, true, true, true, true, true, true, false, false, false, false, false, false, false] rfl rfl (any_of HT_.out (by kernel_rfl)) (fun _ _ _ h => h) (Or.inr ⟨by rfl, rfl⟩) ?_ ?_
          rotate_left
          ·
           simp only [AP]; rfl
          refine pure_ (i := 29) (N := some 109) (v := undef) (a' := ?_) #[true, true, true, true, true, true, true, true, true, true, true, true, true, true, true, true, true, true, true, true, true, true, true, true, true, true, true, true, true, true, false, false, false, false, false, false] rfl rfl (any_of HT_.out (by kernel_rfl)) (fun _ _ _ h => h) (Or.inr ⟨by rfl, rfl⟩) ?_ ?_
          rotate_left
          ·
           simp only [AP]; rfl
          refine pure_ (i := 30) (N := some 110) (v := undef) (a' := ?_) #[true, true, true, true, true, true, true, true, true, true, true, true, true, true, true, true, true, true, true, true, true, true, true, true, true, true, true, true, true, true, true, false, false, false, false, false] rfl rfl (any_of HT_.out (by kernel_rfl)) (fun _ _ _ h => h) (Or.inr ⟨by rfl, rfl⟩) ?_ ?_
          rotate_left
          ·
           simp only [AP]; rfl
          refine pure_ (i := 31) (N := some 111) (v := undef) (a' := ?_) #[true, true, true, true, true, true, true, true, true, true, true, true, true, true, true, true, true, true, true, true, true, true, true, true, true, true, true, true, true, true, true, true, false, false, false, false] rfl rfl (any_of HT_.out (by kernel_rfl)) (fun _ _ _ h => h) (Or.inr ⟨by rfl, rfl⟩) ?_ ?_
          rotate_left
          ·
           simp only [AP]; rfl
          refine pure_ (i := 32) (N := some 112) (v := undef) (a' := ?_) #[true, true, true, true, true, true, true, true, true, true, true, true, true, true, true, true, true, true, true, true, true, true, true, true, true, true, true, true, true, true, true, true, true, false, false, false] rfl rfl (any_of HT_.out (by kernel_rfl)) (fun _ _ _ h => h) (Or.inr ⟨by rfl, rfl⟩) ?_ ?_
          rotate_left
          ·
           simp only [AP]; rfl
          refine pure_ (i := 33) (N := some 113) (v := undef) (a' := ?_) #[true, true, true, true, true, true, true, true, true, true, true, true, true, true, true, true, true, true, true, true, true, true, true, true, true, true, true, true, true, true, true, true, true, true, false, false] rfl rfl (any_of HT_.out (by kernel_rfl)) (fun _ _ _ h => h) (Or.inr ⟨by rfl, rfl⟩) ?_ ?_
          rotate_left
          ·
           simp only [AP]; rfl
          refine pure_ (i := 34) (N := some 114) (v := undef) (a' := ?_) #[true, true, true, true, true, true, true, true, true, true, true, true, true, true, true, true, true, true, true, true, true, true, true, true, true, true, true, true, true, true, true, true, true, true, true, false] rfl rfl (any_of HT_.out (by kernel_rfl)) (fun _ _ _ h => h) (Or.inr ⟨by rfl, rfl⟩) ?_ ?_
          rotate_left
          ·
           simp only [AP]; rfl
          refine pure_ (i := 35) (N := some 115) (v := ?_) (a' := ?_) #[true, true, true, true, true, true, true, true, true, true, true, true, true, true, true, true, true, true, true, true, true, true, true, true, true, true, true, true, true, true, true, true, true, true, true, true] rfl rfl (any_of HT_.out (by kernel_rfl)) (fun _ _ _ h => h) (Or.inl ⟨by rfl, ?_⟩) ?_ ?_
          rotate_left
          ·
           intro w'; go_simp; with_reducible rfl
          rotate_left
          ·
           simp only [AP]; rfl
          refine done_ (done_of HT_.out (by kernel_rfl)) ?_
          try go_wp2
          go_meet
          case rel => exact ⟨_, (true), (by first | rfl | (simp; done) | (simp [*]; done)), H', ⟨by have := HJ8.out; first | omega | exact Nat.le_refl _⟩, ⟨rU HO_230000.out⟩, ⟨by (with_reducible repeat (first | refine blk_drewN ?_ _ | refine blk_drew ?_ | refine blk_alloc ?_ _)); exact BK222.out⟩, ⟨by (with_reducible repeat (first | refine blk_drewN ?_ _ | refine blk_drew ?_ | refine blk_alloc ?_ _)); exact BK223.out⟩, ⟨by (with_reducible repeat (first | refine blk_drewN ?_ _ | refine blk_drew ?_ | refine blk_alloc ?_ _)); exact BK229.out⟩, ⟨by (with_reducible repeat (first | refine blk_drewN ?_ _ | refine blk_drew ?_ | refine blk_alloc ?_ _)); exact BK230.out⟩, ⟨by (with_reducible repeat (first | refine blk_drewN ?_ _ | refine blk_drew ?_ | refine blk_alloc ?_ _)); exact BK231.out⟩, ⟨by repeat (first | (with_reducible first | exact HB.out | apply below_alloc | apply pw_below_drewN | apply below_drew1 | refine below_set ?_ GE222.out | refine below_set ?_ GE223.out | refine below_set ?_ GE229.out | refine below_set ?_ GE230.out | refine below_set ?_ GE231.out) | exact HB.out)⟩⟩
        ·
         rw [if_neg c63] at H
         have c63b0 : (t239 == (wrap64 ((wrap64 (1 + (Int.tmod (wrap64 (a0_1)) (wrap64 (65536 - (wrap64 (a0_0))))))) + (wrap64 (1 + (Int.tmod (wrap64 (a1_1)) (wrap64 (65536 - (wrap64 (a1_0)))))))))) = false := beq_eq_false_iff_ne.mpr c63
         have c63b1 : (t239 != (wrap64 ((wrap64 (1 + (Int.tmod (wrap64 (a0_1)) (wrap64 (65536 - (wrap64 (a0_0))))))) + (wrap64 (1 + (Int.tmod (wrap64 (a1_1)) (wrap64 (65536 - (wrap64 (a1_0)))))))))) = true := bne_iff_ne.mpr c63
         (first | rw [c63b0] | (simp only [i64_w, i32_w]; rw [c63b0]) | skip)
         have H' := Aside0.mk H
         clear H
         try go_wp2
         have n0_ := Aside0.mk (Kd.R_drew HO_230000.out)
         have n1_ := Aside0.mk (blk_drew BK222.out)
         have n2_ := Aside0.mk (blk_drew BK223.out)
         have n3_ := Aside0.mk (blk_drew BK229.out)
         have n4_ := Aside0.mk (blk_drew BK230.out)
         have n5_ := Aside0.mk (blk_drew BK231.out)
         have n6_ := Aside0.mk (below_drew1 HB.out)
         clear HO_230000
         clear BK222
         clear BK223
         clear BK229
         clear BK230
         clear BK231
         clear HB
         have HO_230000 := n0_
         have BK222 := n1_
         have BK223 := n2_
         have BK229 := n3_
         have BK230 := n4_
         have BK231 := n5_
         have HB := n6_
         clear n0_ n1_ n2_ n3_ n4_ n5_ n6_
         refine start_ (n := 36) (S := fun w' => w'.cell? ⟨gb229, 0, none⟩ = some (.slice Ao45 t235.length co45) ∧ w'.cell? ⟨gb230, 0, none⟩ = some (.int .i64 0) ∧ w'.cell? ⟨gb230, 1, none⟩ = some (.int .i64 (wrap64 (1 + (Int.tmod (wrap64 (a0_1)) (wrap64 (65536 - (wrap64 (a0_0)))))))) ∧ w'.cell? ⟨gb230, 2, none⟩ = some (.int .i64 (wrap64 (a0_0))) ∧ w'.cell? ⟨gb231, 0, none⟩ = some (.int .i64 0) ∧ w'.cell? ⟨gb231, 1, none⟩ = some (.int .i64 (wrap64 (1 + (Int.tmod (wrap64 (a1_1)) (wrap64 (65536 - (wrap64 (a1_0)))))))) ∧ w'.cell? ⟨gb231, 2, none⟩ = some (.int .i64 (wrap64 (a1_0)))) (ds := []) #[false, false, false, false, false, false, false, false, false, false, false, false, false, false, false, false, false, false, false, false, false, false, false, false, false, false, false, false, false, false, false, false, false, false, false, false] (by kernel_rfl) rfl rfl ⟨(blk_cell BK229.out 0).trans rfl, (blk_cell BK230.out 0).trans rfl, (blk_cell BK230.out 1).trans rfl, (blk_cell BK230.out 2).trans rfl, (blk_cell BK231.out 0).trans rfl, (blk_cell BK231.out 1).trans rfl, (blk_cell BK231.out 2).trans rfl⟩ (fun hHeld => ?_); refine with_tabW tegulalaw34_RefcountLarge.tab10 tegulalaw34_RefcountLarge.bits10 (fun HT_ HW_ => ?_)
         generalize wc.drew = w77 at HO_230000 BK222 BK223 BK229 BK230 BK231 HB hHeld ⊢
         refine pure_ (i := 2) (N := some 82) (v := ?_) (a' := ?_) #[false, false, true, false, false, false, false, false, false, false, false, false, false, false, false, false, false, false, false, false, false, false, false, false, false, false, false, false, false, false, false, false, false, false, false, false] rfl rfl (any_of HT_.out (by kernel_rfl)) (fun _ _ _ h => h) (Or.inl ⟨by rfl, ?_⟩) ?_ ?_
         rotate_left
         ·
          intro w'; go_simp; with_reducible rfl
         rotate_left
         ·
          simp only [AP]; rfl
         refine pure_ (i := 4) (N := some 84) (v := ?_) (a' := ?_) #[false, false, true, false, true, false, false, false, false, false, false, false, false, false, false, false, false, false, false, false, false, false, false, false, false, false, false, false, false, false, false, false, false, false, false, false] rfl rfl (any_of HT_.out (by kernel_rfl)) (fun _ _ _ h => h) (Or.inl ⟨by rfl, ?_⟩) ?_ ?_
         rotate_left
         ·
          intro w'; go_simp; with_reducible rfl
         rotate_left
         ·
          simp only [AP]; rfl
         refine take_ (i := 0) (N := some 80) (v := ?_) (a' := ?_) #[true, false, true, false, true, false, false, false, false, false, false, false, false, false, false, false, false, false, false, false, false, false, false, false, false, false, false, false, false, false, false, false, false, false, false, false] rfl rfl (take_ofW HT_.out HW_.out (by kernel_rfl)) (fun _ _ _ h => h) (Or.inl ⟨by rfl, ?_⟩) hHeld ?_ ?_
         rotate_left
         ·
          rintro w' ⟨s0, s1, s2, s3, s4, s5, s6⟩
          go_simp; with_reducible rfl
         rotate_left
         ·
          simp only [AP]; rfl
         refine take_ (i := 3) (N := some 83) (v := ?_) (a' := ?_) #[true, false, true, true, true, false, false, false, false, false, false, false, false, false, false, false, false, false, false, false, false, false, false, false, false, false, false, false, false, false, false, false, false, false, false, false] rfl rfl (take_ofW HT_.out HW_.out (by kernel_rfl)) (fun _ _ _ h => h) (Or.inl ⟨by rfl, ?_⟩) hHeld ?_ ?_
         rotate_left
         ·
          rintro w' ⟨s0, s1, s2, s3, s4, s5, s6⟩
          go_simp; with_reducible rfl
         rotate_left
         ·
          simp only [AP]; rfl
         refine take_ (i := 5) (N := some 85) (v := ?_) (a' := ?_) #[true, false, true, true, true, true, false, false, false, false, false, false, false, false, false, false, false, false, false, false, false, false, false, false, false, false, false, false, false, false, false, false, false, false, false, false] rfl rfl (take_ofW HT_.out HW_.out (by kernel_rfl)) (fun _ _ _ h => h) (Or.inl ⟨by rfl, ?_⟩) hHeld ?_ ?_
         rotate_left
         ·
          rintro w' ⟨s0, s1, s2, s3, s4, s5, s6⟩
          go_simp; with_reducible rfl
         rotate_left
         ·
          simp only [AP]; rfl
         refine pure_ (i := 6) (N := some 86) (v := ?_) (a' := ?_) #[true, false, true, true, true, true, true, false, false, false, false, false, false, false, false, false, false, false, false, false, false, false, false, false, false, false, false, false, false, false, false, false, false, false, false, false] rfl rfl (any_of HT_.out (by kernel_rfl)) (fun _ _ _ h => h) (Or.inl ⟨by rfl, ?_⟩) ?_ ?_
         rotate_left
         ·
          intro w'; go_simp; with_reducible rfl
         rotate_left
         ·
          simp only [AP]; rfl
         refine one_ (i := 1) (N := some 81) #[true, true, true, true, true, true, true, false, false, false, false, false, false, false, false, false, false, false, false, false, false, false, false, false, false, false, false, false, false, false, false, false, false, false, false, false] rfl rfl (one_of HT_.out (by kernel_rfl)) (by decide) (fun K hK => ?_)
         refine goes_ Try.func19 (by kernel_rfl) rfl #[.agg #[.slice Ao45 t235.length co45]] (by rfl) rfl rfl (by (try simp only [List.map_toArray, List.map_cons, List.map_nil]); first | done | rfl | (simp only [List.length_drop, List.length_take]; rfl)) ?_
         with_reducible refine (refcount_Counts_Total.calls _ _ t235 t239 _ ?side1 ?side2 A62.out).mono ?_
         (case side1 => repeat (first | exact (Kd.R_reads' HO_230000.out).2.2 | (with_reducible refine Kd.C_alloc ?_ _) | (with_reducible refine Kd.C_drewN ?_ _) | (with_reducible refine Kd.C_drew ?_)))
         (case side2 => exact (Kd.R_reads' HO_230000.out).2.1)
         rintro e w78 ⟨rfl, hb⟩
         refine ⟨_, rfl, ?_⟩
         have n0_ := Aside0.mk (Kd.R_below (rU HO_230000.out) hb)
         have n1_ := Aside0.mk (blk_below (g := gb222) (o := .cells #[.int .u16 a0_0, .int .u16 a0_1] 52 (0, 0)) (kU BK222.out) hb)
         have n2_ := Aside0.mk (blk_below (g := gb223) (o := .cells #[.int .u16 a1_0, .int .u16 a1_1] 52 (0, 0)) (kU BK223.out) hb)
         have n3_ := Aside0.mk (blk_below (g := gb229) (o := .cells #[.slice Ao45 t235.length co45] 27 (0, 0)) (kU BK229.out) hb)
         have n4_ := Aside0.mk (blk_below (g := gb230) (o := .cells #[.int .i64 0, .int .i64 (wrap64 (1 + (Int.tmod (wrap64 (a0_1)) (wrap64 (65536 - (wrap64 (a0_0))))))), .int .i64 (wrap64 (a0_0))] 41 (0, 0)) (kU BK230.out) hb)
         have n5_ := Aside0.mk (blk_below (g := gb231) (o := .cells #[.int .i64 0, .int .i64 (wrap64 (1 + (Int.tmod (wrap64 (a1_1)) (wrap64 (65536 - (wrap64 (a1_0))))))), .int .i64 (wrap64 (a1_0))] 41 (0, 0)) (kU BK231.out) hb)
         have n6_ := Aside0.mk (below_step (by repeat (first | (with_reducible first | exact HB.out | apply below_alloc | apply pw_below_drewN | apply below_drew1 | refine below_set ?_ GE222.out | refine below_set ?_ GE223.out | refine below_set ?_ GE229.out | refine below_set ?_ GE230.out | refine below_set ?_ GE231.out) | exact HB.out)) hb)
         clear HO_230000
         clear BK222
         clear BK223
         clear BK229
         clear BK230
         clear BK231
         clear HB
         have HO_230000 := n0_
         have BK222 := n1_
         have BK223 := n2_
         have BK229 := n3_
         have BK230 := n4_
         have BK231 := n5_
         have HB := n6_
         clear n0_ n1_ n2_ n3_ n4_ n5_ n6_
         (try clear hb)
         (try clear hb2)
         (try clear hk)
         (try clear hi)
         refine hK.out _ _ ⟨(blk_cell BK229.out 0).trans rfl, (blk_cell BK230.out 0).trans rfl, (blk_cell BK230.out 1).trans rfl, (blk_cell BK230.out 2).trans rfl, (blk_cell BK231.out 0).trans rfl, (blk_cell BK231.out 1).trans rfl, (blk_cell BK231.out 2).trans rfl⟩ (fun hHeld => ?_)
         clear hK K
         refine norm_ (a' := ?_) ?_ ?_
         rotate_left
         ·
          show Act.put _ (some 81) _ = _
          simp only [AP]; rfl
         refine pure_ (i := 7) (N := some 87) (v := ?_) (a' := ?_) #[true, true, true, true, true, true, true, true, false, false, false, false, false, false, false, false, false, false, false, false, false, false, false, false, false, false, false, false, false, false, false, false, false, false, false, false] rfl rfl (any_of HT_.out (by kernel_rfl)) (fun _ _ _ h => h) (Or.inl ⟨by rfl, ?_⟩) ?_ ?_
         rotate_left
         ·
          intro w'; go_simp; with_reducible rfl
         rotate_left
         ·
          simp only [AP]; rfl
         refine pure_ (i := 8) (N := some 88) (v := ?_) (a' := ?_) #[true, true, true, true, true, true, true, true, true, false, false, false, false, false, false, false, false, false, false, false, false, false, false, false, false, false, false, false, false, false, false, false, false, false, false, false] rfl rfl (any_of HT_.out (by kernel_rfl)) (fun _ _ _ h => h) (Or.inl ⟨by rfl, ?_⟩) ?_ ?_
         rotate_left
         ·
          intro w'; go_simp; with_reducible rfl
         rotate_left
         ·
          simp only [AP]; rfl
         refine pure_ (i := 9) (N := some 89) (v := undef) (a' := ?_) #[true, true, true, true, true, true, true, true, true, true, false, false, false, false, false, false, false, false, false, false, false, false, false, false, false, false, false, false, false, false, false, false, false, false, false, false] rfl rfl (any_of HT_.out (by kernel_rfl)) (fun _ _ _ h => h) (Or.inr ⟨by rfl, rfl⟩) ?_ ?_
         rotate_left
         ·
          simp only [AP]; rfl
         refine pure_ (i := 10) (N := some 90) (v := undef) (a' := ?_) #[true, true, true, true, true, true, true, true, true, true, true, false, false, false, false, false, false, false, false, false, false, false, false, false, false, false, false, false, false, false, false, false, false, false, false, false] rfl rfl (any_of HT_.out (by kernel_rfl)) (fun _ _ _ h => h) (Or.inr ⟨by rfl, rfl⟩) ?_ ?_
         rotate_left
         ·
          simp only [AP]; rfl
         refine pure_ (i := 11) (N := some 91) (v := undef) (a' := ?_) #[true, true, true, true, true, true, true, true, true, true, true, true, false, false, false, false, false, false, false, false, false, false, false, false, false, false, false, false, false, false, false, false, false, false, false, false] rfl rfl (any_of HT_.out (by kernel_rfl)) (fun _ _ _ h => h) (Or.inr ⟨by rfl, rfl⟩) ?_ ?_
         rotate_left
         ·
          simp only [AP]; rfl
         refine pure_ (i := 12) (N := some 92) (v := undef) (a' := ?_) #[true, true, true, true, true, true, true, true, true, true, true, true, true, false, false, false, false, false, false, false, false, false, false, false, false, false, false, false, false, false, false, false, false, false, false, false] rfl rfl (any_of HT_.out (by kernel_rfl)) (fun _ _ _ h => h) (Or.inr ⟨by rfl, rfl⟩) ?_ ?_
         rotate_left
         ·
          simp only [AP]; rfl
         refine pure_ (i := 13) (N := some 93) (v := undef) (a' := ?_) #[true, true, true, true, true, true, true, true, true, true, true, true, true, true, false, false, false, false, false, false, false, false, false, false, false, false, false, false, false, false, false, false, false, false, false, false] rfl rfl (any_of HT_.out (by kernel_rfl)) (fun _ _ _ h => h) (Or.inr ⟨by rfl, rfl⟩) ?_ ?_
         rotate_left
         ·
          simp only [AP]; rfl
         refine pure_ (i := 14) (N := some 94) (v := undef) (a' := ?_) #[true, true, true, true, true, true, true, true, true, true, true, true, true, true, true, false, false, false, false, false, false, false, false, false, false, false, false, false, false, false, false, false, false, false, false, false] rfl rfl (any_of HT_.out (by kernel_rfl)) (fun _ _ _ h => h) (Or.inr ⟨by rfl, rfl⟩) ?_ ?_
         rotate_left
         ·
          simp only [AP]; rfl
         refine pure_ (i := 15) (N := some 95) (v := undef) (a' := ?_) #[true, true, true, true, true, true, true, true, true, true, true, true, true, true, true, true, false, false, false, false, false, false, false, false, false, false, false, false, false, false, false, false, false, false, false, false] rfl rfl (any_of HT_.out (by kernel_rfl)) (fun _ _ _ h => h) (Or.inr ⟨by rfl, rfl⟩) ?_ ?_
         rotate_left
         ·
          simp only [AP]; rfl
         refine pure_ (i := 16) (N := some 96) (v := undef) (a' := ?_) #[true, true, true, true, true, true, true, true, true, true, true, true, true, true, true, true, true, false, false, false, false, false, false, false, false, false, false, false, false, false, false, false, false, false, false, false] rfl rfl (any_of HT_.out (by kernel_rfl)) (fun _ _ _ h => h) (Or.inr ⟨by rfl, rfl⟩) ?_ ?_
         rotate_left
         ·
          simp only [AP]; rfl
         refine pure_ (i := 17) (N := some 97) (v := undef) (a' := ?_) #[true, true, true, true, true, true, true, true, true, true, true, true, true, true, true, true, true, true, false, false, false, false, false, false, false, false, false, false, false, false, false, false, false, false, false, false] rfl rfl (any_of HT_.out (by kernel_rfl)) (fun _ _ _ h => h) (Or.inr ⟨by rfl, rfl⟩) ?_ ?_
         rotate_left
         ·
          simp only [AP]; rfl
         refine pure_ (i := 18) (N := some 98) (v := undef) (a' := ?_) #[true, true, true, true, true, true, true, true, true, true, true, true, true, true, true, true, true, true, true, false, false, false, false, false, false, false, false, false, false, false, false, false, false, false, false, false] rfl rfl (any_of HT_.out (by kernel_rfl)) (fun _ _ _ h => h) (Or.inr ⟨by rfl, rfl⟩) ?_ ?_
         rotate_left
         ·
          simp only [AP]; rfl
         refine pure_ (i := 19) (N := some 99) (v := ?_) (a' := ?_) #[true, true, true, true, true, true, true, true, true, true, true, true, true, true, true, true, true, true, true, true, false, false, false, false, false, false, false, false, false, false, false, false, false, false, false, false] rfl rfl (any_of HT_.out (by kernel_rfl)) (fun _ _ _ h => h) (Or.inl ⟨by rfl, ?_⟩) ?_ ?_
         rotate_left
         ·
          intro w'; go_simp; with_reducible rfl
         rotate_left
         ·
          simp only [AP]; rfl
         refine pure_ (i := 20) (N := some 100) (v := ?_) (a' := ?_) #[true, true, true, true, true, true, true, true, true, true, true, true, true, true, true, true, true, true, true, true, true, false, false, false, false, false, false, false, false, false, false, false, false, false, false, false] rfl rfl (any_of HT_.out (by kernel_rfl)) (fun _ _ _ h => h) (Or.inl ⟨by rfl, ?_⟩) ?_ ?_
         rotate_left
         ·
          intro w'; go_simp; with_reducible rfl
         rotate_left
         ·
          simp only [AP]; rfl
         refine pure_ (i := 21) (N := some 101) (v := undef) (a' := ?_) #[true, true, true, true, true, true, true, true, true, true, true, true, true, true, true, true, true, true, true, true, true, true, false, false, false, false, false, false, false, false, false, false, false, false, false, false] rfl rfl (any_of HT_.out (by kernel_rfl)) (fun _ _ _ h => h) (Or.inr ⟨by rfl, rfl⟩) ?_ ?_
         rotate_left
         ·
          simp only [AP]; rfl
         refine pure_ (i := 22) (N := some 102) (v := undef) (a' := ?_) #[true, true, true, true, true, true, true, true, true, true, true, true, true, true, true, true, true, true, true, true, true, true, true, false, false, false, false, false, false, false, false, false, false, false, false, false] rfl rfl (any_of HT_.out (by kernel_rfl)) (fun _ _ _ h => h) (Or.inr ⟨by rfl, rfl⟩) ?_ ?_
         rotate_left
         ·
          simp only [AP]; rfl
         refine pure_ (i := 23) (N := some 103) (v := undef) (a' := ?_) #[true, true, true, true, true, true, true, true, true, true, true, true, true, true, true, true, true, true, true, true, true, true, true, true, false, false, false, false, false, false, false, false, false, false, false, false] rfl rfl (any_of HT_.out (by kernel_rfl)) (fun _ _ _ h => h) (Or.inr ⟨by rfl, rfl⟩) ?_ ?_
         rotate_left
         ·
          simp only [AP]; rfl
         refine pure_ (i := 24) (N := some 104) (v := undef) (a' := ?_) #[true, true, true, true, true, true, true, true, true, true, true, true, true, true, true, true, true, true, true, true, true, true, true, true, true, false, false, false, false, false, false, false, false, false, false, false] rfl rfl (any_of HT_.out (by kernel_rfl)) (fun _ _ _ h => h) (Or.inr ⟨by rfl, rfl⟩) ?_ ?_
         rotate_left
         ·
          simp only [AP]; rfl
         refine pure_ (i := 25) (N := some 105) (v := undef) (a' := ?_) #[true, true, true, true, true, true, true, true, true, true, true, true, true, true, true, true, true, true, true, true, true, true, true, true, true, true, false, false, false, false, false, false, false, false, false, false] rfl rfl (any_of HT_.out (by kernel_rfl)) (fun _ _ _ h => h) (Or.inr ⟨by rfl, rfl⟩) ?_ ?_
         rotate_left
         ·
          simp only [AP]; rfl
         refine pure_ (i := 26) (N := some 106) (v := undef) (a' := ?_) #[true, true, true, true, true, true, true, true, true, true, true, true, true, true, true, true, true, true, true, true, true, true, true, true, true, true, true, false, false, false, false, false, false, false, false, false] rfl rfl (any_of HT_.out (by kernel_rfl)) (fun _ _ _ h => h) (Or.inr ⟨by rfl, rfl⟩) ?_ ?_
         rotate_left
         ·
          simp only [AP]; rfl
         refine pure_ (i := 27) (N := some 107) (v := undef) (a' := ?_) #[true, true, true, true, true, true, true, true, true, true, true, true, true, true, true, true, true, true, true, true, true, true, true, true, true, true, true, true, false, false, false, false, false, false, false, false] rfl rfl (any_of HT_.out (by kernel_rfl)) (fun _ _ _ h => h) (Or.inr ⟨by rfl, rfl⟩) ?_ ?_
         rotate_left
         ·
          simp only [AP]; rfl
         refine pure_ (i := 28) (N := some 108) (v := undef) (a' := ?_) #[true, true, true, true, true, true, true, true, true, true, true, true, true, true, true, true, true, true, true, true, true, true, true, true, true, true, true, true, true, false, false, false, false, false, false, false] rfl rfl (any_of HT_.out (by kernel_rfl)) (fun _ _ _ h => h) (Or.inr ⟨by rfl, rfl⟩) ?_ ?_
         rotate_left
         ·
          simp only [AP]; rfl
         refine pure_ (i := 29) (N := some 109) (v := undef) (a' := ?_) #[true, true, true, true, true, true, true, true, true, true, true, true, true, true, true, true, true, true, true, true, true, true, true, true, true, true, true, true, true, true, false, false, false, false, false, false] rfl rfl (any_of HT_.out (by kernel_rfl)) (fun _ _ _ h => h) (Or.inr ⟨by rfl, rfl⟩) ?_ ?_
         rotate_left
         ·
          simp only [AP]; rfl
         refine pure_ (i := 30) (N := some 110) (v := undef) (a' := ?_) #[true, true, true, true, true, true, true, true, true, true, true, true, true, true, true, true, true, true, true, true, true, true, true, true, true, true, true, true, true, true, true, false, false, false, false, false] rfl rfl (any_of HT_.out (by kernel_rfl)) (fun _ _ _ h => h) (Or.inr ⟨by rfl, rfl⟩) ?_ ?_
         rotate_left
         ·
          simp only [AP]; rfl
         refine pure_ (i := 31) (N := some 111) (v := undef) (a' := ?_) #[true, true, true, true, true, true, true, true, true, true, true, true, true, true, true, true, true, true, true, true, true, true, true, true, true, true, true, true, true, true, true, true, false, false, false, false] rfl rfl (any_of HT_.out (by kernel_rfl)) (fun _ _ _ h => h) (Or.inr ⟨by rfl, rfl⟩) ?_ ?_
         rotate_left
         ·
          simp only [AP]; rfl
         refine pure_ (i := 32) (N := some 112) (v := undef) (a' := ?_) #[true, true, true, true, true, true, true, true, true, true, true, true, true, true, true, true, true, true, true, true, true, true, true, true, true, true, true, true, true, true, true, true, true, false, false, false] rfl rfl (any_of HT_.out (by kernel_rfl)) (fun _ _ _ h => h) (Or.inr ⟨by rfl, rfl⟩) ?_ ?_
         rotate_left
         ·
          simp only [AP]; rfl
         refine pure_ (i := 33) (N := some 113) (v := undef) (a' := ?_) #[true, true, true, true, true, true, true, true, true, true, true, true, true, true, true, true, true, true, true, true, true, true, true, true, true, true, true, true, true, true, true, true, true, true, false, false] rfl rfl (any_of HT_.out (by kernel_rfl)) (fun _ _ _ h => h) (Or.inr ⟨by rfl, rfl⟩) ?_ ?_
         rotate_left
         ·
          simp only [AP]; rfl
         refine pure_ (i := 34) (N := some 114) (v := undef) (a' := ?_) #[true, true, true, true, true, true, true, true, true, true, true, true, true, true, true, true, true, true, true, true, true, true, true, true, true, true, true, true, true, true, true, true, true, true, true, false] rfl rfl (any_of HT_.out (by kernel_rfl)) (fun _ _ _ h => h) (Or.inr ⟨by rfl, rfl⟩) ?_ ?_
         rotate_left
         ·
          simp only [AP]; rfl
         refine pure_ (i := 35) (N := some 115) (v := ?_) (a' := ?_) #[true, true, true, true, true, true, true, true, true, true, true, true, true, true, true, true, true, true, true, true, true, true, true, true, true, true, true, true, true, true, true, true, true, true, true, true] rfl rfl (any_of HT_.out (by kernel_rfl)) (fun _ _ _ h => h) (Or.inl ⟨by rfl, ?_⟩) ?_ ?_
         rotate_left
         ·
          intro w'; go_simp; with_reducible rfl
         rotate_left
         ·
          simp only [AP]; rfl
         refine done_ (done_of HT_.out (by kernel_rfl)) ?_
         try go_wp2
         go_meet
         case rel => exact ⟨_, (true), (by first | rfl | (simp; done) | (simp [*]; done)), H', ⟨by have := HJ8.out; first | omega | exact Nat.le_refl _⟩, ⟨rU HO_230000.out⟩, ⟨by (with_reducible repeat (first | refine blk_drewN ?_ _ | refine blk_drew ?_ | refine blk_alloc ?_ _)); exact BK222.out⟩, ⟨by (with_reducible repeat (first | refine blk_drewN ?_ _ | refine blk_drew ?_ | refine blk_alloc ?_ _)); exact BK223.out⟩, ⟨by (with_reducible repeat (first | refine blk_drewN ?_ _ | refine blk_drew ?_ | refine blk_alloc ?_ _)); exact BK229.out⟩, ⟨by (with_reducible repeat (first | refine blk_drewN ?_ _ | refine blk_drew ?_ | refine blk_alloc ?_ _)); exact BK230.out⟩, ⟨by (with_reducible repeat (first | refine blk_drewN ?_ _ | refine blk_drew ?_ | refine blk_alloc ?_ _)); exact BK231.out⟩, ⟨by repeat (first | (with_reducible first | exact HB.out | apply below_alloc | apply pw_below_drewN | apply below_drew1 | refine below_set ?_ GE222.out | refine below_set ?_ GE223.out | refine below_set ?_ GE229.out | refine below_set ?_ GE230.out | refine below_set ?_ GE231.out) | exact HB.out)⟩⟩
       case rest =>
        clear HC52
        try clear c1
        try clear c2
        try clear p2
        try clear c6
        try clear p6
        try clear c19
        try clear c20
        try clear c63
        try clear c63b0
        try clear c63b1
        try clear p64
        try clear c65
        try clear c65b0
        try clear c65b1
        obtain ⟨kq, x115_51, rfl, HA, HJ51, HO_230000, BK222, BK223, BK229, BK230, BK231, HB⟩ := hcut
        cases kq with
        | zero => exact absurd HA.out (by simp [tegulalaw34_RefcountLarge.j1])
        | succ kj51 =>
         have H := HA.out
         clear HA
         simp only [tegulalaw34_RefcountLarge.j1] at H
         by_cases c79 : x115_51 = true
         ·
          subst c79
          have H1 : (some false) = some r := by rw [if_pos rfl] at H; exact H
          clear H
          have H := H1
          clear H1
          obtain rfl := Option.some.inj H
          go_wp2
          go_ret
          exact ⟨by first | rfl | (simp [errW_none, errW_some] <;> rfl) | (simp only [← hji49, ← hji50, ← hji51]; first | rfl | (simp [errW_none, errW_some] <;> rfl)) | (simp [*, errW_none, errW_some] <;> rfl), by repeat (first | (with_reducible first | exact HB.out | apply below_alloc | apply pw_below_drewN | apply below_drew1 | refine below_set ?_ GE222.out | refine below_set ?_ GE223.out | refine below_set ?_ GE229.out | refine below_set ?_ GE230.out | refine below_set ?_ GE231.out) | exact HB.out)⟩
         ·
          replace c79 := Bool.eq_false_iff.mpr c79
          subst c79
          have H1 : ((refcount_Counts_Drop.f kj51 t235 (([(⟨0, (wrap64 (1 + (Int.tmod (wrap64 (a0_1)) (wrap64 (65536 - (wrap64 (a0_0))))))), (wrap64 (a0_0))⟩ : S41)] : List (S41)))).bind fun bt248 => (tegulalaw34_RefcountLarge.l0 kj51 ji51 bt248.2.1 bt248.2.2 0 0 0 (wrap64 (1 + (Int.tmod (wrap64 (a0_1)) (wrap64 (65536 - (wrap64 (a0_0))))))) (wrap64 (a0_0)) 0 (wrap64 (1 + (Int.tmod (wrap64 (a1_1)) (wrap64 (65536 - (wrap64 (a1_0))))))) (wrap64 (a1_0)) bt248.1)) = some r := by rw [if_neg (show ¬ (false = true) by decide)] at H; exact H
          clear H
          have H := H1
          clear H1
          obtain ⟨y245, hy245⟩ : ∃ y_ : List (S41), y_ = (([(⟨0, (wrap64 (1 + (Int.tmod (wrap64 (a0_1)) (wrap64 (65536 - (wrap64 (a0_0))))))), (wrap64 (a0_0))⟩ : S41)] : List (S41))) := ⟨_, rfl⟩
          replace H : ((refcount_Counts_Drop.f kj51 t235 y245).bind fun bt248 => (tegulalaw34_RefcountLarge.l0 kj51 ji51 bt248.2.1 bt248.2.2 0 0 0 (wrap64 (1 + (Int.tmod (wrap64 (a0_1)) (wrap64 (65536 - (wrap64 (a0_0))))))) (wrap64 (a0_0)) 0 (wrap64 (1 + (Int.tmod (wrap64 (a1_1)) (wrap64 (65536 - (wrap64 (a1_0))))))) (wrap64 (a1_0)) bt248.1)) = some r := by first | (rw [hy245]; exact H) | exact H
          have Ny245 := Aside0.mk hy245
          clear hy245
          replace H := Option.bind_eq_some_iff.mp H
          obtain ⟨⟨t248, t251, t254⟩, A800, H⟩ := H
          replace H : (tegulalaw34_RefcountLarge.l0 kj51 ji51 t251 t254 0 0 0 (wrap64 (1 + (Int.tmod (wrap64 (a0_1)) (wrap64 (65536 - (wrap64 (a0_0))))))) (wrap64 (a0_0)) 0 (wrap64 (1 + (Int.tmod (wrap64 (a1_1)) (wrap64 (65536 - (wrap64 (a1_0))))))) (wrap64 (a1_0)) t248) = some r := H
          have A80 := Aside0.mk A800
          clear A800
          have H' := Aside0.mk H
          clear H
          have hnb81 := NB229_222.out
          have hnc81 := NB222_229.out
          have hnb82 := NB229_223.out
          have hnc82 := NB223_229.out
          have hnb83 := NB229_230.out
          have hnc83 := NB230_229.out
          have hnb84 := NB229_231.out
          have hnc84 := NB231_229.out
          have hcz85_0 : wc.cell? ⟨gb229, 0, none⟩ = some (.slice Ao45 t235.length co45) := (blk_cell BK229.out 0).trans rfl
          have hfz85_0 := blk_frozen BK229.out 0
          have hnb86 := NB230_222.out
          have hnc86 := NB222_230.out
          have hnb87 := NB230_223.out
          have hnc87 := NB223_230.out
          have hnb88 := NB230_231.out
          have hnc88 := NB231_230.out
          have hcz89_0 : wc.cell? ⟨gb230, 0, none⟩ = some (.int .i64 0) := (blk_cell BK230.out 0).trans rfl
          have hcz89_1 : wc.cell? ⟨gb230, 1, none⟩ = some (.int .i64 (wrap64 (1 + (Int.tmod (wrap64 (a0_1)) (wrap64 (65536 - (wrap64 (a0_0)))))))) := (blk_cell BK230.out 1).trans rfl
          have hcz89_2 : wc.cell? ⟨gb230, 2, none⟩ = some (.int .i64 (wrap64 (a0_0))) := (blk_cell BK230.out 2).trans rfl
          have hfz89_0 := blk_frozen BK230.out 0
          have hfz89_1 := blk_frozen BK230.out 1
          have hfz89_2 := blk_frozen BK230.out 2
          go_wp2_with (first | ((with_reducible refine gate_dst (N := 119) rfl ?_); (try (refine gate_guard (by rfl) ?_; dsimp only)); refine Kd.R_lit k41 _ 41 ?hg (N := 119) ?hd (xs := ([(⟨0, (wrap64 (1 + (Int.tmod (wrap64 (a0_1)) (wrap64 (65536 - (wrap64 (a0_0))))))), (wrap64 (a0_0))⟩ : S41)] : List (S41))) (inner := [.int .i64 0, .int .i64 (wrap64 (1 + (Int.tmod (wrap64 (a0_1)) (wrap64 (65536 - (wrap64 (a0_0))))))), .int .i64 (wrap64 (a0_0))]) (ok := fun _ => True) (okp := fun _ => True) ?hr ?hp (fun _ hk => hk) trivial (Below.refl _ _) (Nat.le_refl _) (by simp) ?_; (case hd => rfl); (case hg => rfl); (case hr => first | (go_simp; done) | (go_simp; rfl)); (case hp => exact (Reps.c3 (show Kd.M k41 _ _ _ (⟨0, (wrap64 (1 + (Int.tmod (wrap64 (a0_1)) (wrap64 (65536 - (wrap64 (a0_0))))))), (wrap64 (a0_0))⟩ : S41) [.int .i64 0, .int .i64 (wrap64 (1 + (Int.tmod (wrap64 (a0_1)) (wrap64 (65536 - (wrap64 (a0_0))))))), .int .i64 (wrap64 (a0_0))] from (k41_mkM _ _ _ (⟨0, (wrap64 (1 + (Int.tmod (wrap64 (a0_1)) (wrap64 (65536 - (wrap64 (a0_0))))))), (wrap64 (a0_0))⟩ : S41) )) (Reps.none _ _))); intro v246 w90 ho91 hb hg_ hnew_; clear hg_ hnew_; (first | rw [← Ny245.out] at ho91 | (simp only [Int.reduceToNat] at ho91; rw [← Ny245.out] at ho91)); replace HO_230000 := Aside0.mk (Kd.R_below (rU HO_230000.out) hb); have HO247 := Aside0.mk (Kd.R_lower (Kd.R_newB (Kd.R_newB ho91 (g := gb230) (o := .cells #[.int .i64 0, .int .i64 (wrap64 (1 + (Int.tmod (wrap64 (a0_1)) (wrap64 (65536 - (wrap64 (a0_0))))))), .int .i64 (wrap64 (a0_0))] 41 (0, 0)) (kU BK230.out)) (g := gb231) (o := .cells #[.int .i64 0, .int .i64 (wrap64 (1 + (Int.tmod (wrap64 (a1_1)) (wrap64 (65536 - (wrap64 (a1_0))))))), .int .i64 (wrap64 (a1_0))] 41 (0, 0)) (kU BK231.out)) (below_size (by repeat (first | (with_reducible first | exact HB.out | apply below_alloc | apply pw_below_drewN | apply below_drew1 | refine below_set ?_ GE222.out | refine below_set ?_ GE223.out | refine below_set ?_ GE229.out | refine below_set ?_ GE230.out | refine below_set ?_ GE231.out) | exact HB.out)))); replace BK222 := Aside0.mk (blk_below (g := gb222) (o := .cells #[.int .u16 a0_0, .int .u16 a0_1] 52 (0, 0)) (kU BK222.out) hb); replace BK223 := Aside0.mk (blk_below (g := gb223) (o := .cells #[.int .u16 a1_0, .int .u16 a1_1] 52 (0, 0)) (kU BK223.out) hb); replace BK229 := Aside0.mk (blk_below (g := gb229) (o := .cells #[.slice Ao45 t235.length co45] 27 (0, 0)) (kU BK229.out) hb); replace BK230 := Aside0.mk (blk_below (g := gb230) (o := .cells #[.int .i64 0, .int .i64 (wrap64 (1 + (Int.tmod (wrap64 (a0_1)) (wrap64 (65536 - (wrap64 (a0_0))))))), .int .i64 (wrap64 (a0_0))] 41 (0, 0)) (kU BK230.out) hb); replace BK231 := Aside0.mk (blk_below (g := gb231) (o := .cells #[.int .i64 0, .int .i64 (wrap64 (1 + (Int.tmod (wrap64 (a1_1)) (wrap64 (65536 - (wrap64 (a1_0))))))), .int .i64 (wrap64 (a1_0))] 41 (0, 0)) (kU BK231.out) hb); replace HB := Aside0.mk (below_step (by repeat (first | (with_reducible first | exact HB.out | apply below_alloc | apply pw_below_drewN | apply below_drew1 | refine below_set ?_ GE222.out | refine below_set ?_ GE223.out | refine below_set ?_ GE229.out | refine below_set ?_ GE230.out | refine below_set ?_ GE231.out) | exact HB.out)) hb); clear hb ho91; obtain ⟨Ao92, co92, eo92⟩ := Kd.R_slice HO247.out; subst eo92) | ((with_reducible refine gate_callee (f := 14) rfl ?_); refine goesL_ (some 120) rfl rfl Try.func14 (by kernel_rfl) rfl #[.agg #[.slice Ao45 t235.length co45], .slice Ao92 y245.length co92] rfl (by (try simp only [List.map_toArray, List.map_cons, List.map_nil]); first | done | rfl | (simp only [List.length_drop, List.length_take]; rfl)) ?_; (with_reducible refine (refcount_Counts_Drop.calls kj51 _ _ t235 _ _ y245 t248 t251 t254 _ ?side1 ?side2 ?side3 ?side4 A80.out).mono ?_); (case side1 => repeat (first | exact (Kd.R_reads' HO_230000.out).2.2 | (with_reducible refine Kd.C_alloc ?_ _) | (with_reducible refine Kd.C_drewN ?_ _) | (with_reducible refine Kd.C_drew ?_))); (case side2 => exact (Kd.R_reads' HO_230000.out).2.1); (case side3 => repeat (first | exact (Kd.R_reads' HO247.out).2.2 | (with_reducible refine Kd.C_alloc ?_ _) | (with_reducible refine Kd.C_drewN ?_ _) | (with_reducible refine Kd.C_drew ?_))); (case side4 => exact (Kd.R_reads' HO247.out).2.1); rintro e w93 ⟨v249, v252, rfl, ho0, ho1, hb⟩; refine ⟨_, rfl, ?_⟩; have HO250 := Aside0.mk (Kd.R_lower (Kd.R_new' ho0 (Kd.R_lt (rU HO_230000.out))) (below_size (by repeat (first | (with_reducible first | exact HB.out | apply below_alloc | apply pw_below_drewN | apply below_drew1 | refine below_set ?_ GE222.out | refine below_set ?_ GE223.out | refine below_set ?_ GE229.out | refine below_set ?_ GE230.out | refine below_set ?_ GE231.out) | exact HB.out)))); replace HO_230000 := Aside0.mk (Kd.R_elder' (rU HO_230000.out) (Kd.R_base ho0) hb); have HO253 := Aside0.mk (Kd.R_lower (Kd.R_newB (Kd.R_newB (Kd.R_new' ho1 (Kd.R_lt (rU HO247.out))) (g := gb230) (o := .cells #[.int .i64 0, .int .i64 (wrap64 (1 + (Int.tmod (wrap64 (a0_1)) (wrap64 (65536 - (wrap64 (a0_0))))))), .int .i64 (wrap64 (a0_0))] 41 (0, 0)) (kU BK230.out)) (g := gb231) (o := .cells #[.int .i64 0, .int .i64 (wrap64 (1 + (Int.tmod (wrap64 (a1_1)) (wrap64 (65536 - (wrap64 (a1_0))))))), .int .i64 (wrap64 (a1_0))] 41 (0, 0)) (kU BK231.out)) (below_size (by repeat (first | (with_reducible first | exact HB.out | apply below_alloc | apply pw_below_drewN | apply below_drew1 | refine below_set ?_ GE222.out | refine below_set ?_ GE223.out | refine below_set ?_ GE229.out | refine below_set ?_ GE230.out | refine below_set ?_ GE231.out) | exact HB.out)))); replace HO247 := Aside0.mk (Kd.R_elder' (rU HO247.out) (Kd.R_base ho1) hb); replace BK222 := Aside0.mk (blk_below (g := gb222) (o := .cells #[.int .u16 a0_0, .int .u16 a0_1] 52 (0, 0)) (kU BK222.out) hb); replace BK223 := Aside0.mk (blk_below (g := gb223) (o := .cells #[.int .u16 a1_0, .int .u16 a1_1] 52 (0, 0)) (kU BK223.out) hb); replace BK229 := Aside0.mk (blk_below (g := gb229) (o := .cells #[.slice Ao45 t235.length co45] 27 (0, 0)) (kU BK229.out) hb); replace BK230 := Aside0.mk (blk_below (g := gb230) (o := .cells #[.int .i64 0, .int .i64 (wrap64 (1 + (Int.tmod (wrap64 (a0_1)) (wrap64 (65536 - (wrap64 (a0_0))))))), .int .i64 (wrap64 (a0_0))] 41 (0, 0)) (kU BK230.out) hb); replace BK231 := Aside0.mk (blk_below (g := gb231) (o := .cells #[.int .i64 0, .int .i64 (wrap64 (1 + (Int.tmod (wrap64 (a1_1)) (wrap64 (65536 - (wrap64 (a1_0))))))), .int .i64 (wrap64 (a1_0))] 41 (0, 0)) (kU BK231.out) hb); replace HB := Aside0.mk (below_step (by repeat (first | (with_reducible first | exact HB.out | apply below_alloc | apply pw_below_drewN | apply below_drew1 | refine below_set ?_ GE222.out | refine below_set ?_ GE223.out | refine below_set ?_ GE229.out | refine below_set ?_ GE230.out | refine below_set ?_ GE231.out) | exact HB.out)) hb); (try clear hb); (try clear hk); (try clear ho0); (try clear ho1)) | ((with_reducible refine gate_dst (N := 11) rfl ?_); (try (refine gate_guard (by rfl) ?_; dsimp only)); refine box_event ?hg (N := 11) ?hd (cs := #[.slice none 0 0]) (t := 27) ?hr ?_; (case hd => rfl); (case hg => rfl); (case hr => first | (go_simp; done) | (go_simp; rfl)); intro gb255 hg w94 hbox hb; replace HO_230000 := Aside0.mk (Kd.R_below (rU HO_230000.out) hb); replace HO247 := Aside0.mk (Kd.R_below (rU HO247.out) hb); replace HO250 := Aside0.mk (Kd.R_below (rU HO250.out) hb); replace HO253 := Aside0.mk (Kd.R_below (rU HO253.out) hb); have BK255 := Aside0.mk (hbox); have GW255 := Aside0.mk ((by rw [hg]; exact (below_size (by repeat (first | (with_reducible first | exact HB.out | apply below_alloc | apply pw_below_drewN | apply below_drew1 | refine below_set ?_ GE222.out | refine below_set ?_ GE223.out | refine below_set ?_ GE229.out | refine below_set ?_ GE230.out | refine below_set ?_ GE231.out) | exact HB.out))) : w.heap.size ≤ gb255)); have GE255 := Aside0.mk ((by rw [hg]; exact (below_size (by repeat (first | (with_reducible first | exact HB.out | apply below_alloc | apply pw_below_drewN | apply below_drew1 | refine below_set ?_ GE222.out | refine below_set ?_ GE223.out | refine below_set ?_ GE229.out | refine below_set ?_ GE230.out | refine below_set ?_ GE231.out) | exact HB.out))) : w.heap.size ≤ gb255)); replace HB := Aside0.mk (below_step (by repeat (first | (with_reducible first | exact HB.out | apply below_alloc | apply pw_below_drewN | apply below_drew1 | refine below_set ?_ GE222.out | refine below_set ?_ GE223.out | refine below_set ?_ GE229.out | refine below_set ?_ GE230.out | refine below_set ?_ GE231.out) | exact HB.out)) hb); have NB222_255 := Aside0.mk ((by rw [hg]; exact Nat.ne_of_lt (blk_lt (g := gb222) (o := .cells #[.int .u16 a0_0, .int .u16 a0_1] 52 (0, 0)) (kU BK222.out)) : gb222 ≠ gb255)); have NB255_222 := Aside0.mk ((by rw [hg]; exact Nat.ne_of_gt (blk_lt (g := gb222) (o := .cells #[.int .u16 a0_0, .int .u16 a0_1] 52 (0, 0)) (kU BK222.out)) : gb255 ≠ gb222)); replace BK222 := Aside0.mk (blk_below (g := gb222) (o := .cells #[.int .u16 a0_0, .int .u16 a0_1] 52 (0, 0)) (kU BK222.out) hb); have NB223_255 := Aside0.mk ((by rw [hg]; exact Nat.ne_of_lt (blk_lt (g := gb223) (o := .cells #[.int .u16 a1_0, .int .u16 a1_1] 52 (0, 0)) (kU BK223.out)) : gb223 ≠ gb255)); have NB255_223 := Aside0.mk ((by rw [hg]; exact Nat.ne_of_gt (blk_lt (g := gb223) (o := .cells #[.int .u16 a1_0, .int .u16 a1_1] 52 (0, 0)) (kU BK223.out)) : gb255 ≠ gb223)); replace BK223 := Aside0.mk (blk_below (g := gb223) (o := .cells #[.int .u16 a1_0, .int .u16 a1_1] 52 (0, 0)) (kU BK223.out) hb); have NB229_255 := Aside0.mk ((by rw [hg]; exact Nat.ne_of_lt (blk_lt (g := gb229) (o := .cells #[.slice Ao45 t235.length co45] 27 (0, 0)) (kU BK229.out)) : gb229 ≠ gb255)); have NB255_229 := Aside0.mk ((by rw [hg]; exact Nat.ne_of_gt (blk_lt (g := gb229) (o := .cells #[.slice Ao45 t235.length co45] 27 (0, 0)) (kU BK229.out)) : gb255 ≠ gb229)); replace BK229 := Aside0.mk (blk_below (g := gb229) (o := .cells #[.slice Ao45 t235.length co45] 27 (0, 0)) (kU BK229.out) hb); have NB230_255 := Aside0.mk ((by rw [hg]; exact Nat.ne_of_lt (blk_lt (g := gb230) (o := .cells #[.int .i64 0, .int .i64 (wrap64 (1 + (Int.tmod (wrap64 (a0_1)) (wrap64 (65536 - (wrap64 (a0_0))))))), .int .i64 (wrap64 (a0_0))] 41 (0, 0)) (kU BK230.out)) : gb230 ≠ gb255)); have NB255_230 := Aside0.mk ((by rw [hg]; exact Nat.ne_of_gt (blk_lt (g := gb230) (o := .cells #[.int .i64 0, .int .i64 (wrap64 (1 + (Int.tmod (wrap64 (a0_1)) (wrap64 (65536 - (wrap64 (a0_0))))))), .int .i64 (wrap64 (a0_0))] 41 (0, 0)) (kU BK230.out)) : gb255 ≠ gb230)); replace BK230 := Aside0.mk (blk_below (g := gb230) (o := .cells #[.int .i64 0, .int .i64 (wrap64 (1 + (Int.tmod (wrap64 (a0_1)) (wrap64 (65536 - (wrap64 (a0_0))))))), .int .i64 (wrap64 (a0_0))] 41 (0, 0)) (kU BK230.out) hb); have NB231_255 := Aside0.mk ((by rw [hg]; exact Nat.ne_of_lt (blk_lt (g := gb231) (o := .cells #[.int .i64 0, .int .i64 (wrap64 (1 + (Int.tmod (wrap64 (a1_1)) (wrap64 (65536 - (wrap64 (a1_0))))))), .int .i64 (wrap64 (a1_0))] 41 (0, 0)) (kU BK231.out)) : gb231 ≠ gb255)); have NB255_231 := Aside0.mk ((by rw [hg]; exact Nat.ne_of_gt (blk_lt (g := gb231) (o := .cells #[.int .i64 0, .int .i64 (wrap64 (1 + (Int.tmod (wrap64 (a1_1)) (wrap64 (65536 - (wrap64 (a1_0))))))), .int .i64 (wrap64 (a1_0))] 41 (0, 0)) (kU BK231.out)) : gb255 ≠ gb231)); replace BK231 := Aside0.mk (blk_below (g := gb231) (o := .cells #[.int .i64 0, .int .i64 (wrap64 (1 + (Int.tmod (wrap64 (a1_1)) (wrap64 (65536 - (wrap64 (a1_0))))))), .int .i64 (wrap64 (a1_0))] 41 (0, 0)) (kU BK231.out) hb); clear hb hbox hg; obtain ⟨Ao95, co95, eo95⟩ := Kd.R_slice HO250.out; subst eo95; have hnb96 := NB255_222.out; have hnc96 := NB222_255.out; have hnb97 := NB255_223.out; have hnc97 := NB223_255.out; have hnb98 := NB255_229.out; have hnc98 := NB229_255.out; have hnb99 := NB255_230.out; have hnc99 := NB230_255.out; have hnb100 := NB255_231.out; have hnc100 := NB231_255.out; have hcz101_0 : w94.cell? ⟨gb255, 0, none⟩ = some (.slice none 0 0) := (blk_cell BK255.out 0).trans rfl; have hfz101_0 := blk_frozen BK255.out 0))
          go_loopg [14, 15] kj51 (fun kq v14 v15 w' => ∃ (x14_3 : Int) (x15_3 : Int), v14 = .int .i64 x14_3 ∧ v15 = .int .i64 x15_3 ∧ Aside0 (tegulalaw34_RefcountLarge.l0 kq ji51 t251 t254 x14_3 x15_3 0 (wrap64 (1 + (Int.tmod (wrap64 (a0_1)) (wrap64 (65536 - (wrap64 (a0_0))))))) (wrap64 (a0_0)) 0 (wrap64 (1 + (Int.tmod (wrap64 (a1_1)) (wrap64 (65536 - (wrap64 (a1_0))))))) (wrap64 (a1_0)) t248 = some r) ∧ Aside0 (kq ≤ kj51) ∧ Aside0 (Kd.R k41 41 w' w.heap.size (fun k_ => k_ ≠ gb230 ∧ k_ ≠ gb231) v252 t251) ∧ Aside0 (Kd.R (Kd.int .i64) 3 w' w.heap.size (fun k_ => some k_ ≠ ((.slice Ao95 t248.length co95) : Value).ownBlock) (.slice Ao45 t235.length co45) t235) ∧ Aside0 (Kd.R (Kd.int .i64) 3 w' w.heap.size (fun k_ => some k_ ≠ ((.slice Ao45 t235.length co45) : Value).ownBlock) (.slice Ao95 t248.length co95) t248) ∧ Aside0 (w'.heap[gb222]? = some (.cells #[.int .u16 a0_0, .int .u16 a0_1] 52 (0, 0))) ∧ Aside0 (w'.heap[gb223]? = some (.cells #[.int .u16 a1_0, .int .u16 a1_1] 52 (0, 0))) ∧ Aside0 (w'.heap[gb229]? = some (.cells #[(.slice Ao45 t235.length co45)] 27 (0, 0))) ∧ Aside0 (w'.heap[gb230]? = some (.cells #[.int .i64 0, .int .i64 (wrap64 (1 + (Int.tmod (wrap64 (a0_1)) (wrap64 (65536 - (wrap64 (a0_0))))))), .int .i64 (wrap64 (a0_0))] 41 (0, 0))) ∧ Aside0 (w'.heap[gb231]? = some (.cells #[.int .i64 0, .int .i64 (wrap64 (1 + (Int.tmod (wrap64 (a1_1)) (wrap64 (65536 - (wrap64 (a1_0))))))), .int .i64 (wrap64 (a1_0))] 41 (0, 0))) ∧ Aside0 (w'.heap[gb255]? = some (.cells #[(.slice Ao95 t248.length co95)] 27 (0, 0))) ∧ Aside0 (Below w.heap.size w w'))
          case atStart => exact ⟨(0), (0), (by first | rfl | (simp; done) | (simp [*]; done)), (by first | rfl | (simp; done) | (simp [*]; done)), H', ⟨Nat.le_refl _⟩, ⟨by (with_reducible repeat (first | apply Kd.R_alloc | apply Kd.R_drewN | apply Kd.R_drew)); exact Kd.R_mono (Kd.R_far (p := ⟨gb255, 0, none⟩) (Kd.R_types HO253.out BK255.out (by decide)) (fun _ hk => hk.2) (.slice Ao95 t248.length co95)) (fun _ hk => ⟨hk.1.1.2, hk.1.2⟩)⟩, ⟨by (with_reducible repeat (first | apply Kd.R_alloc | apply Kd.R_drewN | apply Kd.R_drew)); exact Kd.R_mono (Kd.R_far (p := ⟨gb255, 0, none⟩) (Kd.R_types HO_230000.out BK255.out (by decide)) (fun _ hk => hk.2) (.slice Ao95 t248.length co95)) (fun _ hk => hk.1.2)⟩, ⟨by (with_reducible repeat (first | apply Kd.R_alloc | apply Kd.R_drewN | apply Kd.R_drew)); exact Kd.R_mono (Kd.R_far (p := ⟨gb255, 0, none⟩) (Kd.R_types HO250.out BK255.out (by decide)) (fun _ hk => hk.2) (.slice Ao95 t248.length co95)) (fun _ hk => hk.1.2)⟩, ⟨by (with_reducible repeat (first | refine blk_drewN ?_ _ | refine blk_drew ?_ | refine blk_alloc ?_ _)); refine blk_far ?_ NB222_255.out _; (with_reducible repeat (first | refine blk_drewN ?_ _ | refine blk_drew ?_ | refine blk_alloc ?_ _)); exact BK222.out⟩, ⟨by (with_reducible repeat (first | refine blk_drewN ?_ _ | refine blk_drew ?_ | refine blk_alloc ?_ _)); refine blk_far ?_ NB223_255.out _; (with_reducible repeat (first | refine blk_drewN ?_ _ | refine blk_drew ?_ | refine blk_alloc ?_ _)); exact BK223.out⟩, ⟨by (with_reducible repeat (first | refine blk_drewN ?_ _ | refine blk_drew ?_ | refine blk_alloc ?_ _)); refine blk_far ?_ NB229_255.out _; (with_reducible repeat (first | refine blk_drewN ?_ _ | refine blk_drew ?_ | refine blk_alloc ?_ _)); exact BK229.out⟩, ⟨by (with_reducible repeat (first | refine blk_drewN ?_ _ | refine blk_drew ?_ | refine blk_alloc ?_ _)); refine blk_far ?_ NB230_255.out _; (with_reducible repeat (first | refine blk_drewN ?_ _ | refine blk_drew ?_ | refine blk_alloc ?_ _)); exact BK230.out⟩, ⟨by (with_reducible repeat (first | refine blk_drewN ?_ _ | refine blk_drew ?_ | refine blk_alloc ?_ _)); refine blk_far ?_ NB231_255.out _; (with_reducible repeat (first | refine blk_drewN ?_ _ | refine blk_drew ?_ | refine blk_alloc ?_ _)); exact BK231.out⟩, ⟨by (with_reducible repeat (first | refine blk_drewN ?_ _ | refine blk_drew ?_ | refine blk_alloc ?_ _)); refine blk_put (cs := #[.slice none 0 0]) ?_ 0 _ rfl; (with_reducible repeat (first | refine blk_drewN ?_ _ | refine blk_drew ?_ | refine blk_alloc ?_ _)); exact BK255.out⟩, ⟨by repeat (first | (with_reducible first | exact HB.out | apply below_alloc | apply pw_below_drewN | apply below_drew1 | refine below_set ?_ GE222.out | refine below_set ?_ GE223.out | refine below_set ?_ GE229.out | refine below_set ?_ GE230.out | refine below_set ?_ GE231.out | refine below_set ?_ GE255.out) | exact HB.out)⟩⟩
          case round =>
           clear H'
           try clear c1
           try clear c2
           try clear p2
           try clear c3
           try clear c6
           try clear p6
           try clear c7
           try clear c8
           try clear c9
           try clear c10
           try clear c14
           try clear c19
           try clear c20
           try clear c63
           try clear c63b0
           try clear c63b1
           try clear p64
           try clear c65
           try clear c65b0
           try clear c65b1
           try clear c79
           try clear c81
           try clear c82
           try clear c83
           try clear c84
           try clear c86
           try clear c87
           try clear c88
           try clear c96
           try clear c97
           try clear c98
           try clear c99
           try clear c100
           try clear hcz101_0
           try clear hcz85_0
           try clear hcz89_0
           try clear hcz89_1
           try clear hcz89_2
           try clear hfz101_0
           try clear hfz85_0
           try clear hfz89_0
           try clear hfz89_1
           try clear hfz89_2
           try clear p2
           try clear p6
           try clear p64
           obtain ⟨x14_3, x15_3, rfl, rfl, HA, HK3, HO_12, HO_230000, HO_256000, BK222, BK223, BK229, BK230, BK231, BK255, HB⟩ := hrel
           cases gk with
           | zero => exact absurd HA.out (by simp [tegulalaw34_RefcountLarge.l0])
           | succ k3 =>
            have H := HA.out
            clear HA
            simp only [tegulalaw34_RefcountLarge.l0] at H
            by_cases c102 : x15_3 < (t251.length : Int)
            ·
             rw [if_pos c102] at H
             have c102b0 := decide_eq_true c102
             clear c102
             by_cases c103 : 0 ≤ x15_3
             ·
              rw [if_pos c103] at H
              have c103b0 := decide_eq_true c103
              clear c103
              have H' := Aside0.mk H
              clear H
              obtain ⟨Ao104, co104, eo104⟩ := Kd.R_slice HO_12.out
              subst eo104
              have p256 : 0 ≤ (x15_3 : Int) := of_decide_eq_true (by first | (with_reducible assumption) | assumption)
              have q256 : x15_3 < (t251.length : Int) := of_decide_eq_true (by first | (with_reducible assumption) | assumption)
              obtain ⟨ad256, e256, hx256_0, hx256_1, hx256_2⟩ := at_T41 (Kd.R_reads' HO_12.out).2.2 x15_3 p256 q256
              cases e256
              replace p256 := eq_true p256
              replace q256 := eq_true q256
              go_wp2
              go_roundg k3
              case measure => have := HJ8.out; have := HJ51.out; have := HK3.out; omega
              case rel => exact ⟨(wrap64 (x14_3 + ((rd_T41 t251 x15_3).f1))), (wrap64 (x15_3 + 1)), (by first | rfl | (simp; done) | (simp [*]; done)), (by first | rfl | (simp; done) | (simp [*]; done)), H', ⟨by have := HJ8.out; have := HJ51.out; have := HK3.out; omega⟩, ⟨rU HO_12.out⟩, ⟨rU HO_230000.out⟩, ⟨rU HO_256000.out⟩, ⟨by (with_reducible repeat (first | refine blk_drewN ?_ _ | refine blk_drew ?_ | refine blk_alloc ?_ _)); exact BK222.out⟩, ⟨by (with_reducible repeat (first | refine blk_drewN ?_ _ | refine blk_drew ?_ | refine blk_alloc ?_ _)); exact BK223.out⟩, ⟨by (with_reducible repeat (first | refine blk_drewN ?_ _ | refine blk_drew ?_ | refine blk_alloc ?_ _)); exact BK229.out⟩, ⟨by (with_reducible repeat (first | refine blk_drewN ?_ _ | refine blk_drew ?_ | refine blk_alloc ?_ _)); exact BK230.out⟩, ⟨by (with_reducible repeat (first | refine blk_drewN ?_ _ | refine blk_drew ?_ | refine blk_alloc ?_ _)); exact BK231.out⟩, ⟨by (with_reducible repeat (first | refine blk_drewN ?_ _ | refine blk_drew ?_ | refine blk_alloc ?_ _)); exact BK255.out⟩, ⟨by repeat (first | (with_reducible first | exact HB.out | apply below_alloc | apply pw_below_drewN | apply below_drew1 | refine below_set ?_ GE222.out | refine below_set ?_ GE223.out | refine below_set ?_ GE229.out | refine below_set ?_ GE230.out | refine below_set ?_ GE231.out | refine below_set ?_ GE255.out) | exact HB.out)⟩⟩
             ·
              rw [if_neg c103] at H
              exact absurd H (by simp)
            ·
             rw [if_neg c102] at H
             have c102b0 := decide_eq_false c102
             clear c102
             by_cases c105 : t254 = 0
             ·
              rw [if_pos c105] at H
              have c105b0 : (t254 == 0) = true := beq_iff_eq.mpr c105
              have c105b1 : (t254 != 0) = false := bne_eq_false_iff_eq.mpr c105
              clear c105
              by_cases c106 : x14_3 = (wrap64 ((wrap64 (1 + (Int.tmod (wrap64 (a0_1)) (wrap64 (65536 - (wrap64 (a0_0))))))) - ji51))
              ·
               rw [if_pos c106] at H
               have c106b0 : (x14_3 == (wrap64 ((wrap64 (1 + (Int.tmod (wrap64 (a0_1)) (wrap64 (65536 - (wrap64 (a0_0))))))) - ji51))) = true := beq_iff_eq.mpr c106
               have c106b1 : (x14_3 != (wrap64 ((wrap64 (1 + (Int.tmod (wrap64 (a0_1)) (wrap64 (65536 - (wrap64 (a0_0))))))) - ji51))) = false := bne_eq_false_iff_eq.mpr c106
               clear c106
               replace H := Option.bind_eq_some_iff.mp H
               obtain ⟨t257, A1070, H⟩ := H
               replace H : (if t257 = (wrap64 (1 + (Int.tmod (wrap64 (a1_1)) (wrap64 (65536 - (wrap64 (a1_0))))))) then ((refcount_Counts_Of.f t248 (wrap64 (a1_0))).bind fun t258 => (some (t258 == 1))) else (some false)) = some r := H
               have A107 := Aside0.mk A1070
               clear A1070
               by_cases c108 : t257 = (wrap64 (1 + (Int.tmod (wrap64 (a1_1)) (wrap64 (65536 - (wrap64 (a1_0)))))))
               ·
                rw [if_pos c108] at H
                have c108b0 : (t257 == (wrap64 (1 + (Int.tmod (wrap64 (a1_1)) (wrap64 (65536 - (wrap64 (a1_0)))))))) = true := beq_iff_eq.mpr c108
                have c108b1 : (t257 != (wrap64 (1 + (Int.tmod (wrap64 (a1_1)) (wrap64 (65536 - (wrap64 (a1_0)))))))) = false := bne_eq_false_iff_eq.mpr c108
                clear c108
                replace H := Option.bind_eq_some_iff.mp H
                obtain ⟨t258, A1090, H⟩ := H
                replace H : (some (t258 == 1)) = some r := H
                have A109 := Aside0.mk A1090
                clear A1090
                obtain rfl := Option.some.inj H
                obtain ⟨Ao110, co110, eo110⟩ := Kd.R_slice HO_12.out
                subst eo110
                try go_wp2
                have n0_ := Aside0.mk (Kd.R_drew HO_12.out)
                have n1_ := Aside0.mk (Kd.R_drew HO_230000.out)
                have n2_ := Aside0.mk (Kd.R_drew HO_256000.out)
                have n3_ := Aside0.mk (blk_drew BK222.out)
                have n4_ := Aside0.mk (blk_drew BK223.out)
                have n5_ := Aside0.mk (blk_drew BK229.out)
                have n6_ := Aside0.mk (blk_drew BK230.out)
                have n7_ := Aside0.mk (blk_drew BK231.out)
                have n8_ := Aside0.mk (blk_drew BK255.out)
                have n9_ := Aside0.mk (below_drew1 HB.out)
                clear HO_12
                clear HO_230000
                clear HO_256000
                clear BK222
                clear BK223
                clear BK229
                clear BK230
                clear BK231
                clear BK255
                clear HB
                have HO_12 := n0_
                have HO_230000 := n1_
                have HO_256000 := n2_
                have BK222 := n3_
                have BK223 := n4_
                have BK229 := n5_
                have BK230 := n6_
                have BK231 := n7_
                have BK255 := n8_
                have HB := n9_
                clear n0_ n1_ n2_ n3_ n4_ n5_ n6_ n7_ n8_ n9_
                refine start_ (n := 25) (S := fun w' => w'.cell? ⟨gb230, 0, none⟩ = some (.int .i64 0) ∧ w'.cell? ⟨gb230, 1, none⟩ = some (.int .i64 (wrap64 (1 + (Int.tmod (wrap64 (a0_1)) (wrap64 (65536 - (wrap64 (a0_0)))))))) ∧ w'.cell? ⟨gb230, 2, none⟩ = some (.int .i64 (wrap64 (a0_0))) ∧ w'.cell? ⟨gb255, 0, none⟩ = some (.slice Ao95 t248.length co95) ∧ w'.cell? ⟨gb231, 0, none⟩ = some (.int .i64 0) ∧ w'.cell? ⟨gb231, 1, none⟩ = some (.int .i64 (wrap64 (1 + (Int.tmod (wrap64 (a1_1)) (wrap64 (65536 - (wrap64 (a1_0)))))))) ∧ w'.cell? ⟨gb231, 2, none⟩ = some (.int .i64 (wrap64 (a1_0)))) (ds := []) #[false, false, false, false, false, false, false, false, false, false, false, false, false, false, false, false, false, false, false, false, false, false, false, false, false] (by kernel_rfl) rfl rfl ⟨(blk_cell BK230.out 0).trans rfl, (blk_cell BK230.out 1).trans rfl, (blk_cell BK230.out 2).trans rfl, (blk_cell BK255.out 0).trans rfl, (blk_cell BK231.out 0).trans rfl, (blk_cell BK231.out 1).trans rfl, (blk_cell BK231.out 2).trans rfl⟩ (fun hHeld => ?_); refine with_tabW tegulalaw34_RefcountLarge.tab18 tegulalaw34_RefcountLarge.bits18 (fun HT_ HW_ => ?_)
                generalize wr.drew = w111 at HO_12 HO_230000 HO_256000 BK222 BK223 BK229 BK230 BK231 BK255 HB hHeld ⊢
                refine pure_ (i := 0) (N := some 137) (v := ?_) (a' := ?_) #[true, false, false, false, false, false, false, false, false, false, false, false, false, false, false, false, false, false, false, false, false, false, false, false, false] rfl rfl (any_of HT_.out (by kernel_rfl)) (fun _ _ _ h => h) (Or.inl ⟨by rfl, ?_⟩) ?_ ?_
                rotate_left
                ·
                 intro w'; go_simp; with_reducible rfl
                rotate_left
                ·
                 simp only [AP]; rfl
                refine pure_ (i := 1) (N := some 138) (v := ?_) (a' := ?_) #[true, true, false, false, false, false, false, false, false, false, false, false, false, false, false, false, false, false, false, false, false, false, false, false, false] rfl rfl (any_of HT_.out (by kernel_rfl)) (fun _ _ _ h => h) (Or.inl ⟨by rfl, ?_⟩) ?_ ?_
                rotate_left
                ·
                 intro w'; go_simp; with_reducible rfl
                rotate_left
                ·
                 simp only [AP]; rfl
                refine pure_ (i := 2) (N := some 139) (v := ?_) (a' := ?_) #[true, true, true, false, false, false, false, false, false, false, false, false, false, false, false, false, false, false, false, false, false, false, false, false, false] rfl rfl (any_of HT_.out (by kernel_rfl)) (fun _ _ _ h => h) (Or.inl ⟨by rfl, ?_⟩) ?_ ?_
                rotate_left
                ·
                 intro w'; go_simp; with_reducible rfl
                rotate_left
                ·
                 simp only [AP]; rfl
                refine pure_ (i := 3) (N := some 140) (v := ?_) (a' := ?_) #[true, true, true, true, false, false, false, false, false, false, false, false, false, false, false, false, false, false, false, false, false, false, false, false, false] rfl rfl (any_of HT_.out (by kernel_rfl)) (fun _ _ _ h => h) (Or.inl ⟨by rfl, ?_⟩) ?_ ?_
                rotate_left
                ·
                 intro w'; go_simp; with_reducible rfl
                rotate_left
                ·
                 simp only [AP]; rfl
                refine pure_ (i := 4) (N := some 141) (v := ?_) (a' := ?_) #[true, true, true, true, true, false, false, false, false, false, false, false, false, false, false, false, false, false, false, false, false, false, false, false, false] rfl rfl (any_of HT_.out (by kernel_rfl)) (fun _ _ _ h => h) (Or.inl ⟨by rfl, ?_⟩) ?_ ?_
                rotate_left
                ·
                 intro w'; go_simp; with_reducible rfl
                rotate_left
                ·
                 simp only [AP]; rfl
                refine pure_ (i := 6) (N := some 143) (v := ?_) (a' := ?_) #[true, true, true, true, true, false, true, false, false, false, false, false, false, false, false, false, false, false, false, false, false, false, false, false, false] rfl rfl (any_of HT_.out (by kernel_rfl)) (fun _ _ _ h => h) (Or.inl ⟨by rfl, ?_⟩) ?_ ?_
                rotate_left
                ·
                 intro w'; go_simp; with_reducible rfl
                rotate_left
                ·
                 simp only [AP]; rfl
                refine take_ (i := 5) (N := some 142) (v := ?_) (a' := ?_) #[true, true, true, true, true, true, true, false, false, false, false, false, false, false, false, false, false, false, false, false, false, false, false, false, false] rfl rfl (take_ofW HT_.out HW_.out (by kernel_rfl)) (fun _ _ _ h => h) (Or.inl ⟨by rfl, ?_⟩) hHeld ?_ ?_
                rotate_left
                ·
                 rintro w' ⟨s0, s1, s2, s3, s4, s5, s6⟩
                 go_simp; with_reducible rfl
                rotate_left
                ·
                 simp only [AP]; rfl
                refine pure_ (i := 7) (N := some 144) (v := ?_) (a' := ?_) #[true, true, true, true, true, true, true, true, false, false, false, false, false, false, false, false, false, false, false, false, false, false, false, false, false] rfl rfl (any_of HT_.out (by kernel_rfl)) (fun _ _ _ h => h) (Or.inl ⟨by rfl, ?_⟩) ?_ ?_
                rotate_left
                ·
                 intro w'; go_simp; with_reducible rfl
                rotate_left
                ·
                 simp only [AP]; rfl
                refine pure_ (i := 8) (N := some 145) (v := ?_) (a' := ?_) #[true, true, true, true, true, true, true, true, true, false, false, false, false, false, false, false, false, false, false, false, false, false, false, false, false] rfl rfl (any_of HT_.out (by kernel_rfl)) (fun _ _ _ h => h) (Or.inl ⟨by rfl, ?_⟩) ?_ ?_
                rotate_left
                ·
                 intro w'; go_simp; with_reducible rfl
                rotate_left
                ·
                 simp only [AP]; rfl
                refine pure_ (i := 9) (N := some 146) (v := ?_) (a' := ?_) #[true, true, true, true, true, true, true, true, true, true, false, false, false, false, false, false, false, false, false, false, false, false, false, false, false] rfl rfl (any_of HT_.out (by kernel_rfl)) (fun _ _ _ h => h) (Or.inl ⟨by rfl, ?_⟩) ?_ ?_
                rotate_left
                ·
                 intro w'; go_simp; with_reducible rfl
                rotate_left
                ·
                 simp only [AP]; rfl
                refine pure_ (i := 10) (N := some 147) (v := ?_) (a' := ?_) #[true, true, true, true, true, true, true, true, true, true, true, false, false, false, false, false, false, false, false, false, false, false, false, false, false] rfl rfl (any_of HT_.out (by kernel_rfl)) (fun _ _ _ h => h) (Or.inl ⟨by rfl, ?_⟩) ?_ ?_
                rotate_left
                ·
                 intro w'; go_simp; with_reducible rfl
                rotate_left
                ·
                 simp only [AP]; rfl
                refine pure_ (i := 13) (N := some 150) (v := ?_) (a' := ?_) #[true, true, true, true, true, true, true, true, true, true, true, false, false, true, false, false, false, false, false, false, false, false, false, false, false] rfl rfl (any_of HT_.out (by kernel_rfl)) (fun _ _ _ h => h) (Or.inl ⟨by rfl, ?_⟩) ?_ ?_
                rotate_left
                ·
                 intro w'; go_simp; with_reducible rfl
                rotate_left
                ·
                 simp only [AP]; rfl
                refine take_ (i := 11) (N := some 148) (v := ?_) (a' := ?_) #[true, true, true, true, true, true, true, true, true, true, true, true, false, true, false, false, false, false, false, false, false, false, false, false, false] rfl rfl (take_ofW HT_.out HW_.out (by kernel_rfl)) (fun _ _ _ h => h) (Or.inl ⟨by rfl, ?_⟩) hHeld ?_ ?_
                rotate_left
                ·
                 rintro w' ⟨s0, s1, s2, s3, s4, s5, s6⟩
                 go_simp; with_reducible rfl
                rotate_left
                ·
                 simp only [AP]; rfl
                refine take_ (i := 14) (N := some 151) (v := ?_) (a' := ?_) #[true, true, true, true, true, true, true, true, true, true, true, true, false, true, true, false, false, false, false, false, false, false, false, false, false] rfl rfl (take_ofW HT_.out HW_.out (by kernel_rfl)) (fun _ _ _ h => h) (Or.inl ⟨by rfl, ?_⟩) hHeld ?_ ?_
                rotate_left
                ·
                 rintro w' ⟨s0, s1, s2, s3, s4, s5, s6⟩
                 go_simp; with_reducible rfl
                rotate_left
                ·
                 simp only [AP]; rfl
                refine one_ (i := 12) (N := some 149) #[true, true, true, true, true, true, true, true, true, true, true, true, true, true, true, false, false, false, false, false, false, false, false, false, false] rfl rfl (one_of HT_.out (by kernel_rfl)) (by decide) (fun K hK => ?_)
                refine goes_ Try.func20 (by kernel_rfl) rfl #[.agg #[.slice Ao95 t248.length co95]] (by rfl) rfl rfl (by (try simp only [List.map_toArray, List.map_cons, List.map_nil]); first | done | rfl | (simp only [List.length_drop, List.length_take]; rfl)) ?_
                with_reducible refine (refcount_Counts_Used.calls _ _ t248 t257 _ ?side1 ?side2 A107.out).mono ?_
                (case side1 => repeat (first | exact (Kd.R_reads' HO_256000.out).2.2 | (with_reducible refine Kd.C_alloc ?_ _) | (with_reducible refine Kd.C_drewN ?_ _) | (with_reducible refine Kd.C_drew ?_)))
                (case side2 => exact (Kd.R_reads' HO_256000.out).2.1)
                rintro e w112 ⟨rfl, hb⟩
                refine ⟨_, rfl, ?_⟩
                have n0_ := Aside0.mk (Kd.R_below (rU HO_12.out) hb)
                have n1_ := Aside0.mk (Kd.R_below (rU HO_230000.out) hb)
                have n2_ := Aside0.mk (Kd.R_below (rU HO_256000.out) hb)
                have n3_ := Aside0.mk (blk_below (g := gb222) (o := .cells #[.int .u16 a0_0, .int .u16 a0_1] 52 (0, 0)) (kU BK222.out) hb)
                have n4_ := Aside0.mk (blk_below (g := gb223) (o := .cells #[.int .u16 a1_0, .int .u16 a1_1] 52 (0, 0)) (kU BK223.out) hb)
                have n5_ := Aside0.mk (blk_below (g := gb229) (o := .cells #[.slice Ao45 t235.length co45] 27 (0, 0)) (kU BK229.out) hb)
                have n6_ := Aside0.mk (blk_below (g := gb230) (o := .cells #[.int .i64 0, .int .i64 (wrap64 (1 + (Int.tmod (wrap64 (a0_1)) (wrap64 (65536 - (wrap64 (a0_0))))))), .int .i64 (wrap64 (a0_0))] 41 (0, 0)) (kU BK230.out) hb)
                have n7_ := Aside0.mk (blk_below (g := gb231) (o := .cells #[.int .i64 0, .int .i64 (wrap64 (1 + (Int.tmod (wrap64 (a1_1)) (wrap64 (65536 - (wrap64 (a1_0))))))), .int .i64 (wrap64 (a1_0))] 41 (0, 0)) (kU BK231.out) hb)
                have n8_ := Aside0.mk (blk_below (g := gb255) (o := .cells #[.slice Ao95 t248.length co95] 27 (0, 0)) (kU BK255.out) hb)
                have n9_ := Aside0.mk (below_step (by repeat (first | (with_reducible first | exact HB.out | apply below_alloc | apply pw_below_drewN | apply below_drew1 | refine below_set ?_ GE222.out | refine below_set ?_ GE223.out | refine below_set ?_ GE229.out | refine below_set ?_ GE230.out | refine below_set ?_ GE231.out | refine below_set ?_ GE255.out) | exact HB.out)) hb)
                clear HO_12
                clear HO_230000
                clear HO_256000
                clear BK222
                clear BK223
                clear BK229
                clear BK230
                clear BK231
                clear BK255
                clear HB
                have HO_12 := n0_
                have HO_230000 := n1_
                have HO_256000 := n2_
                have BK222 := n3_
                have BK223 := n4_
                have BK229 := n5_
                have BK230 := n6_
                have BK231 := n7_
                have BK255 := n8_
                have HB := n9_
                clear n0_ n1_ n2_ n3_ n4_ n5_ n6_ n7_ n8_ n9_
                (try clear hb)
                (try clear hb2)
                (try clear hk)
                (try clear hi)
                refine hK.out _ _ ⟨(blk_cell BK230.out 0).trans rfl, (blk_cell BK230.out 1).trans rfl, (blk_cell BK230.out 2).trans rfl, (blk_cell BK255.out 0).trans rfl, (blk_cell BK231.out 0).trans rfl, (blk_cell BK231.out 1).trans rfl, (blk_cell BK231.out 2).trans rfl⟩ (fun hHeld => ?_)
                clear hK K
                refine norm_ (a' := ?_) ?_ ?_
                rotate_left
                ·
                 show Act.put _ (some 149) _ = _
                 simp only [AP]; rfl
                refine pure_ (i := 15) (N := some 152) (v := ?_) (a' := ?_) #[true, true, true, true, true, true, true, true, true, true, true, true, true, true, true, true, false, false, false, false, false, false, false, false, false] rfl rfl (any_of HT_.out (by kernel_rfl)) (fun _ _ _ h => h) (Or.inl ⟨by rfl, ?_⟩) ?_ ?_
                rotate_left
                ·
                 intro w'; go_simp; with_reducible rfl
                rotate_left
                ·
                 simp only [AP]; rfl
                refine pure_ (i := 16) (N := some 153) (v := ?_) (a' := ?_) #[true, true, true, true, true, true, true, true, true, true, true, true, true, true, true, true, true, false, false, false, false, false, false, false, false] rfl rfl (any_of HT_.out (by kernel_rfl)) (fun _ _ _ h => h) (Or.inl ⟨by rfl, ?_⟩) ?_ ?_
                rotate_left
                ·
                 intro w'; go_simp; with_reducible rfl
                rotate_left
                ·
                 simp only [AP]; rfl
                refine pure_ (i := 17) (N := some 154) (v := ?_) (a' := ?_) #[true, true, true, true, true, true, true, true, true, true, true, true, true, true, true, true, true, true, false, false, false, false, false, false, false] rfl rfl (any_of HT_.out (by kernel_rfl)) (fun _ _ _ h => h) (Or.inl ⟨by rfl, ?_⟩) ?_ ?_
                rotate_left
                ·
                 intro w'; go_simp; with_reducible rfl
                rotate_left
                ·
                 simp only [AP]; rfl
                refine pure_ (i := 19) (N := some 156) (v := ?_) (a' := ?_) #[true, true, true, true, true, true, true, true, true, true, true, true, true, true, true, true, true, true, false, true, false, false, false, false, false] rfl rfl (any_of HT_.out (by kernel_rfl)) (fun _ _ _ h => h) (Or.inl ⟨by rfl, ?_⟩) ?_ ?_
                rotate_left
                ·
                 intro w'; go_simp; with_reducible rfl
                rotate_left
                ·
                 simp only [AP]; rfl
                refine take_ (i := 18) (N := some 155) (v := ?_) (a' := ?_) #[true, true, true, true, true, true, true, true, true, true, true, true, true, true, true, true, true, true, true, true, false, false, false, false, false] rfl rfl (take_ofW HT_.out HW_.out (by kernel_rfl)) (fun _ _ _ h => h) (Or.inl ⟨by rfl, ?_⟩) hHeld ?_ ?_
                rotate_left
                ·
                 rintro w' ⟨s0, s1, s2, s3, s4, s5, s6⟩
                 go_simp; with_reducible rfl
                rotate_left
                ·
                 simp only [AP]; rfl
                refine take_ (i := 20) (N := some 157) (v := ?_) (a' := ?_) #[true, true, true, true, true, true, true, true, true, true, true, true, true, true, true, true, true, true, true, true, true, false, false, false, false] rfl rfl (take_ofW HT_.out HW_.out (by kernel_rfl)) (fun _ _ _ h => h) (Or.inl ⟨by rfl, ?_⟩) hHeld ?_ ?_
                rotate_left
                ·
                 rintro w' ⟨s0, s1, s2, s3, s4, s5, s6⟩
                 go_simp; with_reducible rfl
                rotate_left
                ·
                 simp only [AP]; rfl
                refine one_ (i := 21) (N := some 158) #[true, true, true, true, true, true, true, true, true, true, true, true, true, true, true, true, true, true, true, true, true, true, false, false, false] rfl rfl (one_of HT_.out (by kernel_rfl)) (by decide) (fun K hK => ?_)
                refine goes_ Try.func25 (by kernel_rfl) rfl #[.agg #[.slice Ao95 t248.length co95], .int .i64 (wrap64 (a1_0))] (by rfl) rfl rfl (by (try simp only [List.map_toArray, List.map_cons, List.map_nil]); first | done | rfl | (simp only [List.length_drop, List.length_take]; rfl)) ?_
                with_reducible refine (refcount_Counts_Of.calls _ _ t248 (wrap64 (a1_0)) t258 _ ?side1 ?side2 A109.out).mono ?_
                (case side1 => repeat (first | exact (Kd.R_reads' HO_256000.out).2.2 | (with_reducible refine Kd.C_alloc ?_ _) | (with_reducible refine Kd.C_drewN ?_ _) | (with_reducible refine Kd.C_drew ?_)))
                (case side2 => exact (Kd.R_reads' HO_256000.out).2.1)
                rintro e w113 ⟨rfl, hb⟩
                refine ⟨_, rfl, ?_⟩
                have n0_ := Aside0.mk (Kd.R_below (rU HO_12.out) hb)
                have n1_ := Aside0.mk (Kd.R_below (rU HO_230000.out) hb)
                have n2_ := Aside0.mk (Kd.R_below (rU HO_256000.out) hb)
                have n3_ := Aside0.mk (blk_below (g := gb222) (o := .cells #[.int .u16 a0_0, .int .u16 a0_1] 52 (0, 0)) (kU BK222.out) hb)
                have n4_ := Aside0.mk (blk_below (g := gb223) (o := .cells #[.int .u16 a1_0, .int .u16 a1_1] 52 (0, 0)) (kU BK223.out) hb)
                have n5_ := Aside0.mk (blk_below (g := gb229) (o := .cells #[.slice Ao45 t235.length co45] 27 (0, 0)) (kU BK229.out) hb)
                have n6_ := Aside0.mk (blk_below (g := gb230) (o := .cells #[.int .i64 0, .int .i64 (wrap64 (1 + (Int.tmod (wrap64 (a0_1)) (wrap64 (65536 - (wrap64 (a0_0))))))), .int .i64 (wrap64 (a0_0))] 41 (0, 0)) (kU BK230.out) hb)
                have n7_ := Aside0.mk (blk_below (g := gb231) (o := .cells #[.int .i64 0, .int .i64 (wrap64 (1 + (Int.tmod (wrap64 (a1_1)) (wrap64 (65536 - (wrap64 (a1_0))))))), .int .i64 (wrap64 (a1_0))] 41 (0, 0)) (kU BK231.out) hb)
                have n8_ := Aside0.mk (blk_below (g := gb255) (o := .cells #[.slice Ao95 t248.length co95] 27 (0, 0)) (kU BK255.out) hb)
                have n9_ := Aside0.mk (below_step (by repeat (first | (with_reducible first | exact HB.out | apply below_alloc | apply pw_below_drewN | apply below_drew1 | refine below_set ?_ GE222.out | refine below_set ?_ GE223.out | refine below_set ?_ GE229.out | refine below_set ?_ GE230.out | refine below_set ?_ GE231.out | refine below_set ?_ GE255.out) | exact HB.out)) hb)
                clear HO_12
                clear HO_230000
                clear HO_256000
                clear BK222
                clear BK223
                clear BK229
                clear BK230
                clear BK231
                clear BK255
                clear HB
                have HO_12 := n0_
                have HO_230000 := n1_
                have HO_256000 := n2_
                have BK222 := n3_
                have BK223 := n4_
                have BK229 := n5_
                have BK230 := n6_
                have BK231 := n7_
                have BK255 := n8_
                have HB := n9_
                clear n0_ n1_ n2_ n3_ n4_ n5_ n6_ n7_ n8_ n9_
                (try clear hb)
                (try clear hb2)
                (try clear hk)
                (try clear hi)
                refine hK.out _ _ ⟨(blk_cell BK230.out 0).trans rfl, (blk_cell BK230.out 1).trans rfl, (blk_cell BK230.out 2).trans rfl, (blk_cell BK255.out 0).trans rfl, (blk_cell BK231.out 0).trans rfl, (blk_cell BK231.out 1).trans rfl, (blk_cell BK231.out 2).trans rfl⟩ (fun hHeld => ?_)
                clear hK K
                refine norm_ (a' := ?_) ?_ ?_
                rotate_left
                ·
                 show Act.put _ (some 158) _ = _
                 simp only [AP]; rfl
                refine pure_ (i := 22) (N := some 159) (v := ?_) (a' := ?_) #[true, true, true, true, true, true, true, true, true, true, true, true, true, true, true, true, true, true, true, true, true, true, true, false, false] rfl rfl (any_of HT_.out (by kernel_rfl)) (fun _ _ _ h => h) (Or.inl ⟨by rfl, ?_⟩) ?_ ?_
                rotate_left
                ·
                 intro w'; go_simp; with_reducible rfl
                rotate_left
                ·
                 simp only [AP]; rfl
                refine pure_ (i := 23) (N := some 160) (v := ?_) (a' := ?_) #[true, true, true, true, true, true, true, true, true, true, true, true, true, true, true, true, true, true, true, true, true, true, true, true, false] rfl rfl (any_of HT_.out (by kernel_rfl)) (fun _ _ _ h => h) (Or.inl ⟨by rfl, ?_⟩) ?_ ?_
                rotate_left
                ·
                 intro w'; go_simp; with_reducible rfl
                rotate_left
                ·
                 simp only [AP]; rfl
                refine pure_ (i := 24) (N := some 4) (v := ?_) (a' := ?_) #[true, true, true, true, true, true, true, true, true, true, true, true, true, true, true, true, true, true, true, true, true, true, true, true, true] rfl rfl (any_of HT_.out (by kernel_rfl)) (fun _ _ _ h => h) (Or.inl ⟨by rfl, ?_⟩) ?_ ?_
                rotate_left
                ·
                 intro w'; go_simp; with_reducible rfl
                rotate_left
                ·
                 simp only [AP]; rfl
                refine done_ (done_of HT_.out (by kernel_rfl)) ?_
                try go_wp2
                go_ret
                exact ⟨by first | rfl | (simp [errW_none, errW_some] <;> rfl) | (simp only [← hji49, ← hji50, ← hji51]; first | rfl | (simp [errW_none, errW_some] <;> rfl)) | (simp [*, errW_none, errW_some] <;> rfl), by repeat (first | (with_reducible first | exact HB.out | apply below_alloc | apply pw_below_drewN | apply below_drew1 | refine below_set ?_ GE222.out | refine below_set ?_ GE223.out | refine below_set ?_ GE229.out | refine below_set ?_ GE230.out | refine below_set ?_ GE231.out | refine below_set ?_ GE255.out) | exact HB.out)⟩
               ·
                rw [if_neg c108] at H
                have c108b0 : (t257 == (wrap64 (1 + (Int.tmod (wrap64 (a1_1)) (wrap64 (65536 - (wrap64 (a1_0)))))))) = false := beq_eq_false_iff_ne.mpr c108
                have c108b1 : (t257 != (wrap64 (1 + (Int.tmod (wrap64 (a1_1)) (wrap64 (65536 - (wrap64 (a1_0)))))))) = true := bne_iff_ne.mpr c108
                obtain rfl := Option.some.inj H
                obtain ⟨Ao114, co114, eo114⟩ := Kd.R_slice HO_12.out
                subst eo114
                try go_wp2
                have n0_ := Aside0.mk (Kd.R_drew HO_12.out)
                have n1_ := Aside0.mk (Kd.R_drew HO_230000.out)
                have n2_ := Aside0.mk (Kd.R_drew HO_256000.out)
                have n3_ := Aside0.mk (blk_drew BK222.out)
                have n4_ := Aside0.mk (blk_drew BK223.out)
                have n5_ := Aside0.mk (blk_drew BK229.out)
                have n6_ := Aside0.mk (blk_drew BK230.out)
                have n7_ := Aside0.mk (blk_drew BK231.out)
                have n8_ := Aside0.mk (blk_drew BK255.out)
                have n9_ := Aside0.mk (below_drew1 HB.out)
                clear HO_12
                clear HO_230000
                clear HO_256000
                clear BK222
                clear BK223
                clear BK229
                clear BK230
                clear BK231
                clear BK255
                clear HB
                have HO_12 := n0_
                have HO_230000 := n1_
                have HO_256000 := n2_
                have BK222 := n3_
                have BK223 := n4_
                have BK229 := n5_
                have BK230 := n6_
                have BK231 := n7_
                have BK255 := n8_
                have HB := n9_
                clear n0_ n1_ n2_ n3_ n4_ n5_ n6_ n7_ n8_ n9_
                refine start_ (n := 25) (S := fun w' => w'.cell? ⟨gb230, 0, none⟩ = some (.int .i64 0) ∧ w'.cell? ⟨gb230, 1, none⟩ = some (.int .i64 (wrap64 (1 + (Int.tmod (wrap64 (a0_1)) (wrap64 (65536 - (wrap64 (a0_0)))))))) ∧ w'.cell? ⟨gb230, 2, none⟩ = some (.int .i64 (wrap64 (a0_0))) ∧ w'.cell? ⟨gb255, 0, none⟩ = some (.slice Ao95 t248.length co95) ∧ w'.cell? ⟨gb231, 0, none⟩ = some (.int .i64 0) ∧ w'.cell? ⟨gb231, 1, none⟩ = some (.int .i64 (wrap64 (1 + (Int.tmod (wrap64 (a1_1)) (wrap64 (65536 - (wrap64 (a1_0)))))))) ∧ w'.cell? ⟨gb231, 2, none⟩ = some (.int .i64 (wrap64 (a1_0)))) (ds := []) #[false, false, false, false, false, false, false, false, false, false, false, false, false, false, false, false, false, false, false, false, false, false, false, false, false] (by kernel_rfl) rfl rfl ⟨(blk_cell BK230.out 0).trans rfl, (blk_cell BK230.out 1).trans rfl, (blk_cell BK230.out 2).trans rfl, (blk_cell BK255.out 0).trans rfl, (blk_cell BK231.out 0).trans rfl, (blk_cell BK231.out 1).trans rfl, (blk_cell BK231.out 2).trans rfl⟩ (fun hHeld => ?_); refine with_tabW tegulalaw34_RefcountLarge.tab18 tegulalaw34_RefcountLarge.bits18 (fun HT_ HW_ => ?_)
                generalize wr.drew = w115 at HO_12 HO_230000 HO_256000 BK222 BK223 BK229 BK230 BK231 BK255 HB hHeld ⊢
                refine pure_ (i := 0) (N := some 137) (v := ?_) (a' := ?_) #[true, false, false, false, false, false, false, false, false, false, false, false, false, false, false, false, false, false, false, false, false, false, false, false, false] rfl rfl (any_of HT_.out (by kernel_rfl)) (fun _ _ _ h => h) (Or.inl ⟨by rfl, ?_⟩) ?_ ?_
                rotate_left
                ·
                 intro w'; go_simp; with_reducible rfl
                rotate_left
                ·
                 simp only [AP]; rfl
                refine pure_ (i := 1) (N := some 138) (v := ?_) (a' := ?_) #[true, true, false, false, false, false, false, false, false, false, false, false, false, false, false, false, false, false, false, false, false, false, false, false, false] rfl rfl (any_of HT_.out (by kernel_rfl)) (fun _ _ _ h => h) (Or.inl ⟨by rfl, ?_⟩) ?_ ?_
                rotate_left
                ·
                 intro w'; go_simp; with_reducible rfl
                rotate_left
                ·
                 simp only [AP]; rfl
                refine pure_ (i := 2) (N := some 139) (v := ?_) (a' := ?_) #[true, true, true, false, false, false, false, false, false, false, false, false, false, false, false, false, false, false, false, false, false, false, false, false, false] rfl rfl (any_of HT_.out (by kernel_rfl)) (fun _ _ _ h => h) (Or.inl ⟨by rfl, ?_⟩) ?_ ?_
                rotate_left
                ·
                 intro w'; go_simp; with_reducible rfl
                rotate_left
                ·
                 simp only [AP]; rfl
                refine pure_ (i := 3) (N := some 140) (v := ?_) (a' := ?_) #[true, true, true, true, false, false, false, false, false, false, false, false, false, false, false, false, false, false, false, false, false, false, false, false, false] rfl rfl (any_of HT_.out (by kernel_rfl)) (fun _ _ _ h => h) (Or.inl ⟨by rfl, ?_⟩) ?_ ?_
                rotate_left
                ·
                 intro w'; go_simp; with_reducible rfl
                rotate_left
                ·
                 simp only [AP]; rfl
                refine pure_ (i := 4) (N := some 141) (v := ?_) (a' := ?_) #[true, true, true, true, true, false, false, false, false, false, false, false, false, false, false, false, false, false, false, false, false, false, false, false, false] rfl rfl (any_of HT_.out (by kernel_rfl)) (fun _ _ _ h => h) (Or.inl ⟨by rfl, ?_⟩) ?_ ?_
                rotate_left
                ·
                 intro w'; go_simp; with_reducible rfl
                rotate_left
                ·
                 simp only [AP]; rfl
                refine pure_ (i := 6) (N := some 143) (v := ?_) (a' := ?_) #[true, true, true, true, true, false, true, false, false, false, false, false, false, false, false, false, false, false, false, false, false, false, false, false, false] rfl rfl (any_of HT_.out (by kernel_rfl)) (fun _ _ _ h => h) (Or.inl ⟨by rfl, ?_⟩) ?_ ?_
                rotate_left
                ·
                 intro w'; go_simp; with_reducible rfl
                rotate_left
                ·
                 simp only [AP]; rfl
                refine take_ (i := 5) (N := some 142) (v := ?_) (a' := ?_) #[true, true, true, true, true, true, true, false, false, false, false, false, false, false, false, false, false, false, false, false, false, false, false, false, false] rfl rfl (take_ofW HT_.out HW_.out (by kernel_rfl)) (fun _ _ _ h => h) (Or.inl ⟨by rfl, ?_⟩) hHeld ?_ ?_
                rotate_left
                ·
                 rintro w' ⟨s0, s1, s2, s3, s4, s5, s6⟩
                 go_simp; with_reducible rfl
                rotate_left
                ·
                 simp only [AP]; rfl
                refine pure_ (i := 7) (N := some 144) (v := ?_) (a' := ?_) #[true, true, true, true, true, true, true, true, false, false, false, false, false, false, false, false, false, false, false, false, false, false, false, false, false] rfl rfl (any_of HT_.out (by kernel_rfl)) (fun _ _ _ h => h) (Or.inl ⟨by rfl, ?_⟩) ?_ ?_
                rotate_left
                ·
                 intro w'; go_simp; with_reducible rfl
                rotate_left
                ·
                 simp only [AP]; rfl
                refine pure_ (i := 8) (N := some 145) (v := ?_) (a' := ?_) #[true, true, true, true, true, true, true, true, true, false, false, false, false, false, false, false, false, false, false, false, false, false, false, false, false] rfl rfl (any_of HT_.out (by kernel_rfl)) (fun _ _ _ h => h) (Or.inl ⟨by rfl, ?_⟩) ?_ ?_
                rotate_left
                ·
                 intro w'; go_simp; with_reducible rfl
                rotate_left
                ·
                 simp only [AP]; rfl
                refine pure_ (i := 9) (N := some 146) (v := ?_) (a' := ?_) #[true, true, true, true, true, true, true, true, true, true, false, false, false, false, false, false, false, false, false, false, false, false, false, false, false] rfl rfl (any_of HT_.out (by kernel_rfl)) (fun _ _ _ h => h) (Or.inl ⟨by rfl, ?_⟩) ?_ ?_
                rotate_left
                ·
                 intro w'; go_simp; with_reducible rfl
                rotate_left
                ·
                 simp only [AP]; rfl
                refine pure_ (i := 10) (N := some 147) (v := ?_) (a' := ?_) #[true, true, true, true, true, true, true, true, true, true, true, false, false, false, false, false, false, false, false, false, false, false, false, false, false] rfl rfl (any_of HT_.out (by kernel_rfl)) (fun _ _ _ h => h) (Or.inl ⟨by rfl, ?_⟩) ?_ ?_
                rotate_left
                ·
                 intro w'; go_simp; with_reducible rfl
                rotate_left
                ·
                 simp only [AP]; rfl
                refine pure_ (i := 13) (N := some 150) (v := ?_) (a' := ?_) #[true, true, true, true, true, true, true, true, true, true, true, false, false, true, false, false, false, false, false, false, false, false, false, false, false] rfl rfl (any_of HT_.out (by kernel_rfl)) (fun _ _ _ h => h) (Or.inl ⟨by rfl, ?_⟩) ?_ ?_
                rotate_left
                ·
                 intro w'; go_simp; with_reducible rfl
                rotate_left
                ·
                 simp only [AP]; rfl
                refine take_ (i := 11) (N := some 148) (v := ?_) (a' := ?_) #[true, true, true, true, true, true, true, true, true, true, true, true, false, true, false, false, false, false, false, false, false, false, false, false, false] rfl rfl (take_ofW HT_.out HW_.out (by kernel_rfl)) (fun _ _ _ h => h) (Or.inl ⟨by rfl, ?_⟩) hHeld ?_ ?_
                rotate_left
                ·
                 rintro w' ⟨s0, s1, s2, s3, s4, s5, s6⟩
                 go_simp; with_reducible rfl
                rotate_left
                ·
                 simp only [AP]; rfl
                refine take_ (i := 14) (N := some 151) (v := ?_) (a' := ?_) #[true, true, true, true, true, true, true, true, true, true, true, true, false, true, true, false, false, false, false, false, false, false, false, false, false] rfl rfl (take_ofW HT_.out HW_.out (by kernel_rfl)) (fun _ _ _ h => h) (Or.inl ⟨by rfl, ?_⟩) hHeld ?_ ?_
                rotate_left
                ·
                 rintro w' ⟨s0, s1, s2, s3, s4, s5, s6⟩
                 go_simp; with_reducible rfl
                rotate_left
                ·
                 simp only [AP]; rfl
                refine one_ (i := 12) (N := some 149) #[true, true, true, true, true, true, true, true, true, true, true, true, true, true, true, false, false, false, false, false, false, false, false, false, false] rfl rfl (one_of HT_.out (by kernel_rfl)) (by decide) (fun K hK => ?_)
                refine goes_ Try.func20 (by kernel_rfl) rfl #[.agg #[.slice Ao95 t248.length co95]] (by rfl) rfl rfl (by (try simp only [List.map_toArray, List.map_cons, List.map_nil]); first | done | rfl | (simp only [List.length_drop, List.length_take]; rfl)) ?_
                with_reducible refine (refcount_Counts_Used.calls _ _ t248 t257 _ ?side1 ?side2 A107.out).mono ?_
                (case side1 => repeat (first | exact (Kd.R_reads' HO_256000.out).2.2 | (with_reducible refine Kd.C_alloc ?_ _) | (with_reducible refine Kd.C_drewN ?_ _) | (with_reducible refine Kd.C_drew ?_)))
                (case side2 => exact (Kd.R_reads' HO_256000.out).2.1)
                rintro e w116 ⟨rfl, hb⟩
                refine ⟨_, rfl, ?_⟩
                have n0_ := Aside0.mk (Kd.R_below (rU HO_12.out) hb)
                have n1_ := Aside0.mk (Kd.R_below (rU HO_230000.out) hb)
                have n2_ := Aside0.mk (Kd.R_below (rU HO_256000.out) hb)
                have n3_ := Aside0.mk (blk_below (g := gb222) (o := .cells #[.int .u16 a0_0, .int .u16 a0_1] 52 (0, 0)) (kU BK222.out) hb)
                have n4_ := Aside0.mk (blk_below (g := gb223) (o := .cells #[.int .u16 a1_0, .int .u16 a1_1] 52 (0, 0)) (kU BK223.out) hb)
                have n5_ := Aside0.mk (blk_below (g := gb229) (o := .cells #[.slice Ao45 t235.length co45] 27 (0, 0)) (kU BK229.out) hb)
                have n6_ := Aside0.mk (blk_below (g := gb230) (o := .cells #[.int .i64 0, .int .i64 (wrap64 (1 + (Int.tmod (wrap64 (a0_1)) (wrap64 (65536 - (wrap64 (a0_0))))))), .int .i64 (wrap64 (a0_0))] 41 (0, 0)) (kU BK230.out) hb)
                have n7_ := Aside0.mk (blk_below (g := gb231) (o := .cells #[.int .i64 0, .int .i64 (wrap64 (1 + (Int.tmod (wrap64 (a1_1)) (wrap64 (65536 - (wrap64 (a1_0))))))), .int .i64 (wrap64 (a1_0))] 41 (0, 0)) (kU BK231.out) hb)
                have n8_ := Aside0.mk (blk_below (g := gb255) (o := .cells #[.slice Ao95 t248.length co95] 27 (0, 0)) (kU BK255.out) hb)
                have n9_ := Aside0.mk (below_step (by repeat (first | (with_reducible first | exact HB.out | apply below_alloc | apply pw_below_drewN | apply below_drew1 | refine below_set ?_ GE222.out | refine below_set ?_ GE223.out | refine below_set ?_ GE229.out | refine below_set ?_ GE230.out | refine below_set ?_ GE231.out | refine below_set ?_ GE255.out) | exact HB.out)) hb)
                clear HO_12
                clear HO_230000
                clear HO_256000
                clear BK222
                clear BK223
                clear BK229
                clear BK230
                clear BK231
                clear BK255
                clear HB
                have HO_12 := n0_
                have HO_230000 := n1_
                have HO_256000 := n2_
                have BK222 := n3_
                have BK223 := n4_
                have BK229 := n5_
                have BK230 := n6_
                have BK231 := n7_
                have BK255 := n8_
                have HB := n9_
                clear n0_ n1_ n2_ n3_ n4_ n5_ n6_ n7_ n8_ n9_
                (try clear hb)
                (try clear hb2)
                (try clear hk)
                (try clear hi)
                refine hK.out _ _ ⟨(blk_cell BK230.out 0).trans rfl, (blk_cell BK230.out 1).trans rfl, (blk_cell BK230.out 2).trans rfl, (blk_cell BK255.out 0).trans rfl, (blk_cell BK231.out 0).trans rfl, (blk_cell BK231.out 1).trans rfl, (blk_cell BK231.out 2).trans rfl⟩ (fun hHeld => ?_)
                clear hK K
                refine norm_ (a' := ?_) ?_ ?_
                rotate_left
                ·
                 show Act.put _ (some 149) _ = _
                 simp only [AP]; rfl
                refine pure_ (i := 15) (N := some 152) (v := ?_) (a' := ?_) #[true, true, true, true, true, true, true, true, true, true, true, true, true, true, true, true, false, false, false, false, false, false, false, false, false] rfl rfl (any_of HT_.out (by kernel_rfl)) (fun _ _ _ h => h) (Or.inl ⟨by rfl, ?_⟩) ?_ ?_
                rotate_left
                ·
                 intro w'; go_simp; with_reducible rfl
                rotate_left
                ·
                 simp only [AP]; rfl
                refine pure_ (i := 16) (N := some 153) (v := ?_) (a' := ?_) #[true, true, true, true, true, true, true, true, true, true, true, true, true, true, true, true, true, false, false, false, false, false, false, false, false] rfl rfl (any_of HT_.out (by kernel_rfl)) (fun _ _ _ h => h) (Or.inl ⟨by rfl, ?_⟩) ?_ ?_
                rotate_left
                ·
                 intro w'; go_simp; with_reducible rfl
                rotate_left
                ·
                 simp only [AP]; rfl
                refine pure_ (i := 17) (N := some 154) (v := ?_) (a' := ?_) #[true, true, true, true, true, true, true, true, true, true, true, true, true, true, true, true, true, true, false, false, false, false, false, false, false] rfl rfl (any_of HT_.out (by kernel_rfl)) (fun _ _ _ h => h) (Or.inl ⟨by rfl, ?_⟩) ?_ ?_
                rotate_left
                ·
                 intro w'; go_simp; with_reducible rfl
                rotate_left
                ·
                 simp only [AP]; rfl
                refine pure_ (i := 18) (N := some 155) (v := undef) (a' := ?_) #[true, true, true, true, true, true, true, true, true, true, true, true, true, true, true, true, true, true, true, false, false, false, false, false, false] rfl rfl (any_of HT_.out (by kernel_rfl)) (fun _ _ _ h => h) (Or.inr ⟨by rfl, rfl⟩) ?_ ?_
                rotate_left
                ·
                 simp only [AP]; rfl
                refine pure_ (i := 19) (N := some 156) (v := undef) (a' := ?_) #[true, true, true, true, true, true, true, true, true, true, true, true, true, true, true, true, true, true, true, true, false, false, false, false, false] rfl rfl (any_of HT_.out (by kernel_rfl)) (fun _ _ _ h => h) (Or.inr ⟨by rfl, rfl⟩) ?_ ?_
                rotate_left
                ·
                 simp only [AP]; rfl
                refine pure_ (i := 20) (N := some 157) (v := undef) (a' := ?_) #[true, true, true, true, true, true, true, true, true, true, true, true, true, true, true, true, true, true, true, true, true, false, false, false, false] rfl rfl (any_of HT_.out (by kernel_rfl)) (fun _ _ _ h => h) (Or.inr ⟨by rfl, rfl⟩) ?_ ?_
                rotate_left
                ·
                 simp only [AP]; rfl
                refine pure_ (i := 21) (N := some 158) (v := undef) (a' := ?_) #[true, true, true, true, true, true, true, true, true, true, true, true, true, true, true, true, true, true, true, true, true, true, false, false, false] rfl rfl (any_of HT_.out (by kernel_rfl)) (fun _ _ _ h => h) (Or.inr ⟨by rfl, rfl⟩) ?_ ?_
                rotate_left
                ·
                 simp only [AP]; rfl
                refine pure_ (i := 22) (N := some 159) (v := undef) (a' := ?_) #[true, true, true, true, true, true, true, true, true, true, true, true, true, true, true, true, true, true, true, true, true, true, true, false, false] rfl rfl (any_of HT_.out (by kernel_rfl)) (fun _ _ _ h => h) (Or.inr ⟨by rfl, rfl⟩) ?_ ?_
                rotate_left
                ·
                 simp only [AP]; rfl
                refine pure_ (i := 23) (N := some 160) (v := ?_) (a' := ?_) #[true, true, true, true, true, true, true, true, true, true, true, true, true, true, true, true, true, true, true, true, true, true, true, true, false] rfl rfl (any_of HT_.out (by kernel_rfl)) (fun _ _ _ h => h) (Or.inl ⟨by rfl, ?_⟩) ?_ ?_
                rotate_left
                ·
                 intro w'; go_simp; with_reducible rfl
                rotate_left
                ·
                 simp only [AP]; rfl
                refine pure_ (i := 24) (N := some 4) (v := ?_) (a' := ?_) #[true, true, true, true, true, true, true, true, true, true, true, true, true, true, true, true, true, true, true, true, true, true, true, true, true] rfl rfl (any_of HT_.out (by kernel_rfl)) (fun _ _ _ h => h) (Or.inl ⟨by rfl, ?_⟩) ?_ ?_
                rotate_left
                ·
                 intro w'; go_simp; with_reducible rfl
                rotate_left
                ·
                 simp only [AP]; rfl
                refine done_ (done_of HT_.out (by kernel_rfl)) ?_
                try go_wp2
                go_ret
                exact ⟨by first | rfl | (simp [errW_none, errW_some] <;> rfl) | (simp only [← hji49, ← hji50, ← hji51]; first | rfl | (simp [errW_none, errW_some] <;> rfl)) | (simp [*, errW_none, errW_some] <;> rfl), by repeat (first | (with_reducible first | exact HB.out | apply below_alloc | apply pw_below_drewN | apply below_drew1 | refine below_set ?_ GE222.out | refine below_set ?_ GE223.out | refine below_set ?_ GE229.out | refine below_set ?_ GE230.out | refine below_set ?_ GE231.out | refine below_set ?_ GE255.out) | exact HB.out)⟩
              ·
               rw [if_neg c106] at H
               have c106b0 : (x14_3 == (wrap64 ((wrap64 (1 + (Int.tmod (wrap64 (a0_1)) (wrap64 (65536 - (wrap64 (a0_0))))))) - ji51))) = false := beq_eq_false_iff_ne.mpr c106
               have c106b1 : (x14_3 != (wrap64 ((wrap64 (1 + (Int.tmod (wrap64 (a0_1)) (wrap64 (65536 - (wrap64 (a0_0))))))) - ji51))) = true := bne_iff_ne.mpr c106
               obtain rfl := Option.some.inj H
               obtain ⟨Ao117, co117, eo117⟩ := Kd.R_slice HO_12.out
               subst eo117
               try go_wp2
               have n0_ := Aside0.mk (Kd.R_drew HO_12.out)
               have n1_ := Aside0.mk (Kd.R_drew HO_230000.out)
               have n2_ := Aside0.mk (Kd.R_drew HO_256000.out)
               have n3_ := Aside0.mk (blk_drew BK222.out)
               have n4_ := Aside0.mk (blk_drew BK223.out)
               have n5_ := Aside0.mk (blk_drew BK229.out)
               have n6_ := Aside0.mk (blk_drew BK230.out)
               have n7_ := Aside0.mk (blk_drew BK231.out)
               have n8_ := Aside0.mk (blk_drew BK255.out)
               have n9_ := Aside0.mk (below_drew1 HB.out)
               clear HO_12
               clear HO_230000
               clear HO_256000
               clear BK222
               clear BK223
               clear BK229
               clear BK230
               clear BK231
               clear BK255
               clear HB
               have HO_12 := n0_
               have HO_230000 := n1_
               have HO_256000 := n2_
               have BK222 := n3_
               have BK223 := n4_
               have BK229 := n5_
               have BK230 := n6_
               have BK231 := n7_
               have BK255 := n8_
               have HB := n9_
               clear n0_ n1_ n2_ n3_ n4_ n5_ n6_ n7_ n8_ n9_
               refine start_ (n := 25) (S := fun w' => w'.cell? ⟨gb230, 0, none⟩ = some (.int .i64 0) ∧ w'.cell? ⟨gb230, 1, none⟩ = some (.int .i64 (wrap64 (1 + (Int.tmod (wrap64 (a0_1)) (wrap64 (65536 - (wrap64 (a0_0)))))))) ∧ w'.cell? ⟨gb230, 2, none⟩ = some (.int .i64 (wrap64 (a0_0)))) (ds := []) #[false, false, false, false, false, false, false, false, false, false, false, false, false, false, false, false, false, false, false, false, false, false, false, false, false] (by kernel_rfl) rfl rfl ⟨(blk_cell BK230.out 0).trans rfl, (blk_cell BK230.out 1).trans rfl, (blk_cell BK230.out 2).trans rfl⟩ (fun hHeld => ?_); refine with_tabW tegulalaw34_RefcountLarge.tab18 tegulalaw34_RefcountLarge.bits18 (fun HT_ HW_ => ?_)
               generalize wr.drew = w118 at HO_12 HO_230000 HO_256000 BK222 BK223 BK229 BK230 BK231 BK255 HB hHeld ⊢
               refine pure_ (i := 0) (N := some 137) (v := ?_) (a' := ?_) #[true, false, false, false, false, false, false, false, false, false, false, false, false, false, false, false, false, false, false, false, false, false, false, false, false] rfl rfl (any_of HT_.out (by kernel_rfl)) (fun _ _ _ h => h) (Or.inl ⟨by rfl, ?_⟩) ?_ ?_
               rotate_left
               ·
                intro w'; go_simp; with_reducible rfl
               rotate_left
               ·
                simp only [AP]; rfl
               refine pure_ (i := 1) (N := some 138) (v := ?_) (a' := ?_) #[true, true, false, false, false, false, false, false, false, false, false, false, false, false, false, false, false, false, false, false, false, false, false, false, false] rfl rfl (any_of HT_.out (by kernel_rfl)) (fun _ _ _ h => h) (Or.inl ⟨by rfl, ?_⟩) ?_ ?_
               rotate_left
               ·
                intro w'; go_simp; with_reducible rfl
               rotate_left
               ·
                simp only [AP]; rfl
               refine pure_ (i := 2) (N := some 139) (v := ?_) (a' := ?_) #[true, true, true, false, false, false, false, false, false, false, false, false, false, false, false, false, false, false, false, false, false, false, false, false, false] rfl rfl (any_of HT_.out (by kernel_rfl)) (fun _ _ _ h => h) (Or.inl ⟨by rfl, ?_⟩) ?_ ?_
               rotate_left
               ·
                intro w'; go_simp; with_reducible rfl
               rotate_left
               ·
                simp only [AP]; rfl
               refine pure_ (i := 3) (N := some 140) (v := ?_) (a' := ?_) #[true, true, true, true, false, false, false, false, false, false, false, false, false, false, false, false, false, false, false, false, false, false, false, false, false] rfl rfl (any_of HT_.out (by kernel_rfl)) (fun _ _ _ h => h) (Or.inl ⟨by rfl, ?_⟩) ?_ ?_
               rotate_left
               ·
                intro w'; go_simp; with_reducible rfl
               rotate_left
               ·
                simp only [AP]; rfl
               refine pure_ (i := 4) (N := some 141) (v := ?_) (a' := ?_) #[true, true, true, true, true, false, false, false, false, false, false, false, false, false, false, false, false, false, false, false, false, false, false, false, false] rfl rfl (any_of HT_.out (by kernel_rfl)) (fun _ _ _ h => h) (Or.inl ⟨by rfl, ?_⟩) ?_ ?_
               rotate_left
               ·
                intro w'; go_simp; with_reducible rfl
               rotate_left
               ·
                simp only [AP]; rfl
               refine pure_ (i := 6) (N := some 143) (v := ?_) (a' := ?_) #[true, true, true, true, true, false, true, false, false, false, false, false, false, false, false, false, false, false, false, false, false, false, false, false, false] rfl rfl (any_of HT_.out (by kernel_rfl)) (fun _ _ _ h => h) (Or.inl ⟨by rfl, ?_⟩) ?_ ?_
               rotate_left
               ·
                intro w'; go_simp; with_reducible rfl
               rotate_left
               ·
                simp only [AP]; rfl
               refine take_ (i := 5) (N := some 142) (v := ?_) (a' := ?_) #[true, true, true, true, true, true, true, false, false, false, false, false, false, false, false, false, false, false, false, false, false, false, false, false, false] rfl rfl (take_ofW HT_.out HW_.out (by kernel_rfl)) (fun _ _ _ h => h) (Or.inl ⟨by rfl, ?_⟩) hHeld ?_ ?_
               rotate_left
               ·
                rintro w' ⟨s0, s1, s2⟩
                go_simp; with_reducible rfl
               rotate_left
               ·
                simp only [AP]; rfl
               refine pure_ (i := 7) (N := some 144) (v := ?_) (a' := ?_) #[true, true, true, true, true, true, true, true, false, false, false, false, false, false, false, false, false, false, false, false, false, false, false, false, false] rfl rfl (any_of HT_.out (by kernel_rfl)) (fun _ _ _ h => h) (Or.inl ⟨by rfl, ?_⟩) ?_ ?_
               rotate_left
               ·
                intro w'; go_simp; with_reducible rfl
               rotate_left
               ·
                simp only [AP]; rfl
               refine pure_ (i := 8) (N := some 145) (v := ?_) (a' := ?_) #[true, true, true, true, true, true, true, true, true, false, false, false, false, false, false, false, false, false, false, false, false, false, false, false, false] rfl rfl (any_of HT_.out (by kernel_rfl)) (fun _ _ _ h => h) (Or.inl ⟨by rfl, ?_⟩) ?_ ?_
               rotate_left
               ·
                intro w'; go_simp; with_reducible rfl
               rotate_left
               ·
                simp only [AP]; rfl
               refine pure_ (i := 9) (N := some 146) (v := ?_) (a' := ?_) #[true, true, true, true, true, true, true, true, true, true, false, false, false, false, false, false, false, false, false, false, false, false, false, false, false] rfl rfl (any_of HT_.out (by kernel_rfl)) (fun _ _ _ h => h) (Or.inl ⟨by rfl, ?_⟩) ?_ ?_
               rotate_left
               ·
                intro w'; go_simp; with_reducible rfl
               rotate_left
               ·
                simp only [AP]; rfl
               refine pure_ (i := 10) (N := some 147) (v := ?_) (a' := ?_) #[true, true, true, true, true, true, true, true, true, true, true, false, false, false, false, false, false, false, false, false, false, false, false, false, false] rfl rfl (any_of HT_.out (by kernel_rfl)) (fun _ _ _ h => h) (Or.inl ⟨by rfl, ?_⟩) ?_ ?_
               rotate_left
               ·
                intro w'; go_simp; with_reducible rfl
               rotate_left
               ·
                simp only [AP]; rfl
               refine pure_ (i := 11) (N := some 148) (v := undef) (a' := ?_) #[true, true, true, true, true, true, true, true, true, true, true, true, false, false, false, false, false, false, false, false, false, false, false, false, false] rfl rfl (any_of HT_.out (by kernel_rfl)) (fun _ _ _ h => h) (Or.inr ⟨by rfl, rfl⟩) ?_ ?_
               rotate_left
               ·
                simp only [AP]; rfl
               refine pure_ (i := 12) (N := some 149) (v := undef) (a' := ?_) #[true, true, true, true, true, true, true, true, true, true, true, true, true, false, false, false, false, false, false, false, false, false, false, false, false] rfl rfl (any_of HT_.out (by kernel_rfl)) (fun _ _ _ h => h) (Or.inr ⟨by rfl, rfl⟩) ?_ ?_
               rotate_left
               ·
                simp only [AP]; rfl
               refine pure_ (i := 13) (N := some 150) (v := undef) (a' := ?_) #[true, true, true, true, true, true, true, true, true, true, true, true, true, true, false, false, false, false, false, false, false, false, false, false, false] rfl rfl (any_of HT_.out (by kernel_rfl)) (fun _ _ _ h => h) (Or.inr ⟨by rfl, rfl⟩) ?_ ?_
               rotate_left
               ·
                simp only [AP]; rfl
               refine pure_ (i := 14) (N := some 151) (v := undef) (a' := ?_) #[true, true, true, true, true, true, true, true, true, true, true, true, true, true, true, false, false, false, false, false, false, false, false, false, false] rfl rfl (any_of HT_.out (by kernel_rfl)) (fun _ _ _ h => h) (Or.inr ⟨by rfl, rfl⟩) ?_ ?_
               rotate_left
               ·
                simp only [AP]; rfl
               refine pure_ (i := 15) (N := some 152) (v := undef) (a' := ?_) #[true, true, true, true, true, true, true, true, true, true, true, true, true, true, true, true, false, false, false, false, false, false, false, false, false] rfl rfl (any_of HT_.out (by kernel_rfl)) (fun _ _ _ h => h) (Or.inr ⟨by rfl, rfl⟩) ?_ ?_
               rotate_left
               ·
                simp only [AP]; rfl
               refine pure_ (i := 16) (N := some 153) (v := ?_) (a' := ?_) #[true, true, true, true, true, true, true, true, true, true, true, true, true, true, true, true, true, false, false, false, false, false, false, false, false] rfl rfl (any_of HT_.out (by kernel_rfl)) (fun _ _ _ h => h) (Or.inl ⟨by rfl, ?_⟩) ?_ ?_
               rotate_left
               ·
                intro w'; go_simp; with_reducible rfl
               rotate_left
               ·
                simp only [AP]; rfl
               refine pure_ (i := 17) (N := some 154) (v := ?_) (a' := ?_) #[true, true, true, true, true, true, true, true, true, true, true, true, true, true, true, true, true, true, false, false, false, false, false, false, false] rfl rfl (any_of HT_.out (by kernel_rfl)) (fun _ _ _ h => h) (Or.inl ⟨by rfl, ?_⟩) ?_ ?_
               rotate_left
               ·
                intro w'; go_simp; with_reducible rfl
               rotate_left
               ·
                simp only [AP]; rfl
               refine pure_ (i := 18) (N := some 155) (v := undef) (a' := ?_) #[true, true, true, true, true, true, true, true, true, true, true, true, true, true, true, true, true, true, true, false, false, false, false, false, false] rfl rfl (any_of HT_.out (by kernel_rfl)) (fun _ _ _ h => h) (Or.inr ⟨by rfl, rfl⟩) ?_ ?_
               rotate_left
               ·
                simp only [AP]; rfl
               refine pure_ (i := 19) (N := some 156) (v := undef) (a' := ?_) #[true, true, true, true, true, true, true, true, true, true, true, true, true, true, true, true, true, true, true, true, false, false, false, false, false] rfl rfl (any_of HT_.out (by kernel_rfl)) (fun _ _ _ h => h) (Or.inr ⟨by rfl, rfl⟩) ?_ ?_
               rotate_left
               ·
                simp only [AP]; rfl
               refine pure_ (i := 20) (N := some 157) (v := undef) (a' := ?_) #[true, true, true, true, true, true, true, true, true, true, true, true, true, true, true, true, true, true, true, true, true, false, false, false, false] rfl rfl (any_of HT_.out (by kernel_rfl)) (fun _ _ _ h => h) (Or.inr ⟨by rfl, rfl⟩) ?_ ?_
               rotate_left
               ·
                simp only [AP]; rfl
               refine pure_ (i := 21) (N := some 158) (v := undef) (a' := ?_) #[true, true, true, true, true, true, true, true, true, true, true, true, true, true, true, true, true, true, true, true, true, true, false, false, false] rfl rfl (any_of HT_.out (by kernel_rfl)) (fun _ _ _ h => h) (Or.inr ⟨by rfl, rfl⟩) ?_ ?_
               rotate_left
               ·
                simp only [AP]; rfl
               refine pure_ (i := 22) (N := some 159) (v := undef) (a' := ?_) #[true, true, true, true, true, true, true, true, true, true, true, true, true, true, true, true, true, true, true, true, true, true, true, false, false] rfl rfl (any_of HT_.out (by kernel_rfl)) (fun _ _ _ h => h) (Or.inr ⟨by rfl, rfl⟩) ?_ ?_
               rotate_left
               ·
                simp only [AP]; rfl
               refine pure_ (i := 23) (N := some 160) (v := ?_) (a' := ?_) #[true, true, true, true, true, true, true, true, true, true, true, true, true, true, true, true, true, true, true, true, true, true, true, true, false] rfl rfl (any_of HT_.out (by kernel_rfl)) (fun _ _ _ h => h) (Or.inl ⟨by rfl, ?_⟩) ?_ ?_
               rotate_left
               ·
                intro w'; go_simp; with_reducible rfl
               rotate_left
               ·
                simp only [AP]; rfl
               refine pure_ (i := 24) (N := some 4) (v := ?_) (a' := ?_) #[true, true, true, true, true, true, true, true, true, true, true, true, true, true, true, true, true, true, true, true, true, true, true, true, true] rfl rfl (any_of HT_.out (by kernel_rfl)) (fun _ _ _ h => h) (Or.inl ⟨by rfl, ?_⟩) ?_ ?_
               rotate_left
               ·
                intro w'; go_simp; with_reducible rfl
               rotate_left
               ·
                simp only [AP]; rfl
               refine done_ (done_of HT_.out (by kernel_rfl)) ?_
               try go_wp2
               go_ret
               exact ⟨by first | rfl | (simp [errW_none, errW_some] <;> rfl) | (simp only [← hji49, ← hji50, ← hji51]; first | rfl | (simp [errW_none, errW_some] <;> rfl)) | (simp [*, errW_none, errW_some] <;> rfl), by repeat (first | (with_reducible first | exact HB.out | apply below_alloc | apply pw_below_drewN | apply below_drew1 | refine below_set ?_ GE222.out | refine below_set ?_ GE223.out | refine below_set ?_ GE229.out | refine below_set ?_ GE230.out | refine below_set ?_ GE231.out | refine below_set ?_ GE255.out) | exact HB.out)⟩
             ·
              rw [if_neg c105] at H
              have c105b0 : (t254 == 0) = false := beq_eq_false_iff_ne.mpr c105
              have c105b1 : (t254 != 0) = true := bne_iff_ne.mpr c105
              obtain rfl := Option.some.inj H
              obtain ⟨Ao119, co119, eo119⟩ := Kd.R_slice HO_12.out
              subst eo119
              try go_wp2
              have n0_ := Aside0.mk (Kd.R_drew HO_12.out)
              have n1_ := Aside0.mk (Kd.R_drew HO_230000.out)
              have n2_ := Aside0.mk (Kd.R_drew HO_256000.out)
              have n3_ := Aside0.mk (blk_drew BK222.out)
              have n4_ := Aside0.mk (blk_drew BK223.out)
              have n5_ := Aside0.mk (blk_drew BK229.out)
              have n6_ := Aside0.mk (blk_drew BK230.out)
              have n7_ := Aside0.mk (blk_drew BK231.out)
              have n8_ := Aside0.mk (blk_drew BK255.out)
              have n9_ := Aside0.mk (below_drew1 HB.out)
              clear HO_12
              clear HO_230000
              clear HO_256000
              clear BK222
              clear BK223
              clear BK229
              clear BK230
              clear BK231
              clear BK255
              clear HB
              have HO_12 := n0_
              have HO_230000 := n1_
              have HO_256000 := n2_
              have BK222 := n3_
              have BK223 := n4_
              have BK229 := n5_
              have BK230 := n6_
              have BK231 := n7_
              have BK255 := n8_
              have HB := n9_
              clear n0_ n1_ n2_ n3_ n4_ n5_ n6_ n7_ n8_ n9_
              refine start_ (n := 25) (S := fun w' => True) (ds := []) #[false, false, false, false, false, false, false, false, false, false, false, false, false, false, false, false, false, false, false, false, false, false, false, false, false] (by kernel_rfl) rfl rfl trivial (fun hHeld => ?_); refine with_tabW tegulalaw34_RefcountLarge.tab18 tegulalaw34_RefcountLarge.bits18 (fun HT_ HW_ => ?_)
              generalize wr.drew = w120 at HO_12 HO_230000 HO_256000 BK222 BK223 BK229 BK230 BK231 BK255 HB hHeld ⊢
              refine pure_ (i := 0) (N := some 137) (v := ?_) (a' := ?_) #[true, false, false, false, false, false, false, false, false, false, false, false, false, false, false, false, false, false, false, false, false, false, false, false, false] rfl rfl (any_of HT_.out (by kernel_rfl)) (fun _ _ _ h => h) (Or.inl ⟨by rfl, ?_⟩) ?_ ?_
              rotate_left
              ·
               intro w'; go_simp; with_reducible rfl
              rotate_left
              ·
               simp only [AP]; rfl
              refine pure_ (i := 1) (N := some 138) (v := ?_) (a' := ?_) #[true, true, false, false, false, false, false, false, false, false, false, false, false, false, false, false, false, false, false, false, false, false, false, false, false] rfl rfl (any_of HT_.out (by kernel_rfl)) (fun _ _ _ h => h) (Or.inl ⟨by rfl, ?_⟩) ?_ ?_
              rotate_left
              ·
               intro w'; go_simp; with_reducible rfl
              rotate_left
              ·
               simp only [AP]; rfl
              refine pure_ (i := 2) (N := some 139) (v := ?_) (a' := ?_) #[true, true, true, false, false, false, false, false, false, false, false, false, false, false, false, false, false, false, false, false, false, false, false, false, false] rfl rfl (any_of HT_.out (by kernel_rfl)) (fun _ _ _ h => h) (Or.inl ⟨by rfl, ?_⟩) ?_ ?_
              rotate_left
              ·
               intro w'; go_simp; with_reducible rfl
              rotate_left
              ·
               simp only [AP]; rfl
              refine pure_ (i := 3) (N := some 140) (v := undef) (a' := ?_) #[true, true, true, true, false, false, false, false, false, false, false, false, false, false, false, false, false, false, false, false, false, false, false, false, false] rfl rfl (any_of HT_.out (by kernel_rfl)) (fun _ _ _ h => h) (Or.inr ⟨by rfl, rfl⟩) ?_ ?_
              rotate_left
              ·
               simp only [AP]; rfl
              refine pure_ (i := 4) (N := some 141) (v := undef) (a' := ?_) #[true, true, true, true, true, false, false, false, false, false, false, false, false, false, false, false, false, false, false, false, false, false, false, false, false] rfl rfl (any_of HT_.out (by kernel_rfl)) (fun _ _ _ h => h) (Or.inr ⟨by rfl, rfl⟩) ?_ ?_
              rotate_left
              ·
               simp only [AP]; rfl
              refine pure_ (i := 5) (N := some 142) (v := undef) (a' := ?_) #[true, true, true, true, true, true, false, false, false, false, false, false, false, false, false, false, false, false, false, false, false, false, false, false, false] rfl rfl (any_of HT_.out (by kernel_rfl)) (fun _ _ _ h => h) (Or.inr ⟨by rfl, rfl⟩) ?_ ?_
              rotate_left
              ·
               simp only [AP]; rfl
              refine pure_ (i := 6) (N := some 143) (v := undef) (a' := ?_) #[true, true, true, true, true, true, true, false, false, false, false, false, false, false, false, false, false, false, false, false, false, false, false, false, false] rfl rfl (any_of HT_.out (by kernel_rfl)) (fun _ _ _ h => h) (Or.inr ⟨by rfl, rfl⟩) ?_ ?_
              rotate_left
              ·
               simp only [AP]; rfl
              refine pure_ (i := 7) (N := some 144) (v := undef) (a' := ?_) #[true, true, true, true, true, true, true, true, false, false, false, false, false, false, false, false, false, false, false, false, false, false, false, false, false] rfl rfl (any_of HT_.out (by kernel_rfl)) (fun _ _ _ h => h) (Or.inr ⟨by rfl, rfl⟩) ?_ ?_
              rotate_left
              ·
               simp only [AP]; rfl
              refine pure_ (i := 8) (N := some 145) (v := undef) (a' := ?_) #[true, true, true, true, true, true, true, true, true, false, false, false, false, false, false, false, false, false, false, false, false, false, false, false, false] rfl rfl (any_of HT_.out (by kernel_rfl)) (fun _ _ _ h => h) (Or.inr ⟨by rfl, rfl⟩) ?_ ?_
              rotate_left
              ·
               simp only [AP]; rfl
              refine pure_ (i := 9) (N := some 146) (v := ?_) (a' := ?_) #[true, true, true, true, true, true, true, true, true, true, false, false, false, false, false, false, false, false, false, false, false, false, false, false, false] rfl rfl (any_of HT_.out (by kernel_rfl)) (fun _ _ _ h => h) (Or.inl ⟨by rfl, ?_⟩) ?_ ?_
              rotate_left
              ·
               intro w'; go_simp; with_reducible rfl
              rotate_left
              ·
               simp only [AP]; rfl
              refine pure_ (i := 10) (N := some 147) (v := ?_) (a' := ?_) #[true, true, true, true, true, true, true, true, true, true, true, false, false, false, false, false, false, false, false, false, false, false, false, false, false] rfl rfl (any_of HT_.out (by kernel_rfl)) (fun _ _ _ h => h) (Or.inl ⟨by rfl, ?_⟩) ?_ ?_
              rotate_left
              ·
               intro w'; go_simp; with_reducible rfl
              rotate_left
              ·
               simp only [AP]; rfl
              refine pure_ (i := 11) (N := some 148) (v := undef) (a' := ?_) #[true, true, true, true, true, true, true, true, true, true, true, true, false, false, false, false, false, false, false, false, false, false, false, false, false] rfl rfl (any_of HT_.out (by kernel_rfl)) (fun _ _ _ h => h) (Or.inr ⟨by rfl, rfl⟩) ?_ ?_
              rotate_left
              ·
               simp only [AP]; rfl
              refine pure_ (i := 12) (N := some 149) (v := undef) (a' := ?_) #[true, true, true, true, true, true, true, true, true, true, true, true, true, false, false, false, false, false, false, false, false, false, false, false, false] rfl rfl (any_of HT_.out (by kernel_rfl)) (fun _ _ _ h => h) (Or.inr ⟨by rfl, rfl⟩) ?_ ?_
              rotate_left
              ·
               simp only [AP]; rfl
              refine pure_ (i := 13) (N := some 150) (v := undef) (a' := ?_) #[true, true, true, true, true, true, true, true, true, true, true, true, true, true, false, false, false, false, false, false, false, false, false, false, false] rfl rfl (any_of HT_.out (by kernel_rfl)) (fun _ _ _ h => h) (Or.inr ⟨by rfl, rfl⟩) ?_ ?_
              rotate_left
              ·
               simp only [AP]; rfl
              refine pure_ (i := 14) (N := some 151) (v := undef) (a' := ?_) #[true, true, true, true, true, true, true, true, true, true, true, true, true, true, true, false, false, false, false, false, false, false, false, false, false] rfl rfl (any_of HT_.out (by kernel_rfl)) (fun _ _ _ h => h) (Or.inr ⟨by rfl, rfl⟩) ?_ ?_
              rotate_left
              ·
               simp only [AP]; rfl
              refine pure_ (i := 15) (N := some 152) (v := undef) (a' := ?_) #[true, true, true, true, true, true, true, true, true, true, true, true, true, true, true, true, false, false, false, false, false, false, false, false, false] rfl rfl (any_of HT_.out (by kernel_rfl)) (fun _ _ _ h => h) (Or.inr ⟨by rfl, rfl⟩) ?_ ?_
              rotate_left
              ·
               simp only [AP]; rfl
              refine pure_ (i := 16) (N := some 153) (v := ?_) (a' := ?_) #[true, true, true, true, true, true, true, true, true, true, true, true, true, true, true, true, true, false, false, false, false, false, false, false, false] rfl rfl (any_of HT_.out (by kernel_rfl)) (fun _ _ _ h => h) (Or.inl ⟨by rfl, ?_⟩) ?_ ?_
              rotate_left
              ·
               intro w'; go_simp; with_reducible rfl
              rotate_left
              ·
               simp only [AP]; rfl
              refine pure_ (i := 17) (N := some 154) (v := ?_) (a' := ?_) #[true, true, true, true, true, true, true, true, true, true, true, true, true, true, true, true, true, true, false, false, false, false, false, false, false] rfl rfl (any_of HT_.out (by kernel_rfl)) (fun _ _ _ h => h) (Or.inl ⟨by rfl, ?_⟩) ?_ ?_
              rotate_left
              ·
               intro w'; go_simp; with_reducible rfl
              rotate_left
              ·
               simp only [AP]; rfl
              refine pure_ (i := 18) (N := some 155) (v := undef) (a' := ?_) #[true, true, true, true, true, true, true, true, true, true, true, true, true, true, true, true, true, true, true, false, false, false, false, false, false] rfl rfl (any_of HT_.out (by kernel_rfl)) (fun _ _ _ h => h) (Or.inr ⟨by rfl, rfl⟩) ?_ ?_
              rotate_left
              ·
               simp only [AP]; rfl
              refine pure_ (i := 19) (N := some 156) (v := undef) (a' := ?_) #[true, true, true, true, true, true, true, true, true, true, true, true, true, true, true, true, true, true, true, true, false, false, false, false, false] rfl rfl (any_of HT_.out (by kernel_rfl)) (fun _ _ _ h => h) (Or.inr ⟨by rfl, rfl⟩) ?_ ?_
              rotate_left
              ·
               simp only [AP]; rfl
              refine pure_ (i := 20) (N := some 157) (v := undef) (a' := ?_) #[true, true, true, true, true, true, true, true, true, true, true, true, true, true, true, true, true, true, true, true, true, false, false, false, false] rfl rfl (any_of HT_.out (by kernel_rfl)) (fun _ _ _ h => h) (Or.inr ⟨by rfl, rfl⟩) ?_ ?_
              rotate_left
              ·
               simp only [AP]; rfl
              refine pure_ (i := 21) (N := some 158) (v := undef) (a' := ?_) #[true, true, true, true, true, true, true, true, true, true, true, true, true, true, true, true, true, true, true, true, true, true, false, false, false] rfl rfl (any_of HT_.out (by kernel_rfl)) (fun _ _ _ h => h) (Or.inr ⟨by rfl, rfl⟩) ?_ ?_
              rotate_left
              ·
               simp only [AP]; rfl
              refine pure_ (i := 22) (N := some 159) (v := undef) (a' := ?_) #[true, true, true, true, true, true, true, true, true, true, true, true, true, true, true, true, true, true, true, true, true, true, true, false, false] rfl rfl (any_of HT_.out (by kernel_rfl)) (fun _ _ _ h => h) (Or.inr ⟨by rfl, rfl⟩) ?_ ?_
              rotate_left
              ·
               simp only [AP]; rfl
              refine pure_ (i := 23) (N := some 160) (v := ?_) (a' := ?_) #[true, true, true, true, true, true, true, true, true, true, true, true, true, true, true, true, true, true, true, true, true, true, true, true, false] rfl rfl (any_of HT_.out (by kernel_rfl)) (fun _ _ _ h => h) (Or.inl ⟨by rfl, ?_⟩) ?_ ?_
              rotate_left
              ·
               intro w'; go_simp; with_reducible rfl
              rotate_left
              ·
               simp only [AP]; rfl
              refine pure_ (i := 24) (N := some 4) (v := ?_) (a' := ?_) #[true, true, true, true, true, true, true, true, true, true, true, true, true, true, true, true, true, true, true, true, true, true, true, true, true] rfl rfl (any_of HT_.out (by kernel_rfl)) (fun _ _ _ h => h) (Or.inl ⟨by rfl, ?_⟩) ?_ ?_
              rotate_left
              ·
               intro w'; go_simp; with_reducible rfl
              rotate_left
              ·
               simp only [AP]; rfl
              refine done_ (done_of HT_.out (by kernel_rfl)) ?_
              try go_wp2
              go_ret
              exact ⟨by first | rfl | (simp [errW_none, errW_some] <;> rfl) | (simp only [← hji49, ← hji50, ← hji51]; first | rfl | (simp [errW_none, errW_some] <;> rfl)) | (simp [*, errW_none, errW_some] <;> rfl), by repeat (first | (with_reducible first | exact HB.out | apply below_alloc | apply pw_below_drewN | apply below_drew1 | refine below_set ?_ GE222.out | refine below_set ?_ GE223.out | refine below_set ?_ GE229.out | refine below_set ?_ GE230.out | refine below_set ?_ GE231.out | refine below_set ?_ GE255.out) | exact HB.out)⟩
 ·
  replace c4 := Bool.eq_false_iff.mpr c4
  subst c4
  have H1 : (some false) = some r := by rw [if_neg (show ¬ (false = true) by decide)] at H; exact H
  clear H
  have H := H1
  clear H1
  obtain rfl := Option.some.inj H
  go_enter Try.func8, Try.ntmps8
  go_wp2_with (first | ((with_reducible refine gate_dst (N := 2) rfl ?_); (try (refine gate_guard (by rfl) ?_; dsimp only)); refine box_event ?hg (N := 2) ?hd (cs := #[.int .u16 a0_0, .int .u16 a0_1]) (t := 52) ?hr ?_; (case hd => rfl); (case hg => rfl); (case hr => first | (go_simp; done) | (go_simp; rfl)); intro gb222 hg w121 hbox hb; have BK222 := Aside0.mk (hbox); have GW222 := Aside0.mk ((by rw [hg]; exact (below_size (bU HB.out)) : w.heap.size ≤ gb222)); have GE222 := Aside0.mk ((by rw [hg]; exact (below_size (bU HB.out)) : w.heap.size ≤ gb222)); replace HB := Aside0.mk (below_step (bU HB.out) hb); clear hb hbox hg) | ((with_reducible refine gate_dst (N := 3) rfl ?_); (try (refine gate_guard (by rfl) ?_; dsimp only)); refine box_event ?hg (N := 3) ?hd (cs := #[.int .u16 a1_0, .int .u16 a1_1]) (t := 52) ?hr ?_; (case hd => rfl); (case hg => rfl); (case hr => first | (go_simp; done) | (go_simp; rfl)); intro gb223 hg w122 hbox hb; have BK223 := Aside0.mk (hbox); have GW223 := Aside0.mk ((by rw [hg]; exact (below_size (by repeat (first | (with_reducible first | exact HB.out | apply below_alloc | apply pw_below_drewN | apply below_drew1 | refine below_set ?_ GE222.out) | exact HB.out))) : w.heap.size ≤ gb223)); have GE223 := Aside0.mk ((by rw [hg]; exact (below_size (by repeat (first | (with_reducible first | exact HB.out | apply below_alloc | apply pw_below_drewN | apply below_drew1 | refine below_set ?_ GE222.out) | exact HB.out))) : w.heap.size ≤ gb223)); replace HB := Aside0.mk (below_step (by repeat (first | (with_reducible first | exact HB.out | apply below_alloc | apply pw_below_drewN | apply below_drew1 | refine below_set ?_ GE222.out) | exact HB.out)) hb); have NB222_223 := Aside0.mk ((by rw [hg]; exact Nat.ne_of_lt (blk_lt (g := gb222) (o := .cells #[.int .u16 a0_0, .int .u16 a0_1] 52 (0, 0)) (kU BK222.out)) : gb222 ≠ gb223)); have NB223_222 := Aside0.mk ((by rw [hg]; exact Nat.ne_of_gt (blk_lt (g := gb222) (o := .cells #[.int .u16 a0_0, .int .u16 a0_1] 52 (0, 0)) (kU BK222.out)) : gb223 ≠ gb222)); replace BK222 := Aside0.mk (blk_below (g := gb222) (o := .cells #[.int .u16 a0_0, .int .u16 a0_1] 52 (0, 0)) (kU BK222.out) hb); clear hb hbox hg) | ((with_reducible refine gate_callee (f := 9) rfl ?_); refine goesL_ (some 16) rfl rfl Try.func9 (by kernel_rfl) rfl #[] rfl (by (try simp only [List.map_toArray, List.map_cons, List.map_nil]); first | done | rfl | (simp only [List.length_drop, List.length_take]; rfl)) ?_; (with_reducible refine (tegulalaw34_awake.calls k  false _ A3.out).mono ?_); rintro e w123 ⟨rfl, hb⟩; refine ⟨_, rfl, ?_⟩; replace BK222 := Aside0.mk (blk_below (g := gb222) (o := .cells #[.int .u16 a0_0, .int .u16 a0_1] 52 (0, 0)) (kU BK222.out) hb); replace BK223 := Aside0.mk (blk_below (g := gb223) (o := .cells #[.int .u16 a1_0, .int .u16 a1_1] 52 (0, 0)) (kU BK223.out) hb); replace HB := Aside0.mk (below_step (by repeat (first | (with_reducible first | exact HB.out | apply below_alloc | apply pw_below_drewN | apply below_drew1 | refine below_set ?_ GE222.out | refine below_set ?_ GE223.out) | exact HB.out)) hb); (try clear hb)))
  go_ret
  exact ⟨by first | rfl | (simp [errW_none, errW_some] <;> rfl) | (simp [*, errW_none, errW_some] <;> rfl), by repeat (first | (with_reducible first | exact HB.out | apply below_alloc | apply pw_below_drewN | apply below_drew1 | refine below_set ?_ GE222.out | refine below_set ?_ GE223.out) | exact HB.out)⟩

end Go.Proofs.Ytnloofhpdlggnaa.PRefcountLarge
