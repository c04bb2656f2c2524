-- Written for this claim by a program of this session (wip/), out of the translation's own print: Lean checks it
import Derived.Test.YtnloofhpdlggnaaPRefcountLargex0
import Derived.Test.YtnloofhpdlggnaaPRefcountLargex2
import Derived.Test.YtnloofhpdlggnaaPRefcountLargex5
import Derived.Test.YtnloofhpdlggnaaPRefcountLargex6
namespace Go.Proofs.Ytnloofhpdlggnaa.PRefcountLarge
open Go.RowKit Go.Proofs.YtnloofhpdlggnaaW.PrintWords Go.Proofs.YtnloofhpdlggnaaW.PrintLast Go.Proofs.YtnloofhpdlggnaaW.PrintMore
attribute [local go_sem] max2_int min2_int max_two min_two max_three min_three max_four min_four   -- for this text's walks alone
set_option linter.unusedVariables false
set_option linter.unusedSimpArgs false

/-! ### tegulalaw34_awake: function 9 -/
def tegulalaw34_awake.f (k : Nat)  : Option (Bool) := (refcount_New.f 10).bind fun bt166 => ((tegulalaw34_run.f 2 4).bind fun t171 => ((tegulalaw34_run.f 2 4).bind fun t174 => (if t171.length + t174.length < 5864062014805 then ((refcount_Counts_Add.f k bt166.1 (t171 ++ t174)).bind fun bt180 => ((tegulalaw34_run.f 5 2).bind fun t184 => ((refcount_Counts_Add.f k bt180.1 t184).bind fun bt187 => ((tegulalaw34_run.f 5 2).bind fun t191 => ((refcount_Counts_Drop.f k bt187.1 t191).bind fun bt194 => (if bt166.2 = 0 then (if bt180.2 = 0 then (if bt187.2 = 0 then (if bt194.2.2 = 0 then ((refcount_Counts_Of.f bt187.1 5).bind fun t202 => (if t202 = 3 then ((refcount_Counts_Of.f bt187.1 6).bind fun t203 => (if t203 = 1 then ((refcount_Counts_Of.f bt194.1 6).bind fun t204 => (if t204 = 0 then ((tegulalaw34_run.f 6 1).bind fun t205 => ((tegularef32_Same.f k bt194.2.1 t205).bind fun t208 => (if t208 = true then ((refcount_Counts_Total.f bt194.1).bind fun t209 => (if t209 = 8 then ((refcount_Counts_Used.f bt194.1).bind fun t210 => (some (t210 == 4))) else (some false))) else (some false)))) else (some false))) else (some false))) else (some false))) else (some false)) else (some false)) else (some false)) else (some false))))))) else (none))))
theorem tegulalaw34_awake.mono : ∀ k, LeO (tegulalaw34_awake.f k ) (tegulalaw34_awake.f (k + 1) ) := by
 intro  k
 unfold tegulalaw34_awake.f
 repeat' first
   | (with_reducible exact refcount_Counts_Add.mono _ _ _)
   | (with_reducible exact refcount_Counts_Drop.mono _ _ _)
   | (with_reducible exact tegularef32_Same.mono _ _ _)
   | (with_reducible exact LeO.refl _)
   | (with_reducible exact LeO.none _)
   | (with_reducible refine LeO.ite ?_ ?_)
   | (with_reducible refine LeO.bind ?_ (fun _ => ?_))
   | exact refcount_Counts_Add.mono _ _ _
   | exact refcount_Counts_Drop.mono _ _ _
   | exact tegularef32_Same.mono _ _ _
   | exact LeO.none _
   | refine LeO.ite ?_ ?_
   | refine LeO.bind ?_ (fun _ => ?_)
def tegulalaw34_awake.T2 : Bool × List (List Nat × List Nat) := (true, [([], []), ([], []), ([1], []), ([1, 2, 2], [1, 2]), ([0, 3, 3], [0, 3]), ([4], [4]), ([5], [5]), ([5], [5]), ([6, 4, 0, 1, 2, 3, 4, 5, 6], [6]), ([7, 8, 0, 1, 2, 3, 4, 5, 6, 7, 8], [7])])
def tegulalaw34_awake.B2 : List Nat := [0, 0, 2, 6, 15, 31, 63, 63, 127, 511]
theorem tegulalaw34_awake.tab2 : rtab .any (opsOf Try.f9 2) = tegulalaw34_awake.T2 := by kernel_rfl
theorem tegulalaw34_awake.bits2 : waitsOk tegulalaw34_awake.T2.2 tegulalaw34_awake.B2 = true := by kernel_rfl
def tegulalaw34_awake.T3 : Bool × List (List Nat × List Nat) := (true, [([], []), ([], []), ([0, 1, 1], [0, 1]), ([2], [2]), ([3], [3]), ([3], [3]), ([4, 2, 0, 1, 2, 3, 4], [4]), ([5, 6, 0, 1, 2, 3, 4, 5, 6], [5])])
def tegulalaw34_awake.B3 : List Nat := [0, 0, 3, 7, 15, 15, 31, 127]
theorem tegulalaw34_awake.tab3 : rtab .any (opsOf Try.f9 3) = tegulalaw34_awake.T3 := by kernel_rfl
theorem tegulalaw34_awake.bits3 : waitsOk tegulalaw34_awake.T3.2 tegulalaw34_awake.B3 = true := by kernel_rfl
def tegulalaw34_awake.T4 : Bool × List (List Nat × List Nat) := (true, [([], []), ([], []), ([0, 1, 1], [0, 1]), ([2], [2]), ([3], [3]), ([3], [3]), ([3], [3]), ([], []), ([7, 4, 2, 0, 1, 2, 3, 4, 7], [4, 7]), ([5, 8, 0, 1, 2, 3, 4, 5, 7, 8], [5]), ([6, 9, 0, 1, 2, 3, 4, 5, 6, 7, 8, 9], [6])])
def tegulalaw34_awake.B4 : List Nat := [0, 0, 3, 7, 15, 15, 15, 0, 159, 447, 1023]
theorem tegulalaw34_awake.tab4 : rtab .any (opsOf Try.f9 4) = tegulalaw34_awake.T4 := by kernel_rfl
theorem tegulalaw34_awake.bits4 : waitsOk tegulalaw34_awake.T4.2 tegulalaw34_awake.B4 = true := by kernel_rfl
theorem leo_add {α : Type} {f : Nat → Option α} (m : ∀ k, LeO (f k) (f (k + 1))) : ∀ d k, LeO (f k) (f (k + d))
  | 0, k => LeO.refl _
  | d + 1, k => LeO.trans (leo_add m d k) (m (k + d))
theorem leo_uniq {α : Type} {f : Nat → Option α} (m : ∀ k, LeO (f k) (f (k + 1))) {k k' : Nat} {r r' : α} (h : f k = some r) (h' : f k' = some r') : r = r' := by
  have h1 := leo_add m k' k r h
  have h2 := leo_add m k k' r' h'
  rw [Nat.add_comm k' k, h1] at h2
  exact Option.some.inj h2
def awL1 : List Int := [0, 0, 2, 2, 2, 2, 0, 0, 0, 0]
def awL2 : List Int := [0, 0, 2, 2, 2, 3, 1, 0, 0, 0]
def awL3 : List Int := [0, 0, 2, 2, 2, 2, 0, 0, 0, 0]
theorem aw_sort (x : S41) : sortL [x] = [x] := List.perm_singleton.1 (sortL_facts [x]).1
theorem aw_runs (k : Nat) (hk : k = 95) : extent_Runs.f k [⟨0, 1, 6⟩] = some [⟨0, 1, 6⟩] := by
  have h : api_Extent_47.f [⟨0, 1, 6⟩] = some [⟨0, 1, 6⟩] := by
    unfold api_Extent_47.f
    rw [if_pos ⟨by decide, fun x hx => by rw [List.mem_singleton.1 hx]; first | rfl | kernel_rfl⟩, aw_sort]
  subst hk
  unfold extent_Runs.f
  rw [h]
  have e : extent_Runs.l0 95 [] [(⟨0, 1, 6⟩ : S41)] 1 0 = some [(⟨0, 1, 6⟩ : S41)] := by kernel_rfl
  exact e
theorem aw_drop : refcount_Counts_Drop.f 100 awL2 [⟨0, 2, 5⟩] = some (awL3, [⟨0, 1, 6⟩], 0) := by
  have e : refcount_Counts_Drop.f 100 awL2 [⟨0, 2, 5⟩] = (extent_Runs.f 95 [⟨0, 1, 6⟩]).bind fun t => some (awL3, t, 0) := by kernel_rfl
  rw [e, aw_runs _ rfl]
  rfl
theorem tegulalaw34_awake.at_ : tegulalaw34_awake.f 100 = some true := by
  unfold tegulalaw34_awake.f
  have e1 : refcount_New.f 10 = some (List.replicate 10 0, 0) := by kernel_rfl
  have e2 : tegulalaw34_run.f 2 4 = some [⟨0, 4, 2⟩] := by kernel_rfl
  have e3 : refcount_Counts_Add.f 100 (List.replicate 10 0) ([⟨0, 4, 2⟩] ++ [⟨0, 4, 2⟩]) = some (awL1, 0) := by kernel_rfl
  have e4 : tegulalaw34_run.f 5 2 = some [⟨0, 2, 5⟩] := by kernel_rfl
  have e5 : refcount_Counts_Add.f 100 awL1 [⟨0, 2, 5⟩] = some (awL2, 0) := by kernel_rfl
  have e6 : refcount_Counts_Of.f awL2 5 = some 3 := by kernel_rfl
  have e7 : refcount_Counts_Of.f awL2 6 = some 1 := by kernel_rfl
  have e8 : refcount_Counts_Of.f awL3 6 = some 0 := by kernel_rfl
  have e9 : tegulalaw34_run.f 6 1 = some [⟨0, 1, 6⟩] := by kernel_rfl
  have e10 : tegularef32_Same.f 100 [⟨0, 1, 6⟩] [⟨0, 1, 6⟩] = some true := by kernel_rfl
  have e11 : refcount_Counts_Total.f awL3 = some 8 := by kernel_rfl
  have e12 : refcount_Counts_Used.f awL3 = some 4 := by kernel_rfl
  rw [e1, e2]
  simp only [Option.bind_some]
  rw [if_pos (by decide), e3]
  simp only [Option.bind_some]
  rw [e4]
  simp only [Option.bind_some]
  rw [e5]
  simp only [Option.bind_some]
  rw [aw_drop]
  simp only [Option.bind_some, if_true]
  rw [e6]
  simp only [Option.bind_some, if_true]
  rw [e7]
  simp only [Option.bind_some, if_true]
  rw [e8]
  simp only [Option.bind_some, if_true]
  rw [e9]
  simp only [Option.bind_some]
  rw [e10]
  simp only [Option.bind_some, if_true]
  rw [e11]
  simp only [Option.bind_some, if_true]
  rw [e12]
  rfl
theorem tegulalaw34_awake.true_ {k : Nat} {r : Bool} (h : tegulalaw34_awake.f k = some r) : r = true := leo_uniq tegulalaw34_awake.mono h tegulalaw34_awake.at_
set_option maxHeartbeats 8000000 in
set_option maxRecDepth 100000 in
theorem tegulalaw34_awake.calls (k : Nat)  (r : Bool) (w : World) (h : tegulalaw34_awake.f k  = some r) :
  Calls Try.prog 9 #[] w fun e w' => e = .returned (.bool r) ∧ Below w.heap.size w w' := by
 have hu27 := Try.underlying27
 have HB := Aside0.mk (Below.refl w.heap.size w)
 have H : ((refcount_New.f 10).bind fun bt166 => ((tegulalaw34_run.f 2 4).bind fun t171 => ((tegulalaw34_run.f 2 4).bind fun t174 => (if t171.length + t174.length < 5864062014805 then ((refcount_Counts_Add.f k bt166.1 (t171 ++ t174)).bind fun bt180 => ((tegulalaw34_run.f 5 2).bind fun t184 => ((refcount_Counts_Add.f k bt180.1 t184).bind fun bt187 => ((tegulalaw34_run.f 5 2).bind fun t191 => ((refcount_Counts_Drop.f k bt187.1 t191).bind fun bt194 => (if bt166.2 = 0 then (if bt180.2 = 0 then (if bt187.2 = 0 then (if bt194.2.2 = 0 then ((refcount_Counts_Of.f bt187.1 5).bind fun t202 => (if t202 = 3 then ((refcount_Counts_Of.f bt187.1 6).bind fun t203 => (if t203 = 1 then ((refcount_Counts_Of.f bt194.1 6).bind fun t204 => (if t204 = 0 then ((tegulalaw34_run.f 6 1).bind fun t205 => ((tegularef32_Same.f k bt194.2.1 t205).bind fun t208 => (if t208 = true then ((refcount_Counts_Total.f bt194.1).bind fun t209 => (if t209 = 8 then ((refcount_Counts_Used.f bt194.1).bind fun t210 => (some (t210 == 4))) else (some false))) else (some false)))) else (some false))) else (some false))) else (some false))) else (some false)) else (some false)) else (some false)) else (some false))))))) else (none))))) = some r := h
 have h0_ := Aside0.mk h
 clear h
 replace H := Option.bind_eq_some_iff.mp H
 obtain ⟨⟨t166, t169⟩, A10, H⟩ := H
 replace H : ((tegulalaw34_run.f 2 4).bind fun t171 => ((tegulalaw34_run.f 2 4).bind fun t174 => (if t171.length + t174.length < 5864062014805 then ((refcount_Counts_Add.f k t166 (t171 ++ t174)).bind fun bt180 => ((tegulalaw34_run.f 5 2).bind fun t184 => ((refcount_Counts_Add.f k bt180.1 t184).bind fun bt187 => ((tegulalaw34_run.f 5 2).bind fun t191 => ((refcount_Counts_Drop.f k bt187.1 t191).bind fun bt194 => (if t169 = 0 then (if bt180.2 = 0 then (if bt187.2 = 0 then (if bt194.2.2 = 0 then ((refcount_Counts_Of.f bt187.1 5).bind fun t202 => (if t202 = 3 then ((refcount_Counts_Of.f bt187.1 6).bind fun t203 => (if t203 = 1 then ((refcount_Counts_Of.f bt194.1 6).bind fun t204 => (if t204 = 0 then ((tegulalaw34_run.f 6 1).bind fun t205 => ((tegularef32_Same.f k bt194.2.1 t205).bind fun t208 => (if t208 = true then ((refcount_Counts_Total.f bt194.1).bind fun t209 => (if t209 = 8 then ((refcount_Counts_Used.f bt194.1).bind fun t210 => (some (t210 == 4))) else (some false))) else (some false)))) else (some false))) else (some false))) else (some false))) else (some false)) else (some false)) else (some false)) else (some false))))))) else (none)))) = some r := H
 have A1 := Aside0.mk A10
 clear A10
 replace H := Option.bind_eq_some_iff.mp H
 obtain ⟨t171, A20, H⟩ := H
 replace H : ((tegulalaw34_run.f 2 4).bind fun t174 => (if t171.length + t174.length < 5864062014805 then ((refcount_Counts_Add.f k t166 (t171 ++ t174)).bind fun bt180 => ((tegulalaw34_run.f 5 2).bind fun t184 => ((refcount_Counts_Add.f k bt180.1 t184).bind fun bt187 => ((tegulalaw34_run.f 5 2).bind fun t191 => ((refcount_Counts_Drop.f k bt187.1 t191).bind fun bt194 => (if t169 = 0 then (if bt180.2 = 0 then (if bt187.2 = 0 then (if bt194.2.2 = 0 then ((refcount_Counts_Of.f bt187.1 5).bind fun t202 => (if t202 = 3 then ((refcount_Counts_Of.f bt187.1 6).bind fun t203 => (if t203 = 1 then ((refcount_Counts_Of.f bt194.1 6).bind fun t204 => (if t204 = 0 then ((tegulalaw34_run.f 6 1).bind fun t205 => ((tegularef32_Same.f k bt194.2.1 t205).bind fun t208 => (if t208 = true then ((refcount_Counts_Total.f bt194.1).bind fun t209 => (if t209 = 8 then ((refcount_Counts_Used.f bt194.1).bind fun t210 => (some (t210 == 4))) else (some false))) else (some false)))) else (some false))) else (some false))) else (some false))) else (some false)) else (some false)) else (some false)) else (some false))))))) else (none))) = some r := H
 have A2 := Aside0.mk A20
 clear A20
 replace H := Option.bind_eq_some_iff.mp H
 obtain ⟨t174, A30, H⟩ := H
 replace H : (if t171.length + t174.length < 5864062014805 then ((refcount_Counts_Add.f k t166 (t171 ++ t174)).bind fun bt180 => ((tegulalaw34_run.f 5 2).bind fun t184 => ((refcount_Counts_Add.f k bt180.1 t184).bind fun bt187 => ((tegulalaw34_run.f 5 2).bind fun t191 => ((refcount_Counts_Drop.f k bt187.1 t191).bind fun bt194 => (if t169 = 0 then (if bt180.2 = 0 then (if bt187.2 = 0 then (if bt194.2.2 = 0 then ((refcount_Counts_Of.f bt187.1 5).bind fun t202 => (if t202 = 3 then ((refcount_Counts_Of.f bt187.1 6).bind fun t203 => (if t203 = 1 then ((refcount_Counts_Of.f bt194.1 6).bind fun t204 => (if t204 = 0 then ((tegulalaw34_run.f 6 1).bind fun t205 => ((tegularef32_Same.f k bt194.2.1 t205).bind fun t208 => (if t208 = true then ((refcount_Counts_Total.f bt194.1).bind fun t209 => (if t209 = 8 then ((refcount_Counts_Used.f bt194.1).bind fun t210 => (some (t210 == 4))) else (some false))) else (some false)))) else (some false))) else (some false))) else (some false))) else (some false)) else (some false)) else (some false)) else (some false))))))) else (none)) = some r := H
 have A3 := Aside0.mk A30
 clear A30
 by_cases c4 : t171.length + t174.length < 5864062014805
 ·
  rw [if_pos c4] at H
  have LMc4 := Aside0.mk c4
  clear c4
  obtain ⟨y177, hy177⟩ : ∃ y_ : List (S41), y_ = (t171 ++ t174) := ⟨_, rfl⟩
  replace H : ((refcount_Counts_Add.f k t166 y177).bind fun bt180 => ((tegulalaw34_run.f 5 2).bind fun t184 => ((refcount_Counts_Add.f k bt180.1 t184).bind fun bt187 => ((tegulalaw34_run.f 5 2).bind fun t191 => ((refcount_Counts_Drop.f k bt187.1 t191).bind fun bt194 => (if t169 = 0 then (if bt180.2 = 0 then (if bt187.2 = 0 then (if bt194.2.2 = 0 then ((refcount_Counts_Of.f bt187.1 5).bind fun t202 => (if t202 = 3 then ((refcount_Counts_Of.f bt187.1 6).bind fun t203 => (if t203 = 1 then ((refcount_Counts_Of.f bt194.1 6).bind fun t204 => (if t204 = 0 then ((tegulalaw34_run.f 6 1).bind fun t205 => ((tegularef32_Same.f k bt194.2.1 t205).bind fun t208 => (if t208 = true then ((refcount_Counts_Total.f bt194.1).bind fun t209 => (if t209 = 8 then ((refcount_Counts_Used.f bt194.1).bind fun t210 => (some (t210 == 4))) else (some false))) else (some false)))) else (some false))) else (some false))) else (some false))) else (some false)) else (some false)) else (some false)) else (some false))))))) = some r := by first | (rw [hy177]; exact H) | exact H
  have Ny177 := Aside0.mk hy177
  clear hy177
  replace H := Option.bind_eq_some_iff.mp H
  obtain ⟨⟨t180, t183⟩, A50, H⟩ := H
  replace H : ((tegulalaw34_run.f 5 2).bind fun t184 => ((refcount_Counts_Add.f k t180 t184).bind fun bt187 => ((tegulalaw34_run.f 5 2).bind fun t191 => ((refcount_Counts_Drop.f k bt187.1 t191).bind fun bt194 => (if t169 = 0 then (if t183 = 0 then (if bt187.2 = 0 then (if bt194.2.2 = 0 then ((refcount_Counts_Of.f bt187.1 5).bind fun t202 => (if t202 = 3 then ((refcount_Counts_Of.f bt187.1 6).bind fun t203 => (if t203 = 1 then ((refcount_Counts_Of.f bt194.1 6).bind fun t204 => (if t204 = 0 then ((tegulalaw34_run.f 6 1).bind fun t205 => ((tegularef32_Same.f k bt194.2.1 t205).bind fun t208 => (if t208 = true then ((refcount_Counts_Total.f bt194.1).bind fun t209 => (if t209 = 8 then ((refcount_Counts_Used.f bt194.1).bind fun t210 => (some (t210 == 4))) else (some false))) else (some false)))) else (some false))) else (some false))) else (some false))) else (some false)) else (some false)) else (some false)) else (some false)))))) = some r := H
  have A5 := Aside0.mk A50
  clear A50
  replace H := Option.bind_eq_some_iff.mp H
  obtain ⟨t184, A60, H⟩ := H
  replace H : ((refcount_Counts_Add.f k t180 t184).bind fun bt187 => ((tegulalaw34_run.f 5 2).bind fun t191 => ((refcount_Counts_Drop.f k bt187.1 t191).bind fun bt194 => (if t169 = 0 then (if t183 = 0 then (if bt187.2 = 0 then (if bt194.2.2 = 0 then ((refcount_Counts_Of.f bt187.1 5).bind fun t202 => (if t202 = 3 then ((refcount_Counts_Of.f bt187.1 6).bind fun t203 => (if t203 = 1 then ((refcount_Counts_Of.f bt194.1 6).bind fun t204 => (if t204 = 0 then ((tegulalaw34_run.f 6 1).bind fun t205 => ((tegularef32_Same.f k bt194.2.1 t205).bind fun t208 => (if t208 = true then ((refcount_Counts_Total.f bt194.1).bind fun t209 => (if t209 = 8 then ((refcount_Counts_Used.f bt194.1).bind fun t210 => (some (t210 == 4))) else (some false))) else (some false)))) else (some false))) else (some false))) else (some false))) else (some false)) else (some false)) else (some false)) else (some false))))) = some r := H
  have A6 := Aside0.mk A60
  clear A60
  replace H := Option.bind_eq_some_iff.mp H
  obtain ⟨⟨t187, t190⟩, A70, H⟩ := H
  replace H : ((tegulalaw34_run.f 5 2).bind fun t191 => ((refcount_Counts_Drop.f k t187 t191).bind fun bt194 => (if t169 = 0 then (if t183 = 0 then (if t190 = 0 then (if bt194.2.2 = 0 then ((refcount_Counts_Of.f t187 5).bind fun t202 => (if t202 = 3 then ((refcount_Counts_Of.f t187 6).bind fun t203 => (if t203 = 1 then ((refcount_Counts_Of.f bt194.1 6).bind fun t204 => (if t204 = 0 then ((tegulalaw34_run.f 6 1).bind fun t205 => ((tegularef32_Same.f k bt194.2.1 t205).bind fun t208 => (if t208 = true then ((refcount_Counts_Total.f bt194.1).bind fun t209 => (if t209 = 8 then ((refcount_Counts_Used.f bt194.1).bind fun t210 => (some (t210 == 4))) else (some false))) else (some false)))) else (some false))) else (some false))) else (some false))) else (some false)) else (some false)) else (some false)) else (some false)))) = some r := H
  have A7 := Aside0.mk A70
  clear A70
  replace H := Option.bind_eq_some_iff.mp H
  obtain ⟨t191, A80, H⟩ := H
  replace H : ((refcount_Counts_Drop.f k t187 t191).bind fun bt194 => (if t169 = 0 then (if t183 = 0 then (if t190 = 0 then (if bt194.2.2 = 0 then ((refcount_Counts_Of.f t187 5).bind fun t202 => (if t202 = 3 then ((refcount_Counts_Of.f t187 6).bind fun t203 => (if t203 = 1 then ((refcount_Counts_Of.f bt194.1 6).bind fun t204 => (if t204 = 0 then ((tegulalaw34_run.f 6 1).bind fun t205 => ((tegularef32_Same.f k bt194.2.1 t205).bind fun t208 => (if t208 = true then ((refcount_Counts_Total.f bt194.1).bind fun t209 => (if t209 = 8 then ((refcount_Counts_Used.f bt194.1).bind fun t210 => (some (t210 == 4))) else (some false))) else (some false)))) else (some false))) else (some false))) else (some false))) else (some false)) else (some false)) else (some false)) else (some false))) = some r := H
  have A8 := Aside0.mk A80
  clear A80
  replace H := Option.bind_eq_some_iff.mp H
  obtain ⟨⟨t194, t197, t200⟩, A90, H⟩ := H
  replace H : (if t169 = 0 then (if t183 = 0 then (if t190 = 0 then (if t200 = 0 then ((refcount_Counts_Of.f t187 5).bind fun t202 => (if t202 = 3 then ((refcount_Counts_Of.f t187 6).bind fun t203 => (if t203 = 1 then ((refcount_Counts_Of.f t194 6).bind fun t204 => (if t204 = 0 then ((tegulalaw34_run.f 6 1).bind fun t205 => ((tegularef32_Same.f k t197 t205).bind fun t208 => (if t208 = true then ((refcount_Counts_Total.f t194).bind fun t209 => (if t209 = 8 then ((refcount_Counts_Used.f t194).bind fun t210 => (some (t210 == 4))) else (some false))) else (some false)))) else (some false))) else (some false))) else (some false))) else (some false)) else (some false)) else (some false)) else (some false)) = some r := H
  have A9 := Aside0.mk A90
  clear A90
  by_cases c10 : t169 = 0
  ·
   rw [if_pos c10] at H
   have c10b0 : (t169 == 0) = true := beq_iff_eq.mpr c10
   have c10b1 : (t169 != 0) = false := bne_eq_false_iff_eq.mpr c10
   clear c10
   by_cases c11 : t183 = 0
   ·
    rw [if_pos c11] at H
    have c11b0 : (t183 == 0) = true := beq_iff_eq.mpr c11
    have c11b1 : (t183 != 0) = false := bne_eq_false_iff_eq.mpr c11
    clear c11
    by_cases c12 : t190 = 0
    ·
     rw [if_pos c12] at H
     have c12b0 : (t190 == 0) = true := beq_iff_eq.mpr c12
     have c12b1 : (t190 != 0) = false := bne_eq_false_iff_eq.mpr c12
     clear c12
     by_cases c13 : t200 = 0
     ·
      rw [if_pos c13] at H
      have c13b0 : (t200 == 0) = true := beq_iff_eq.mpr c13
      have c13b1 : (t200 != 0) = false := bne_eq_false_iff_eq.mpr c13
      clear c13
      replace H := Option.bind_eq_some_iff.mp H
      obtain ⟨t202, A140, H⟩ := H
      replace H : (if t202 = 3 then ((refcount_Counts_Of.f t187 6).bind fun t203 => (if t203 = 1 then ((refcount_Counts_Of.f t194 6).bind fun t204 => (if t204 = 0 then ((tegulalaw34_run.f 6 1).bind fun t205 => ((tegularef32_Same.f k t197 t205).bind fun t208 => (if t208 = true then ((refcount_Counts_Total.f t194).bind fun t209 => (if t209 = 8 then ((refcount_Counts_Used.f t194).bind fun t210 => (some (t210 == 4))) else (some false))) else (some false)))) else (some false))) else (some false))) else (some false)) = some r := H
      have A14 := Aside0.mk A140
      clear A140
      by_cases c15 : t202 = 3
      ·
       rw [if_pos c15] at H
       have c15b0 : (t202 == 3) = true := beq_iff_eq.mpr c15
       have c15b1 : (t202 != 3) = false := bne_eq_false_iff_eq.mpr c15
       clear c15
       replace H := Option.bind_eq_some_iff.mp H
       obtain ⟨t203, A160, H⟩ := H
       replace H : (if t203 = 1 then ((refcount_Counts_Of.f t194 6).bind fun t204 => (if t204 = 0 then ((tegulalaw34_run.f 6 1).bind fun t205 => ((tegularef32_Same.f k t197 t205).bind fun t208 => (if t208 = true then ((refcount_Counts_Total.f t194).bind fun t209 => (if t209 = 8 then ((refcount_Counts_Used.f t194).bind fun t210 => (some (t210 == 4))) else (some false))) else (some false)))) else (some false))) else (some false)) = some r := H
       have A16 := Aside0.mk A160
       clear A160
       by_cases c17 : t203 = 1
       ·
        rw [if_pos c17] at H
        have c17b0 : (t203 == 1) = true := beq_iff_eq.mpr c17
        have c17b1 : (t203 != 1) = false := bne_eq_false_iff_eq.mpr c17
        clear c17
        replace H := Option.bind_eq_some_iff.mp H
        obtain ⟨t204, A180, H⟩ := H
        replace H : (if t204 = 0 then ((tegulalaw34_run.f 6 1).bind fun t205 => ((tegularef32_Same.f k t197 t205).bind fun t208 => (if t208 = true then ((refcount_Counts_Total.f t194).bind fun t209 => (if t209 = 8 then ((refcount_Counts_Used.f t194).bind fun t210 => (some (t210 == 4))) else (some false))) else (some false)))) else (some false)) = some r := H
        have A18 := Aside0.mk A180
        clear A180
        by_cases c19 : t204 = 0
        ·
         rw [if_pos c19] at H
         have c19b0 : (t204 == 0) = true := beq_iff_eq.mpr c19
         have c19b1 : (t204 != 0) = false := bne_eq_false_iff_eq.mpr c19
         clear c19
         replace H := Option.bind_eq_some_iff.mp H
         obtain ⟨t205, A200, H⟩ := H
         replace H : ((tegularef32_Same.f k t197 t205).bind fun t208 => (if t208 = true then ((refcount_Counts_Total.f t194).bind fun t209 => (if t209 = 8 then ((refcount_Counts_Used.f t194).bind fun t210 => (some (t210 == 4))) else (some false))) else (some false))) = some r := H
         have A20 := Aside0.mk A200
         clear A200
         replace H := Option.bind_eq_some_iff.mp H
         obtain ⟨t208, A210, H⟩ := H
         replace H : (if t208 = true then ((refcount_Counts_Total.f t194).bind fun t209 => (if t209 = 8 then ((refcount_Counts_Used.f t194).bind fun t210 => (some (t210 == 4))) else (some false))) else (some false)) = some r := H
         have A21 := Aside0.mk A210
         clear A210
         by_cases c22 : t208 = true
         ·
          subst c22
          have H1 : ((refcount_Counts_Total.f t194).bind fun t209 => (if t209 = 8 then ((refcount_Counts_Used.f t194).bind fun t210 => (some (t210 == 4))) else (some false))) = some r := by rw [if_pos rfl] at H; exact H
          clear H
          have H := H1
          clear H1
          replace H := Option.bind_eq_some_iff.mp H
          obtain ⟨t209, A230, H⟩ := H
          replace H : (if t209 = 8 then ((refcount_Counts_Used.f t194).bind fun t210 => (some (t210 == 4))) else (some false)) = some r := H
          have A23 := Aside0.mk A230
          clear A230
          by_cases c24 : t209 = 8
          ·
           rw [if_pos c24] at H
           have c24b0 : (t209 == 8) = true := beq_iff_eq.mpr c24
           have c24b1 : (t209 != 8) = false := bne_eq_false_iff_eq.mpr c24
           clear c24
           replace H := Option.bind_eq_some_iff.mp H
           obtain ⟨t210, A250, H⟩ := H
           replace H : (some (t210 == 4)) = some r := H
           have A25 := Aside0.mk A250
           clear A250
           obtain rfl := Option.some.inj H
           go_enter Try.func9, Try.ntmps9
           try go_wp2_with (first | ((with_reducible refine gate_callee (f := 22) rfl ?_); refine goesL_ (some 9) rfl rfl Try.func22 (by kernel_rfl) rfl #[.int .i64 10] rfl (by (try simp only [List.map_toArray, List.map_cons, List.map_nil]); first | done | rfl | (simp only [List.length_drop, List.length_take]; rfl)) ?_; (with_reducible refine (refcount_New.calls 10 t166 t169 _ A1.out).mono ?_); rintro e w26 ⟨v167, rfl, ho0, hb⟩; refine ⟨_, rfl, ?_⟩; have HO168 := Aside0.mk (Kd.R_lower ho0 (below_size (bU HB.out))); replace HB := Aside0.mk (below_step (bU HB.out) hb); (try clear hb); (try clear ho0)) | ((with_reducible refine gate_dst (N := 1) rfl ?_); refine box_event ?hg (N := 1) ?hd (cs := #[.slice none 0 0]) (t := 27) ?hr ?_; (case hd => rfl); (case hg => rfl); (case hr => first | (go_simp; done) | (go_simp; rfl)); intro gb170 hg w27 hbox hb; replace HO168 := Aside0.mk (Kd.R_below (rU HO168.out) hb); have BK170 := Aside0.mk (hbox); have GW170 := Aside0.mk ((by rw [hg]; exact (below_size (bU HB.out)) : w.heap.size ≤ gb170)); have GE170 := Aside0.mk ((by rw [hg]; exact (below_size (bU HB.out)) : w.heap.size ≤ gb170)); replace HB := Aside0.mk (below_step (bU HB.out) hb); clear hb hbox hg; obtain ⟨Ao28, co28, eo28⟩ := Kd.R_slice HO168.out; subst eo28; have hcz29_0 : w27.cell? ⟨gb170, 0, none⟩ = some (.slice none 0 0) := (blk_cell BK170.out 0).trans rfl; have hfz29_0 := blk_frozen BK170.out 0))
           have n0_ : Aside0 (Kd.R (Kd.int .i64) 3 (w27.setCell ⟨gb170, 0, none⟩ (.slice Ao28 t166.length co28)) w.heap.size (fun _ => True) (.slice Ao28 t166.length co28) t166) := ⟨by (with_reducible repeat (first | apply Kd.R_alloc | apply Kd.R_drewN | apply Kd.R_drew)); exact Kd.R_mono (Kd.R_far (p := ⟨gb170, 0, none⟩) (Kd.R_types HO168.out BK170.out (by decide)) (fun _ hk => hk.2) (.slice Ao28 t166.length co28)) (fun _ hk => trivial)⟩
           have n1_ : Aside0 ((w27.setCell ⟨gb170, 0, none⟩ (.slice Ao28 t166.length co28)).heap[gb170]? = some (.cells #[.slice Ao28 t166.length co28] 27 (0, 0))) := ⟨by (with_reducible repeat (first | refine blk_drewN ?_ _ | refine blk_drew ?_ | refine blk_alloc ?_ _)); refine blk_put (cs := #[.slice none 0 0]) ?_ 0 _ rfl; (with_reducible repeat (first | refine blk_drewN ?_ _ | refine blk_drew ?_ | refine blk_alloc ?_ _)); exact BK170.out⟩
           have n2_ : Aside0 (Below w.heap.size w (w27.setCell ⟨gb170, 0, none⟩ (.slice Ao28 t166.length co28))) := ⟨by repeat (first | (with_reducible first | exact HB.out | apply below_alloc | apply pw_below_drewN | apply below_drew1 | refine below_set ?_ GE170.out) | exact HB.out)⟩
           (try clear HO168)
           (try clear BK170)
           (try clear HB)
           generalize (w27.setCell ⟨gb170, 0, none⟩ (.slice Ao28 t166.length co28)) = w30 at n0_ n1_ n2_ ⊢
           have HO168 := n0_
           have BK170 := n1_
           have HB := n2_
           clear n0_ n1_ n2_
           have n0_ := Aside0.mk (Kd.R_drew HO168.out)
           have n1_ := Aside0.mk (blk_drew BK170.out)
           have n2_ := Aside0.mk (below_drew1 HB.out)
           clear HO168
           clear BK170
           clear HB
           have HO168 := n0_
           have BK170 := n1_
           have HB := n2_
           clear n0_ n1_ n2_
           refine start_ (n := 10) (S := fun w' => w'.cell? ⟨gb170, 0, none⟩ = some (.slice Ao28 t166.length co28)) (ds := [8]) #[false, false, false, false, false, false, false, false, false, false] (by kernel_rfl) rfl rfl ((blk_cell BK170.out 0).trans rfl) (fun hHeld => ?_); refine with_tabW tegulalaw34_awake.tab2 tegulalaw34_awake.bits2 (fun HT_ HW_ => ?_)
           generalize w30.drew = w31 at HO168 BK170 HB hHeld ⊢
           refine take_ (i := 0) (N := some 13) (v := ?_) (a' := ?_) #[true, false, false, false, false, false, false, false, false, false] rfl rfl (take_ofW HT_.out HW_.out (by kernel_rfl)) (fun _ _ _ h => h) (Or.inl ⟨by rfl, ?_⟩) hHeld ?_ ?_
           rotate_left
           ·
            intro w' s0
            go_simp; with_reducible rfl
           rotate_left
           ·
            simp only [AP]; rfl
           refine one_ (i := 1) (N := some 14) #[true, true, false, false, false, false, false, false, false, false] rfl rfl (one_of HT_.out (by kernel_rfl)) (by decide) (fun K hK => ?_)
           refine goes_ Try.func23 (by kernel_rfl) rfl #[.int .i64 2, .int .i64 4] (by rfl) rfl rfl (by (try simp only [List.map_toArray, List.map_cons, List.map_nil]); first | done | rfl | (simp only [List.length_drop, List.length_take]; rfl)) ?_
           with_reducible refine (tegulalaw34_run.calls 2 4 t171 _ A2.out).mono ?_
           rintro e w32 ⟨v172, rfl, ho0, hb⟩
           refine ⟨_, rfl, ?_⟩
           have n0_ := Aside0.mk (Kd.R_below (rU HO168.out) hb)
           have n1_ := Aside0.mk (Kd.R_lower ho0 (below_size (by repeat (first | (with_reducible first | exact HB.out | apply below_alloc | apply pw_below_drewN | apply below_drew1 | refine below_set ?_ GE170.out) | exact HB.out))))
           have n2_ := Aside0.mk (blk_below (g := gb170) (o := .cells #[.slice Ao28 t166.length co28] 27 (0, 0)) (kU BK170.out) hb)
           have n3_ := Aside0.mk (below_step (by repeat (first | (with_reducible first | exact HB.out | apply below_alloc | apply pw_below_drewN | apply below_drew1 | refine below_set ?_ GE170.out) | exact HB.out)) hb)
           clear HO168
           clear BK170
           clear HB
           have HO168 := n0_
           have HO173 := n1_
           have BK170 := n2_
           have HB := n3_
           clear n0_ n1_ n2_ n3_
           (try clear hb)
           (try clear hb2)
           (try clear hk)
           (try clear hi)
           (try clear ho0)
           refine hK.out _ _ ((blk_cell BK170.out 0).trans rfl) (fun hHeld => ?_)
           clear hK K
           refine norm_ (a' := ?_) ?_ ?_
           rotate_left
           ·
            show Act.put _ (some 14) _ = _
            simp only [AP]; rfl
           refine one_ (i := 2) (N := some 15) #[true, true, true, false, false, false, false, false, false, false] rfl rfl (one_of HT_.out (by kernel_rfl)) (by decide) (fun K hK => ?_)
           refine goes_ Try.func23 (by kernel_rfl) rfl #[.int .i64 2, .int .i64 4] (by rfl) rfl rfl (by (try simp only [List.map_toArray, List.map_cons, List.map_nil]); first | done | rfl | (simp only [List.length_drop, List.length_take]; rfl)) ?_
           with_reducible refine (tegulalaw34_run.calls 2 4 t174 _ A3.out).mono ?_
           rintro e w33 ⟨v175, rfl, ho0, hb⟩
           refine ⟨_, rfl, ?_⟩
           have n0_ := Aside0.mk (Kd.R_below (rU HO168.out) hb)
           have n1_ := Aside0.mk (Kd.R_elder' (rU HO173.out) (Kd.R_base ho0) hb)
           have n2_ := Aside0.mk (Kd.R_lower (Kd.R_new' ho0 (Kd.R_lt (rU HO173.out))) (below_size (by repeat (first | (with_reducible first | exact HB.out | apply below_alloc | apply pw_below_drewN | apply below_drew1 | refine below_set ?_ GE170.out) | exact HB.out))))
           have n3_ := Aside0.mk (blk_below (g := gb170) (o := .cells #[.slice Ao28 t166.length co28] 27 (0, 0)) (kU BK170.out) hb)
           have n4_ := Aside0.mk (below_step (by repeat (first | (with_reducible first | exact HB.out | apply below_alloc | apply pw_below_drewN | apply below_drew1 | refine below_set ?_ GE170.out) | exact HB.out)) hb)
           clear HO168
           clear HO173
           clear BK170
           clear HB
           have HO168 := n0_
           have HO173 := n1_
           have HO176 := n2_
           have BK170 := n3_
           have HB := n4_
           clear n0_ n1_ n2_ n3_ n4_
           (try clear hb)
           (try clear hb2)
           (try clear hk)
           (try clear hi)
           (try clear ho0)
           obtain ⟨Ao35, co35, eo35⟩ := Kd.R_slice HO176.out
           (first | subst eo35 | (injection eo35 with f1_ f2_ f3_; have f4_ := f1_.symm; have f5_ := f3_.symm; clear f1_ f2_ f3_; subst f4_; subst f5_))
           refine hK.out _ _ ((blk_cell BK170.out 0).trans rfl) (fun hHeld => ?_)
           clear hK K
           refine norm_ (a' := ?_) ?_ ?_
           rotate_left
           ·
            show Act.put _ (some 15) _ = _
            simp only [AP]; rfl
           refine one_ (i := 3) (N := some 16) #[true, true, true, true, false, false, false, false, false, false] rfl rfl (one_of HT_.out (by kernel_rfl)) (by decide) (fun K hK => ?_)
           refine Kd.R_append_rows_step k41 (w0 := w) w.heap.size (by rfl) (.tmp 14) (.tmp 15) 32 41 (.agg #[(.int .i64 0), (.int .i64 0), (.int .i64 0)]) 24 rfl Try.underlying32 info41 rfl (by decide) (by omega) v172 t171 t174 _ _ _ (fun k_ => some k_ ≠ (.slice Ao35 t174.length co35 : Value).ownBlock) (fun _ => False) rfl rfl ?aO ?aR (fun _ _ h => h) (fun _ h => h.elim) ?aF ?aB ?aS ?aL ?_
           (case aR => repeat (first | exact (Kd.R_reads' HO176.out).2.2 | (with_reducible refine Kd.C_alloc ?_ _) | (with_reducible refine Kd.C_drewN ?_ _) | (with_reducible refine Kd.C_drew ?_)))
           (case aB => exact (by repeat (first | (with_reducible first | exact HB.out | apply below_alloc | apply pw_below_drewN | apply below_drew1 | refine below_set ?_ GE170.out) | exact HB.out)))
           (case aF => exact (fun k_ hk => Kd.fresh' (Kd.R_lt (rU HO176.out)) k_ hk))
           (case aO => exact (rU (Kd.R_mono HO173.out (fun _ hk => hk.2))))
           (case aS => exact (below_size (by repeat (first | (with_reducible first | exact HB.out | apply below_alloc | apply pw_below_drewN | apply below_drew1 | refine below_set ?_ GE170.out) | exact HB.out))))
           (case aL => have := LMc4.out; omega)
           intro v178 w34 ho hb hg hat
           rw [← Ny177.out] at ho
           have n0_ := Aside0.mk (Kd.R_over' (rU HO168.out) (Kd.R_typed (rU HO173.out)) (by decide) hg)
           have n1_ := Aside0.mk (blk_grown (g := gb170) (o := .cells #[.slice Ao28 t166.length co28] 27 (0, 0)) (kU BK170.out) hg (Kd.R_ne HO173.out BK170.out (by decide)))
           have n2_ := Aside0.mk (Kd.R_after (ok := (fun _ => True)) (rU HO176.out) hg hat)
           have n3_ := Aside0.mk (hb)
           have n4_ := Aside0.mk (ho)
           clear HO168
           clear BK170
           clear HO176
           clear HB
           clear HO173
           have HO168 := n0_
           have BK170 := n1_
           have HO176 := n2_
           have HB := n3_
           have HO179 := n4_
           clear n0_ n1_ n2_ n3_ n4_
           clear ho hb hg hat
           obtain ⟨Ao36, co36, eo36⟩ := Kd.R_slice HO179.out
           (first | subst eo36 | (injection eo36 with f1_ f2_ f3_; have f4_ := f1_.symm; have f5_ := f3_.symm; clear f1_ f2_ f3_; subst f4_; subst f5_))
           refine hK.out _ _ ((blk_cell BK170.out 0).trans rfl) (fun hHeld => ?_)
           clear hK K
           refine norm_ (a' := ?_) ?_ ?_
           rotate_left
           ·
            show Act.put _ (some 16) _ = _
            simp only [AP]; rfl
           refine one_ (i := 4) (N := some 17) #[true, true, true, true, true, false, false, false, false, false] rfl rfl (one_of HT_.out (by kernel_rfl)) (by decide) (fun K hK => ?_)
           refine goes_ Try.func12 (by kernel_rfl) rfl #[.agg #[.slice Ao28 t166.length co28], .slice Ao36 y177.length co36] (by rfl) rfl rfl (by (try simp only [List.map_toArray, List.map_cons, List.map_nil]); first | done | rfl | (simp only [List.length_drop, List.length_take]; rfl)) ?_
           with_reducible refine (refcount_Counts_Add.calls k _ _ t166 _ _ y177 t180 t183 _ ?side1 ?side2 ?side3 ?side4 A5.out).mono ?_
           (case side1 => repeat (first | exact (Kd.R_reads' HO168.out).2.2 | (with_reducible refine Kd.C_alloc ?_ _) | (with_reducible refine Kd.C_drewN ?_ _) | (with_reducible refine Kd.C_drew ?_)))
           (case side2 => exact (Kd.R_reads' HO168.out).2.1)
           (case side3 => repeat (first | exact (Kd.R_reads' HO179.out).2.2 | (with_reducible refine Kd.C_alloc ?_ _) | (with_reducible refine Kd.C_drewN ?_ _) | (with_reducible refine Kd.C_drew ?_)))
           (case side4 => exact (Kd.R_reads' HO179.out).2.1)
           rintro e w37 ⟨v181, rfl, ho0, hb⟩
           refine ⟨_, rfl, ?_⟩
           have n0_ := Aside0.mk (Kd.R_elder' (rU HO168.out) (Kd.R_base ho0) hb)
           have n1_ := Aside0.mk (Kd.R_below (rU HO176.out) hb)
           have n2_ := Aside0.mk (Kd.R_below (rU HO179.out) hb)
           have n3_ := Aside0.mk (Kd.R_lower (Kd.R_new' ho0 (Kd.R_lt (rU HO168.out))) (below_size (by repeat (first | (with_reducible first | exact HB.out | apply below_alloc | apply pw_below_drewN | apply below_drew1 | refine below_set ?_ GE170.out) | exact HB.out))))
           have n4_ := Aside0.mk (blk_below (g := gb170) (o := .cells #[.slice Ao28 t166.length co28] 27 (0, 0)) (kU BK170.out) hb)
           have n5_ := Aside0.mk (below_step (by repeat (first | (with_reducible first | exact HB.out | apply below_alloc | apply pw_below_drewN | apply below_drew1 | refine below_set ?_ GE170.out) | exact HB.out)) hb)
           clear HO168
           clear HO176
           clear HO179
           clear BK170
           clear HB
           have HO168 := n0_
           have HO176 := n1_
           have HO179 := n2_
           have HO182 := n3_
           have BK170 := n4_
           have HB := n5_
           clear n0_ n1_ n2_ n3_ n4_ n5_
           (try clear hb)
           (try clear hb2)
           (try clear hk)
           (try clear hi)
           (try clear ho0)
           obtain ⟨Ao38, co38, eo38⟩ := Kd.R_slice HO182.out
           (first | subst eo38 | (injection eo38 with f1_ f2_ f3_; have f4_ := f1_.symm; have f5_ := f3_.symm; clear f1_ f2_ f3_; subst f4_; subst f5_))
           refine hK.out _ _ ((blk_cell BK170.out 0).trans rfl) (fun hHeld => ?_)
           clear hK K
           refine norm_ (a' := ?_) ?_ ?_
           rotate_left
           ·
            show Act.put _ (some 17) _ = _
            simp only [AP]; rfl
           refine pure_ (i := 5) (N := some 12) (v := ?_) (a' := ?_) #[true, true, true, true, true, true, false, false, false, false] rfl rfl (any_of HT_.out (by kernel_rfl)) (fun _ _ _ h => h) (Or.inl ⟨by rfl, ?_⟩) ?_ ?_
           rotate_left
           ·
            intro w'; go_simp; with_reducible rfl
           rotate_left
           ·
            simp only [AP]; rfl
           refine pure_ (i := 6) (N := some 18) (v := ?_) (a' := ?_) #[true, true, true, true, true, true, true, false, false, false] rfl rfl (any_of HT_.out (by kernel_rfl)) (fun _ _ _ h => h) (Or.inl ⟨by rfl, ?_⟩) ?_ ?_
           rotate_left
           ·
            intro w'; go_simp; with_reducible rfl
           rotate_left
           ·
            simp only [AP]; rfl
           refine pure_ (i := 7) (N := some 19) (v := ?_) (a' := ?_) #[true, true, true, true, true, true, true, true, false, false] rfl rfl (any_of HT_.out (by kernel_rfl)) (fun _ _ _ h => h) (Or.inl ⟨by rfl, ?_⟩) ?_ ?_
           rotate_left
           ·
            intro w'; go_simp; with_reducible rfl
           rotate_left
           ·
            simp only [AP]; rfl
           refine last_ (i := 8) (N := none) #[true, true, true, true, true, true, true, true, true, false] rfl rfl (one_of HT_.out (by kernel_rfl)) (by decide) (fun K hK => ?_)
           have hs39 : w37.cell? ⟨gb170, 0, none⟩ = some (.slice Ao28 t166.length co28) := (blk_cell BK170.out 0).trans rfl
           have hfs39 := blk_frozen BK170.out 0
           refine skip_ (w1 := ?_) (by rfl) rfl ?_ ?_
           rotate_left
           ·
            go_simp; rfl
           refine hK.out _ _ ?_
           clear hK K
           refine pure_ (i := 9) (N := some 3) (v := ?_) (a' := ?_) #[true, true, true, true, true, true, true, true, true, true] rfl rfl (any_of HT_.out (by kernel_rfl)) (fun _ _ _ h => h) (Or.inl ⟨by rfl, ?_⟩) ?_ ?_
           rotate_left
           ·
            intro w'; go_simp; with_reducible rfl
           rotate_left
           ·
            simp only [AP]; rfl
           refine done_ (done_of HT_.out (by kernel_rfl)) ?_
           try go_wp2
           have n0_ : Aside0 (Kd.R (Kd.int .i64) 3 (w37.setCell ⟨gb170, 0, none⟩ (.slice Ao38 t180.length co38)) w.heap.size (fun k_ => some k_ ≠ (.slice Ao38 t180.length co38 : Value).ownBlock) (.slice Ao28 t166.length co28) t166) := ⟨by (with_reducible repeat (first | apply Kd.R_alloc | apply Kd.R_drewN | apply Kd.R_drew)); exact Kd.R_mono (Kd.R_far (p := ⟨gb170, 0, none⟩) (Kd.R_types HO168.out BK170.out (by decide)) (fun _ hk => hk.2) (.slice Ao38 t180.length co38)) (fun _ hk => hk.1.2)⟩
           have n1_ : Aside0 (Kd.R k41 41 (w37.setCell ⟨gb170, 0, none⟩ (.slice Ao38 t180.length co38)) w.heap.size (fun k_ => some k_ ≠ (.slice Ao36 y177.length co36 : Value).ownBlock) (.slice Ao35 t174.length co35) t174) := ⟨by (with_reducible repeat (first | apply Kd.R_alloc | apply Kd.R_drewN | apply Kd.R_drew)); exact Kd.R_mono (Kd.R_far (p := ⟨gb170, 0, none⟩) (Kd.R_types HO176.out BK170.out (by decide)) (fun _ hk => hk.2) (.slice Ao38 t180.length co38)) (fun _ hk => hk.1.2)⟩
           have n2_ : Aside0 (Kd.R k41 41 (w37.setCell ⟨gb170, 0, none⟩ (.slice Ao38 t180.length co38)) w.heap.size (fun k_ => some k_ ≠ (.slice Ao35 t174.length co35 : Value).ownBlock) (.slice Ao36 y177.length co36) y177) := ⟨by (with_reducible repeat (first | apply Kd.R_alloc | apply Kd.R_drewN | apply Kd.R_drew)); exact Kd.R_mono (Kd.R_far (p := ⟨gb170, 0, none⟩) (Kd.R_types HO179.out BK170.out (by decide)) (fun _ hk => hk.2) (.slice Ao38 t180.length co38)) (fun _ hk => hk.1)⟩
           have n3_ : Aside0 (Kd.R (Kd.int .i64) 3 (w37.setCell ⟨gb170, 0, none⟩ (.slice Ao38 t180.length co38)) w.heap.size (fun k_ => some k_ ≠ (.slice Ao28 t166.length co28 : Value).ownBlock) (.slice Ao38 t180.length co38) t180) := ⟨by (with_reducible repeat (first | apply Kd.R_alloc | apply Kd.R_drewN | apply Kd.R_drew)); exact Kd.R_mono (Kd.R_far (p := ⟨gb170, 0, none⟩) (Kd.R_types HO182.out BK170.out (by decide)) (fun _ hk => hk.2) (.slice Ao38 t180.length co38)) (fun _ hk => hk.1.2)⟩
           have n4_ : Aside0 ((w37.setCell ⟨gb170, 0, none⟩ (.slice Ao38 t180.length co38)).heap[gb170]? = some (.cells #[.slice Ao38 t180.length co38] 27 (0, 0))) := ⟨by (with_reducible repeat (first | refine blk_drewN ?_ _ | refine blk_drew ?_ | refine blk_alloc ?_ _)); refine blk_put (cs := #[.slice Ao28 t166.length co28]) ?_ 0 _ rfl; (with_reducible repeat (first | refine blk_drewN ?_ _ | refine blk_drew ?_ | refine blk_alloc ?_ _)); exact BK170.out⟩
           have n5_ : Aside0 (Below w.heap.size w (w37.setCell ⟨gb170, 0, none⟩ (.slice Ao38 t180.length co38))) := ⟨by repeat (first | (with_reducible first | exact HB.out | apply below_alloc | apply pw_below_drewN | apply below_drew1 | refine below_set ?_ GE170.out) | exact HB.out)⟩
           (try clear HO168)
           (try clear HO176)
           (try clear HO179)
           (try clear HO182)
           (try clear BK170)
           (try clear HB)
           generalize (w37.setCell ⟨gb170, 0, none⟩ (.slice Ao38 t180.length co38)) = w40 at n0_ n1_ n2_ n3_ n4_ n5_ ⊢
           have HO168 := n0_
           have HO176 := n1_
           have HO179 := n2_
           have HO182 := n3_
           have BK170 := n4_
           have HB := n5_
           clear n0_ n1_ n2_ n3_ n4_ n5_
           have n0_ := Aside0.mk (Kd.R_drew HO168.out)
           have n1_ := Aside0.mk (Kd.R_drew HO176.out)
           have n2_ := Aside0.mk (Kd.R_drew HO179.out)
           have n3_ := Aside0.mk (Kd.R_drew HO182.out)
           have n4_ := Aside0.mk (blk_drew BK170.out)
           have n5_ := Aside0.mk (below_drew1 HB.out)
           clear HO168
           clear HO176
           clear HO179
           clear HO182
           clear BK170
           clear HB
           have HO168 := n0_
           have HO176 := n1_
           have HO179 := n2_
           have HO182 := n3_
           have BK170 := n4_
           have HB := n5_
           clear n0_ n1_ n2_ n3_ n4_ n5_
           refine start_ (n := 8) (S := fun w' => w'.cell? ⟨gb170, 0, none⟩ = some (.slice Ao38 t180.length co38)) (ds := [6]) #[false, false, false, false, false, false, false, false] (by kernel_rfl) rfl rfl ((blk_cell BK170.out 0).trans rfl) (fun hHeld => ?_); refine with_tabW tegulalaw34_awake.tab3 tegulalaw34_awake.bits3 (fun HT_ HW_ => ?_)
           generalize w40.drew = w41 at HO168 HO176 HO179 HO182 BK170 HB hHeld ⊢
           refine take_ (i := 0) (N := some 21) (v := ?_) (a' := ?_) #[true, false, false, false, false, false, false, false] rfl rfl (take_ofW HT_.out HW_.out (by kernel_rfl)) (fun _ _ _ h => h) (Or.inl ⟨by rfl, ?_⟩) hHeld ?_ ?_
           rotate_left
           ·
            intro w' s0
            go_simp; with_reducible rfl
           rotate_left
           ·
            simp only [AP]; rfl
           refine one_ (i := 1) (N := some 22) #[true, true, false, false, false, false, false, false] rfl rfl (one_of HT_.out (by kernel_rfl)) (by decide) (fun K hK => ?_)
           refine goes_ Try.func23 (by kernel_rfl) rfl #[.int .i64 5, .int .i64 2] (by rfl) rfl rfl (by (try simp only [List.map_toArray, List.map_cons, List.map_nil]); first | done | rfl | (simp only [List.length_drop, List.length_take]; rfl)) ?_
           with_reducible refine (tegulalaw34_run.calls 5 2 t184 _ A6.out).mono ?_
           rintro e w42 ⟨v185, rfl, ho0, hb⟩
           refine ⟨_, rfl, ?_⟩
           have n0_ := Aside0.mk (Kd.R_below (rU HO168.out) hb)
           have n1_ := Aside0.mk (Kd.R_elder' (rU HO176.out) (Kd.R_base ho0) hb)
           have n2_ := Aside0.mk (Kd.R_elder' (rU HO179.out) (Kd.R_base ho0) hb)
           have n3_ := Aside0.mk (Kd.R_below (rU HO182.out) hb)
           have n4_ := Aside0.mk (Kd.R_lower (Kd.R_new' (Kd.R_new' ho0 (Kd.R_lt (rU HO176.out))) (Kd.R_lt (rU HO179.out))) (below_size (by repeat (first | (with_reducible first | exact HB.out | apply below_alloc | apply pw_below_drewN | apply below_drew1 | refine below_set ?_ GE170.out) | exact HB.out))))
           have n5_ := Aside0.mk (blk_below (g := gb170) (o := .cells #[.slice Ao38 t180.length co38] 27 (0, 0)) (kU BK170.out) hb)
           have n6_ := Aside0.mk (below_step (by repeat (first | (with_reducible first | exact HB.out | apply below_alloc | apply pw_below_drewN | apply below_drew1 | refine below_set ?_ GE170.out) | exact HB.out)) hb)
           clear HO168
           clear HO176
           clear HO179
           clear HO182
           clear BK170
           clear HB
           have HO168 := n0_
           have HO176 := n1_
           have HO179 := n2_
           have HO182 := n3_
           have HO186 := n4_
           have BK170 := n5_
           have HB := n6_
           clear n0_ n1_ n2_ n3_ n4_ n5_ n6_
           (try clear hb)
           (try clear hb2)
           (try clear hk)
           (try clear hi)
           (try clear ho0)
           obtain ⟨Ao43, co43, eo43⟩ := Kd.R_slice HO186.out
           (first | subst eo43 | (injection eo43 with f1_ f2_ f3_; have f4_ := f1_.symm; have f5_ := f3_.symm; clear f1_ f2_ f3_; subst f4_; subst f5_))
           refine hK.out _ _ ((blk_cell BK170.out 0).trans rfl) (fun hHeld => ?_)
           clear hK K
           refine norm_ (a' := ?_) ?_ ?_
           rotate_left
           ·
            show Act.put _ (some 22) _ = _
            simp only [AP]; rfl
           refine one_ (i := 2) (N := some 23) #[true, true, true, false, false, false, false, false] rfl rfl (one_of HT_.out (by kernel_rfl)) (by decide) (fun K hK => ?_)
           refine goes_ Try.func12 (by kernel_rfl) rfl #[.agg #[.slice Ao38 t180.length co38], .slice Ao43 t184.length co43] (by rfl) rfl rfl (by (try simp only [List.map_toArray, List.map_cons, List.map_nil]); first | done | rfl | (simp only [List.length_drop, List.length_take]; rfl)) ?_
           with_reducible refine (refcount_Counts_Add.calls k _ _ t180 _ _ t184 t187 t190 _ ?side1 ?side2 ?side3 ?side4 A7.out).mono ?_
           (case side1 => repeat (first | exact (Kd.R_reads' HO182.out).2.2 | (with_reducible refine Kd.C_alloc ?_ _) | (with_reducible refine Kd.C_drewN ?_ _) | (with_reducible refine Kd.C_drew ?_)))
           (case side2 => exact (Kd.R_reads' HO182.out).2.1)
           (case side3 => repeat (first | exact (Kd.R_reads' HO186.out).2.2 | (with_reducible refine Kd.C_alloc ?_ _) | (with_reducible refine Kd.C_drewN ?_ _) | (with_reducible refine Kd.C_drew ?_)))
           (case side4 => exact (Kd.R_reads' HO186.out).2.1)
           rintro e w44 ⟨v188, rfl, ho0, hb⟩
           refine ⟨_, rfl, ?_⟩
           have n0_ := Aside0.mk (Kd.R_elder' (rU HO168.out) (Kd.R_base ho0) hb)
           have n1_ := Aside0.mk (Kd.R_below (rU HO176.out) hb)
           have n2_ := Aside0.mk (Kd.R_below (rU HO179.out) hb)
           have n3_ := Aside0.mk (Kd.R_elder' (rU HO182.out) (Kd.R_base ho0) hb)
           have n4_ := Aside0.mk (Kd.R_below (rU HO186.out) hb)
           have n5_ := Aside0.mk (Kd.R_lower (Kd.R_new' (Kd.R_new' ho0 (Kd.R_lt (rU HO168.out))) (Kd.R_lt (rU HO182.out))) (below_size (by repeat (first | (with_reducible first | exact HB.out | apply below_alloc | apply pw_below_drewN | apply below_drew1 | refine below_set ?_ GE170.out) | exact HB.out))))
           have n6_ := Aside0.mk (blk_below (g := gb170) (o := .cells #[.slice Ao38 t180.length co38] 27 (0, 0)) (kU BK170.out) hb)
           have n7_ := Aside0.mk (below_step (by repeat (first | (with_reducible first | exact HB.out | apply below_alloc | apply pw_below_drewN | apply below_drew1 | refine below_set ?_ GE170.out) | exact HB.out)) hb)
           clear HO168
           clear HO176
           clear HO179
           clear HO182
           clear HO186
           clear BK170
           clear HB
           have HO168 := n0_
           have HO176 := n1_
           have HO179 := n2_
           have HO182 := n3_
           have HO186 := n4_
           have HO189 := n5_
           have BK170 := n6_
           have HB := n7_
           clear n0_ n1_ n2_ n3_ n4_ n5_ n6_ n7_
           (try clear hb)
           (try clear hb2)
           (try clear hk)
           (try clear hi)
           (try clear ho0)
           obtain ⟨Ao45, co45, eo45⟩ := Kd.R_slice HO189.out
           (first | subst eo45 | (injection eo45 with f1_ f2_ f3_; have f4_ := f1_.symm; have f5_ := f3_.symm; clear f1_ f2_ f3_; subst f4_; subst f5_))
           refine hK.out _ _ ((blk_cell BK170.out 0).trans rfl) (fun hHeld => ?_)
           clear hK K
           refine norm_ (a' := ?_) ?_ ?_
           rotate_left
           ·
            show Act.put _ (some 23) _ = _
            simp only [AP]; rfl
           refine pure_ (i := 3) (N := some 20) (v := ?_) (a' := ?_) #[true, true, true, true, false, false, false, false] rfl rfl (any_of HT_.out (by kernel_rfl)) (fun _ _ _ h => h) (Or.inl ⟨by rfl, ?_⟩) ?_ ?_
           rotate_left
           ·
            intro w'; go_simp; with_reducible rfl
           rotate_left
           ·
            simp only [AP]; rfl
           refine pure_ (i := 4) (N := some 24) (v := ?_) (a' := ?_) #[true, true, true, true, true, false, false, false] rfl rfl (any_of HT_.out (by kernel_rfl)) (fun _ _ _ h => h) (Or.inl ⟨by rfl, ?_⟩) ?_ ?_
           rotate_left
           ·
            intro w'; go_simp; with_reducible rfl
           rotate_left
           ·
            simp only [AP]; rfl
           refine pure_ (i := 5) (N := some 25) (v := ?_) (a' := ?_) #[true, true, true, true, true, true, false, false] rfl rfl (any_of HT_.out (by kernel_rfl)) (fun _ _ _ h => h) (Or.inl ⟨by rfl, ?_⟩) ?_ ?_
           rotate_left
           ·
            intro w'; go_simp; with_reducible rfl
           rotate_left
           ·
            simp only [AP]; rfl
           refine last_ (i := 6) (N := none) #[true, true, true, true, true, true, true, false] rfl rfl (one_of HT_.out (by kernel_rfl)) (by decide) (fun K hK => ?_)
           have hs46 : w44.cell? ⟨gb170, 0, none⟩ = some (.slice Ao38 t180.length co38) := (blk_cell BK170.out 0).trans rfl
           have hfs46 := blk_frozen BK170.out 0
           refine skip_ (w1 := ?_) (by rfl) rfl ?_ ?_
           rotate_left
           ·
            go_simp; rfl
           refine hK.out _ _ ?_
           clear hK K
           refine pure_ (i := 7) (N := some 4) (v := ?_) (a' := ?_) #[true, true, true, true, true, true, true, true] rfl rfl (any_of HT_.out (by kernel_rfl)) (fun _ _ _ h => h) (Or.inl ⟨by rfl, ?_⟩) ?_ ?_
           rotate_left
           ·
            intro w'; go_simp; with_reducible rfl
           rotate_left
           ·
            simp only [AP]; rfl
           refine done_ (done_of HT_.out (by kernel_rfl)) ?_
           try go_wp2
           have n0_ : Aside0 (Kd.R (Kd.int .i64) 3 (w44.setCell ⟨gb170, 0, none⟩ (.slice Ao45 t187.length co45)) w.heap.size (fun k_ => some k_ ≠ (.slice Ao38 t180.length co38 : Value).ownBlock ∧ some k_ ≠ (.slice Ao45 t187.length co45 : Value).ownBlock) (.slice Ao28 t166.length co28) t166) := ⟨by (with_reducible repeat (first | apply Kd.R_alloc | apply Kd.R_drewN | apply Kd.R_drew)); exact Kd.R_mono (Kd.R_far (p := ⟨gb170, 0, none⟩) (Kd.R_types HO168.out BK170.out (by decide)) (fun _ hk => hk.2) (.slice Ao45 t187.length co45)) (fun _ hk => ⟨hk.1.1, hk.1.2⟩)⟩
           have n1_ : Aside0 (Kd.R k41 41 (w44.setCell ⟨gb170, 0, none⟩ (.slice Ao45 t187.length co45)) w.heap.size (fun k_ => some k_ ≠ (.slice Ao36 y177.length co36 : Value).ownBlock ∧ some k_ ≠ (.slice Ao43 t184.length co43 : Value).ownBlock) (.slice Ao35 t174.length co35) t174) := ⟨by (with_reducible repeat (first | apply Kd.R_alloc | apply Kd.R_drewN | apply Kd.R_drew)); exact Kd.R_mono (Kd.R_far (p := ⟨gb170, 0, none⟩) (Kd.R_types HO176.out BK170.out (by decide)) (fun _ hk => hk.2) (.slice Ao45 t187.length co45)) (fun _ hk => ⟨hk.1.1, hk.1.2⟩)⟩
           have n2_ : Aside0 (Kd.R k41 41 (w44.setCell ⟨gb170, 0, none⟩ (.slice Ao45 t187.length co45)) w.heap.size (fun k_ => some k_ ≠ (.slice Ao35 t174.length co35 : Value).ownBlock ∧ some k_ ≠ (.slice Ao43 t184.length co43 : Value).ownBlock) (.slice Ao36 y177.length co36) y177) := ⟨by (with_reducible repeat (first | apply Kd.R_alloc | apply Kd.R_drewN | apply Kd.R_drew)); exact Kd.R_mono (Kd.R_far (p := ⟨gb170, 0, none⟩) (Kd.R_types HO179.out BK170.out (by decide)) (fun _ hk => hk.2) (.slice Ao45 t187.length co45)) (fun _ hk => ⟨hk.1.1, hk.1.2⟩)⟩
           have n3_ : Aside0 (Kd.R (Kd.int .i64) 3 (w44.setCell ⟨gb170, 0, none⟩ (.slice Ao45 t187.length co45)) w.heap.size (fun k_ => some k_ ≠ (.slice Ao28 t166.length co28 : Value).ownBlock ∧ some k_ ≠ (.slice Ao45 t187.length co45 : Value).ownBlock) (.slice Ao38 t180.length co38) t180) := ⟨by (with_reducible repeat (first | apply Kd.R_alloc | apply Kd.R_drewN | apply Kd.R_drew)); exact Kd.R_mono (Kd.R_far (p := ⟨gb170, 0, none⟩) (Kd.R_types HO182.out BK170.out (by decide)) (fun _ hk => hk.2) (.slice Ao45 t187.length co45)) (fun _ hk => ⟨hk.1.1, hk.1.2⟩)⟩
           have n4_ : Aside0 (Kd.R k41 41 (w44.setCell ⟨gb170, 0, none⟩ (.slice Ao45 t187.length co45)) w.heap.size (fun k_ => some k_ ≠ (.slice Ao35 t174.length co35 : Value).ownBlock ∧ some k_ ≠ (.slice Ao36 y177.length co36 : Value).ownBlock) (.slice Ao43 t184.length co43) t184) := ⟨by (with_reducible repeat (first | apply Kd.R_alloc | apply Kd.R_drewN | apply Kd.R_drew)); exact Kd.R_mono (Kd.R_far (p := ⟨gb170, 0, none⟩) (Kd.R_types HO186.out BK170.out (by decide)) (fun _ hk => hk.2) (.slice Ao45 t187.length co45)) (fun _ hk => ⟨hk.1.1.2, hk.1.2⟩)⟩
           have n5_ : Aside0 (Kd.R (Kd.int .i64) 3 (w44.setCell ⟨gb170, 0, none⟩ (.slice Ao45 t187.length co45)) w.heap.size (fun k_ => some k_ ≠ (.slice Ao28 t166.length co28 : Value).ownBlock ∧ some k_ ≠ (.slice Ao38 t180.length co38 : Value).ownBlock) (.slice Ao45 t187.length co45) t187) := ⟨by (with_reducible repeat (first | apply Kd.R_alloc | apply Kd.R_drewN | apply Kd.R_drew)); exact Kd.R_mono (Kd.R_far (p := ⟨gb170, 0, none⟩) (Kd.R_types HO189.out BK170.out (by decide)) (fun _ hk => hk.2) (.slice Ao45 t187.length co45)) (fun _ hk => ⟨hk.1.1.2, hk.1.2⟩)⟩
           have n6_ : Aside0 ((w44.setCell ⟨gb170, 0, none⟩ (.slice Ao45 t187.length co45)).heap[gb170]? = some (.cells #[.slice Ao45 t187.length co45] 27 (0, 0))) := ⟨by (with_reducible repeat (first | refine blk_drewN ?_ _ | refine blk_drew ?_ | refine blk_alloc ?_ _)); refine blk_put (cs := #[.slice Ao38 t180.length co38]) ?_ 0 _ rfl; (with_reducible repeat (first | refine blk_drewN ?_ _ | refine blk_drew ?_ | refine blk_alloc ?_ _)); exact BK170.out⟩
           have n7_ : Aside0 (Below w.heap.size w (w44.setCell ⟨gb170, 0, none⟩ (.slice Ao45 t187.length co45))) := ⟨by repeat (first | (with_reducible first | exact HB.out | apply below_alloc | apply pw_below_drewN | apply below_drew1 | refine below_set ?_ GE170.out) | exact HB.out)⟩
           (try clear HO168)
           (try clear HO176)
           (try clear HO179)
           (try clear HO182)
           (try clear HO186)
           (try clear HO189)
           (try clear BK170)
           (try clear HB)
           generalize (w44.setCell ⟨gb170, 0, none⟩ (.slice Ao45 t187.length co45)) = w47 at n0_ n1_ n2_ n3_ n4_ n5_ n6_ n7_ ⊢
           have HO168 := n0_
           have HO176 := n1_
           have HO179 := n2_
           have HO182 := n3_
           have HO186 := n4_
           have HO189 := n5_
           have BK170 := n6_
           have HB := n7_
           clear n0_ n1_ n2_ n3_ n4_ n5_ n6_ n7_
           have n0_ := Aside0.mk (Kd.R_drew HO168.out)
           have n1_ := Aside0.mk (Kd.R_drew HO176.out)
           have n2_ := Aside0.mk (Kd.R_drew HO179.out)
           have n3_ := Aside0.mk (Kd.R_drew HO182.out)
           have n4_ := Aside0.mk (Kd.R_drew HO186.out)
           have n5_ := Aside0.mk (Kd.R_drew HO189.out)
           have n6_ := Aside0.mk (blk_drew BK170.out)
           have n7_ := Aside0.mk (below_drew1 HB.out)
           clear HO168
           clear HO176
           clear HO179
           clear HO182
           clear HO186
           clear HO189
           clear BK170
           clear HB
           have HO168 := n0_
           have HO176 := n1_
           have HO179 := n2_
           have HO182 := n3_
           have HO186 := n4_
           have HO189 := n5_
           have BK170 := n6_
           have HB := n7_
           clear n0_ n1_ n2_ n3_ n4_ n5_ n6_ n7_
           refine start_ (n := 11) (S := fun w' => w'.cell? ⟨gb170, 0, none⟩ = some (.slice Ao45 t187.length co45)) (ds := []) #[false, false, false, false, false, false, false, false, false, false, false] (by kernel_rfl) rfl rfl ((blk_cell BK170.out 0).trans rfl) (fun hHeld => ?_); refine with_tabW tegulalaw34_awake.tab4 tegulalaw34_awake.bits4 (fun HT_ HW_ => ?_)
           generalize w47.drew = w48 at HO168 HO176 HO179 HO182 HO186 HO189 BK170 HB hHeld ⊢
           refine take_ (i := 0) (N := some 27) (v := ?_) (a' := ?_) #[true, false, false, false, false, false, false, false, false, false, false] rfl rfl (take_ofW HT_.out HW_.out (by kernel_rfl)) (fun _ _ _ h => h) (Or.inl ⟨by rfl, ?_⟩) hHeld ?_ ?_
           rotate_left
           ·
            intro w' s0
            go_simp; with_reducible rfl
           rotate_left
           ·
            simp only [AP]; rfl
           refine join_ (σ := Value × Value × Value × Nat) 3 #[true, true, true, true, true, true, true, true, false, false, false] (fun s_ => [(28, s_.1), (29, .tuple #[.agg #[s_.2.1], s_.2.2.1, .int .i64 t200]), (5, .pointer (some ⟨s_.2.2.2, 0, none⟩)), (26, .tuple #[.agg #[s_.2.1], s_.2.2.1, .int .i64 t200]), (30, .agg #[s_.2.1]), (31, s_.2.2.1), (32, .int .i64 t200)]) (fun s_ w' => (w'.cell? ⟨gb170, 0, none⟩ = some (.slice Ao45 t187.length co45)) ∧ (Kd.R (Kd.int .i64) 3 w' w.heap.size (fun k_ => some k_ ≠ (.slice Ao38 t180.length co38 : Value).ownBlock ∧ some k_ ≠ (.slice Ao45 t187.length co45 : Value).ownBlock ∧ some k_ ≠ (s_.2.1 : Value).ownBlock) (.slice Ao28 t166.length co28) t166) ∧ (Kd.R k41 41 w' w.heap.size (fun k_ => some k_ ≠ (.slice Ao36 y177.length co36 : Value).ownBlock ∧ some k_ ≠ (.slice Ao43 t184.length co43 : Value).ownBlock ∧ some k_ ≠ (s_.1 : Value).ownBlock ∧ some k_ ≠ (s_.2.2.1 : Value).ownBlock) (.slice Ao35 t174.length co35) t174) ∧ (Kd.R k41 41 w' w.heap.size (fun k_ => some k_ ≠ (.slice Ao35 t174.length co35 : Value).ownBlock ∧ some k_ ≠ (.slice Ao43 t184.length co43 : Value).ownBlock ∧ some k_ ≠ (s_.1 : Value).ownBlock ∧ some k_ ≠ (s_.2.2.1 : Value).ownBlock) (.slice Ao36 y177.length co36) y177) ∧ (Kd.R (Kd.int .i64) 3 w' w.heap.size (fun k_ => some k_ ≠ (.slice Ao28 t166.length co28 : Value).ownBlock ∧ some k_ ≠ (.slice Ao45 t187.length co45 : Value).ownBlock ∧ some k_ ≠ (s_.2.1 : Value).ownBlock) (.slice Ao38 t180.length co38) t180) ∧ (Kd.R k41 41 w' w.heap.size (fun k_ => some k_ ≠ (.slice Ao35 t174.length co35 : Value).ownBlock ∧ some k_ ≠ (.slice Ao36 y177.length co36 : Value).ownBlock ∧ some k_ ≠ (s_.1 : Value).ownBlock ∧ some k_ ≠ (s_.2.2.1 : Value).ownBlock) (.slice Ao43 t184.length co43) t184) ∧ (Kd.R (Kd.int .i64) 3 w' w.heap.size (fun k_ => some k_ ≠ (.slice Ao28 t166.length co28 : Value).ownBlock ∧ some k_ ≠ (.slice Ao38 t180.length co38 : Value).ownBlock ∧ some k_ ≠ (s_.2.1 : Value).ownBlock) (.slice Ao45 t187.length co45) t187) ∧ (Kd.R k41 41 w' w.heap.size (fun k_ => some k_ ≠ (.slice Ao35 t174.length co35 : Value).ownBlock ∧ some k_ ≠ (.slice Ao36 y177.length co36 : Value).ownBlock ∧ some k_ ≠ (.slice Ao43 t184.length co43 : Value).ownBlock ∧ some k_ ≠ (s_.2.2.1 : Value).ownBlock) s_.1 t191) ∧ (Kd.R (Kd.int .i64) 3 w' w.heap.size (fun k_ => some k_ ≠ (.slice Ao28 t166.length co28 : Value).ownBlock ∧ some k_ ≠ (.slice Ao38 t180.length co38 : Value).ownBlock ∧ some k_ ≠ (.slice Ao45 t187.length co45 : Value).ownBlock) s_.2.1 t194) ∧ (Kd.R k41 41 w' w.heap.size (fun k_ => some k_ ≠ (.slice Ao35 t174.length co35 : Value).ownBlock ∧ some k_ ≠ (.slice Ao36 y177.length co36 : Value).ownBlock ∧ some k_ ≠ (.slice Ao43 t184.length co43 : Value).ownBlock ∧ some k_ ≠ (s_.1 : Value).ownBlock) s_.2.2.1 t197) ∧ (w'.heap[gb170]? = some (.cells #[.slice Ao45 t187.length co45] 27 (0, 0))) ∧ (w'.heap[s_.2.2.2]? = some (.cells #[.slice none 0 0] 27 (0, 0))) ∧ (w.heap.size ≤ s_.2.2.2) ∧ (w.heap.size ≤ s_.2.2.2) ∧ (gb170 ≠ s_.2.2.2) ∧ (s_.2.2.2 ≠ gb170) ∧ (Below w.heap.size w w')) ?_ ?_
           rotate_left
           ·
            intro hCont
            refine two_ (i := 1) (j := 7) (Ni := some 28) (Nj := some 5) #[true, true, false, false, false, false, false, false, false, false, false] #[true, false, false, false, false, false, false, true, false, false, false] rfl rfl rfl rfl (two_of HT_.out (by kernel_rfl)) (by decide) (by decide) (fun K hK => ?_) (fun K hK => ?_)
            ·
             skip
             refine goes_ Try.func23 (by kernel_rfl) rfl #[.int .i64 5, .int .i64 2] (by rfl) rfl rfl (by (try simp only [List.map_toArray, List.map_cons, List.map_nil]); first | done | rfl | (simp only [List.length_drop, List.length_take]; rfl)) ?_
             with_reducible refine (tegulalaw34_run.calls 5 2 t191 _ A8.out).mono ?_
             rintro e w49 ⟨v192, rfl, ho0, hb⟩
             refine ⟨_, rfl, ?_⟩
             have n0_ := Aside0.mk (Kd.R_below (rU HO168.out) hb)
             have n1_ := Aside0.mk (Kd.R_elder' (rU HO176.out) (Kd.R_base ho0) hb)
             have n2_ := Aside0.mk (Kd.R_elder' (rU HO179.out) (Kd.R_base ho0) hb)
             have n3_ := Aside0.mk (Kd.R_below (rU HO182.out) hb)
             have n4_ := Aside0.mk (Kd.R_elder' (rU HO186.out) (Kd.R_base ho0) hb)
             have n5_ := Aside0.mk (Kd.R_below (rU HO189.out) hb)
             have n6_ := Aside0.mk (Kd.R_lower (Kd.R_new' (Kd.R_new' (Kd.R_new' ho0 (Kd.R_lt (rU HO176.out))) (Kd.R_lt (rU HO179.out))) (Kd.R_lt (rU HO186.out))) (below_size (by repeat (first | (with_reducible first | exact HB.out | apply below_alloc | apply pw_below_drewN | apply below_drew1 | refine below_set ?_ GE170.out) | exact HB.out))))
             have n7_ := Aside0.mk (blk_below (g := gb170) (o := .cells #[.slice Ao45 t187.length co45] 27 (0, 0)) (kU BK170.out) hb)
             have n8_ := Aside0.mk (below_step (by repeat (first | (with_reducible first | exact HB.out | apply below_alloc | apply pw_below_drewN | apply below_drew1 | refine below_set ?_ GE170.out) | exact HB.out)) hb)
             clear HO168
             clear HO176
             clear HO179
             clear HO182
             clear HO186
             clear HO189
             clear BK170
             clear HB
             have HO168 := n0_
             have HO176 := n1_
             have HO179 := n2_
             have HO182 := n3_
             have HO186 := n4_
             have HO189 := n5_
             have HO193 := n6_
             have BK170 := n7_
             have HB := n8_
             clear n0_ n1_ n2_ n3_ n4_ n5_ n6_ n7_ n8_
             (try clear hb)
             (try clear hb2)
             (try clear hk)
             (try clear hi)
             (try clear ho0)
             obtain ⟨Ao50, co50, eo50⟩ := Kd.R_slice HO193.out
             (first | subst eo50 | (injection eo50 with f1_ f2_ f3_; have f4_ := f1_.symm; have f5_ := f3_.symm; clear f1_ f2_ f3_; subst f4_; subst f5_))
             refine hK.out _ _ ((blk_cell BK170.out 0).trans rfl) (fun hHeld => ?_)
             clear hK K
             refine norm_ (a' := ?_) ?_ ?_
             rotate_left
             ·
              show Act.put _ (some 28) _ = _
              simp only [AP]; rfl
             refine two_ (i := 2) (j := 7) (Ni := some 29) (Nj := some 5) #[true, true, true, false, false, false, false, false, false, false, false] #[true, true, false, false, false, false, false, true, false, false, false] rfl rfl rfl rfl (two_of HT_.out (by kernel_rfl)) (by decide) (by decide) (fun K hK => ?_) (fun K hK => ?_)
             ·
              skip
              refine goes_ Try.func14 (by kernel_rfl) rfl #[.agg #[.slice Ao45 t187.length co45], .slice Ao50 t191.length co50] (by rfl) rfl rfl (by (try simp only [List.map_toArray, List.map_cons, List.map_nil]); first | done | rfl | (simp only [List.length_drop, List.length_take]; rfl)) ?_
              with_reducible refine (refcount_Counts_Drop.calls k _ _ t187 _ _ t191 t194 t197 t200 _ ?side1 ?side2 ?side3 ?side4 A9.out).mono ?_
              (case side1 => repeat (first | exact (Kd.R_reads' HO189.out).2.2 | (with_reducible refine Kd.C_alloc ?_ _) | (with_reducible refine Kd.C_drewN ?_ _) | (with_reducible refine Kd.C_drew ?_)))
              (case side2 => exact (Kd.R_reads' HO189.out).2.1)
              (case side3 => repeat (first | exact (Kd.R_reads' HO193.out).2.2 | (with_reducible refine Kd.C_alloc ?_ _) | (with_reducible refine Kd.C_drewN ?_ _) | (with_reducible refine Kd.C_drew ?_)))
              (case side4 => exact (Kd.R_reads' HO193.out).2.1)
              rintro e w51 ⟨v195, v198, rfl, ho0, ho1, hb⟩
              refine ⟨_, rfl, ?_⟩
              have n0_ := Aside0.mk (Kd.R_elder' (rU HO168.out) (Kd.R_base ho0) hb)
              have n1_ := Aside0.mk (Kd.R_elder' (rU HO176.out) (Kd.R_base ho1) hb)
              have n2_ := Aside0.mk (Kd.R_elder' (rU HO179.out) (Kd.R_base ho1) hb)
              have n3_ := Aside0.mk (Kd.R_elder' (rU HO182.out) (Kd.R_base ho0) hb)
              have n4_ := Aside0.mk (Kd.R_elder' (rU HO186.out) (Kd.R_base ho1) hb)
              have n5_ := Aside0.mk (Kd.R_elder' (rU HO189.out) (Kd.R_base ho0) hb)
              have n6_ := Aside0.mk (Kd.R_elder' (rU HO193.out) (Kd.R_base ho1) hb)
              have n7_ := Aside0.mk (Kd.R_lower (Kd.R_new' (Kd.R_new' (Kd.R_new' ho0 (Kd.R_lt (rU HO168.out))) (Kd.R_lt (rU HO182.out))) (Kd.R_lt (rU HO189.out))) (below_size (by repeat (first | (with_reducible first | exact HB.out | apply below_alloc | apply pw_below_drewN | apply below_drew1 | refine below_set ?_ GE170.out) | exact HB.out))))
              have n8_ := Aside0.mk (Kd.R_lower (Kd.R_new' (Kd.R_new' (Kd.R_new' (Kd.R_new' ho1 (Kd.R_lt (rU HO176.out))) (Kd.R_lt (rU HO179.out))) (Kd.R_lt (rU HO186.out))) (Kd.R_lt (rU HO193.out))) (below_size (by repeat (first | (with_reducible first | exact HB.out | apply below_alloc | apply pw_below_drewN | apply below_drew1 | refine below_set ?_ GE170.out) | exact HB.out))))
              have n9_ := Aside0.mk (blk_below (g := gb170) (o := .cells #[.slice Ao45 t187.length co45] 27 (0, 0)) (kU BK170.out) hb)
              have n10_ := Aside0.mk (below_step (by repeat (first | (with_reducible first | exact HB.out | apply below_alloc | apply pw_below_drewN | apply below_drew1 | refine below_set ?_ GE170.out) | exact HB.out)) hb)
              clear HO168
              clear HO176
              clear HO179
              clear HO182
              clear HO186
              clear HO189
              clear HO193
              clear BK170
              clear HB
              have HO168 := n0_
              have HO176 := n1_
              have HO179 := n2_
              have HO182 := n3_
              have HO186 := n4_
              have HO189 := n5_
              have HO193 := n6_
              have HO196 := n7_
              have HO199 := n8_
              have BK170 := n9_
              have HB := n10_
              clear n0_ n1_ n2_ n3_ n4_ n5_ n6_ n7_ n8_ n9_ n10_
              (try clear hb)
              (try clear hb2)
              (try clear hk)
              (try clear hi)
              (try clear ho0)
              (try clear ho1)
              refine hK.out _ _ ((blk_cell BK170.out 0).trans rfl) (fun hHeld => ?_)
              clear hK K
              refine norm_ (a' := ?_) ?_ ?_
              rotate_left
              ·
               show Act.put _ (some 29) _ = _
               simp only [AP]; rfl
              refine pure_ (i := 3) (N := some 26) (v := ?_) (a' := ?_) #[true, true, true, true, false, false, false, false, false, false, false] rfl rfl (any_of HT_.out (by kernel_rfl)) (fun _ _ _ h => h) (Or.inl ⟨by rfl, ?_⟩) ?_ ?_
              rotate_left
              ·
               intro w'; go_simp; with_reducible rfl
              rotate_left
              ·
               simp only [AP]; rfl
              refine pure_ (i := 4) (N := some 30) (v := ?_) (a' := ?_) #[true, true, true, true, true, false, false, false, false, false, false] rfl rfl (any_of HT_.out (by kernel_rfl)) (fun _ _ _ h => h) (Or.inl ⟨by rfl, ?_⟩) ?_ ?_
              rotate_left
              ·
               intro w'; go_simp; with_reducible rfl
              rotate_left
              ·
               simp only [AP]; rfl
              refine pure_ (i := 5) (N := some 31) (v := ?_) (a' := ?_) #[true, true, true, true, true, true, false, false, false, false, false] rfl rfl (any_of HT_.out (by kernel_rfl)) (fun _ _ _ h => h) (Or.inl ⟨by rfl, ?_⟩) ?_ ?_
              rotate_left
              ·
               intro w'; go_simp; with_reducible rfl
              rotate_left
              ·
               simp only [AP]; rfl
              refine pure_ (i := 6) (N := some 32) (v := ?_) (a' := ?_) #[true, true, true, true, true, true, true, false, false, false, false] rfl rfl (any_of HT_.out (by kernel_rfl)) (fun _ _ _ h => h) (Or.inl ⟨by rfl, ?_⟩) ?_ ?_
              rotate_left
              ·
               intro w'; go_simp; with_reducible rfl
              rotate_left
              ·
               simp only [AP]; rfl
              refine one_ (i := 7) (N := some 5) #[true, true, true, true, true, true, true, true, false, false, false] rfl rfl (one_of HT_.out (by kernel_rfl)) (by decide) (fun K hK => ?_)
              refine box_step ?hg (N := 5) ?hd (cs := #[.slice none 0 0]) (t := 27) ?hr ?_; (case hd => rfl); (case hg => rfl); (case hr => first | (go_simp; done) | (go_simp; rfl))
              intro gb201 hg w52 hbox hb
              have n0_ := Aside0.mk (Kd.R_below (rU HO168.out) hb)
              have n1_ := Aside0.mk (Kd.R_below (rU HO176.out) hb)
              have n2_ := Aside0.mk (Kd.R_below (rU HO179.out) hb)
              have n3_ := Aside0.mk (Kd.R_below (rU HO182.out) hb)
              have n4_ := Aside0.mk (Kd.R_below (rU HO186.out) hb)
              have n5_ := Aside0.mk (Kd.R_below (rU HO189.out) hb)
              have n6_ := Aside0.mk (Kd.R_below (rU HO193.out) hb)
              have n7_ := Aside0.mk (Kd.R_below (rU HO196.out) hb)
              have n8_ := Aside0.mk (Kd.R_below (rU HO199.out) hb)
              have n9_ := Aside0.mk (blk_below (g := gb170) (o := .cells #[.slice Ao45 t187.length co45] 27 (0, 0)) (kU BK170.out) hb)
              have n10_ := Aside0.mk (below_step (by repeat (first | (with_reducible first | exact HB.out | apply below_alloc | apply pw_below_drewN | apply below_drew1 | refine below_set ?_ GE170.out) | exact HB.out)) hb)
              have n11_ := Aside0.mk (hbox)
              have n12_ := Aside0.mk ((by rw [hg]; exact (below_size (by repeat (first | (with_reducible first | exact HB.out | apply below_alloc | apply pw_below_drewN | apply below_drew1 | refine below_set ?_ GE170.out) | exact HB.out))) : w.heap.size ≤ gb201))
              have n13_ := Aside0.mk ((by rw [hg]; exact (below_size (by repeat (first | (with_reducible first | exact HB.out | apply below_alloc | apply pw_below_drewN | apply below_drew1 | refine below_set ?_ GE170.out) | exact HB.out))) : w.heap.size ≤ gb201))
              have n14_ := Aside0.mk ((by rw [hg]; exact Nat.ne_of_lt (blk_lt (g := gb170) (o := .cells #[.slice Ao45 t187.length co45] 27 (0, 0)) (kU BK170.out)) : gb170 ≠ gb201))
              have n15_ := Aside0.mk ((by rw [hg]; exact Nat.ne_of_gt (blk_lt (g := gb170) (o := .cells #[.slice Ao45 t187.length co45] 27 (0, 0)) (kU BK170.out)) : gb201 ≠ gb170))
              clear HO168
              clear HO176
              clear HO179
              clear HO182
              clear HO186
              clear HO189
              clear HO193
              clear HO196
              clear HO199
              clear BK170
              clear HB
              have HO168 := n0_
              have HO176 := n1_
              have HO179 := n2_
              have HO182 := n3_
              have HO186 := n4_
              have HO189 := n5_
              have HO193 := n6_
              have HO196 := n7_
              have HO199 := n8_
              have BK170 := n9_
              have HB := n10_
              have BK201 := n11_
              have GW201 := n12_
              have GE201 := n13_
              have NB170_201 := n14_
              have NB201_170 := n15_
              clear n0_ n1_ n2_ n3_ n4_ n5_ n6_ n7_ n8_ n9_ n10_ n11_ n12_ n13_ n14_ n15_
              clear hb hbox hg
              refine hK.out _ _ ((blk_cell BK170.out 0).trans rfl) (fun hHeld => ?_)
              clear hK K
              refine norm_ (a' := ?_) ?_ ?_
              rotate_left
              ·
               show Act.put _ (some 5) _ = _
               simp only [AP]; rfl
              exact norm_ (by simp only [putAll, Act.put, List.setIfInBounds_toArray, List.set_cons_zero, List.set_cons_succ]) (hCont (.slice Ao50 t191.length co50, v195, v198, gb201) _ ⟨hHeld, (rU (Kd.R_mono HO168.out (fun _ hk => ⟨hk.1.1, ⟨hk.1.2, hk.2⟩⟩))), (rU (Kd.R_mono HO176.out (fun _ hk => ⟨hk.1.1.1, ⟨hk.1.1.2, ⟨hk.1.2, hk.2⟩⟩⟩))), (rU (Kd.R_mono HO179.out (fun _ hk => ⟨hk.1.1.1, ⟨hk.1.1.2, ⟨hk.1.2, hk.2⟩⟩⟩))), (rU (Kd.R_mono HO182.out (fun _ hk => ⟨hk.1.1, ⟨hk.1.2, hk.2⟩⟩))), (rU (Kd.R_mono HO186.out (fun _ hk => ⟨hk.1.1.1, ⟨hk.1.1.2, ⟨hk.1.2, hk.2⟩⟩⟩))), (rU (Kd.R_mono HO189.out (fun _ hk => ⟨hk.1.1, ⟨hk.1.2, hk.2⟩⟩))), (rU (Kd.R_mono HO193.out (fun _ hk => ⟨hk.1.1.1.2, ⟨hk.1.1.2, ⟨hk.1.2, hk.2⟩⟩⟩))), (rU (Kd.R_mono HO196.out (fun _ hk => ⟨hk.1.1.2, ⟨hk.1.2, hk.2⟩⟩))), (rU (Kd.R_mono HO199.out (fun _ hk => ⟨hk.1.1.1.2, ⟨hk.1.1.2, ⟨hk.1.2, hk.2⟩⟩⟩))), (kU BK170.out), (kU BK201.out), GW201.out, GE201.out, NB170_201.out, NB201_170.out, (by repeat (first | (with_reducible first | exact HB.out | apply below_alloc | apply pw_below_drewN | apply below_drew1 | refine below_set ?_ GE170.out | refine below_set ?_ GE201.out) | exact HB.out))⟩)
             ·
              skip
              refine box_step ?hg (N := 5) ?hd (cs := #[.slice none 0 0]) (t := 27) ?hr ?_; (case hd => rfl); (case hg => rfl); (case hr => first | (go_simp; done) | (go_simp; rfl))
              intro gb201 hg w50 hbox hb
              have n0_ := Aside0.mk (Kd.R_below (rU HO168.out) hb)
              have n1_ := Aside0.mk (Kd.R_below (rU HO176.out) hb)
              have n2_ := Aside0.mk (Kd.R_below (rU HO179.out) hb)
              have n3_ := Aside0.mk (Kd.R_below (rU HO182.out) hb)
              have n4_ := Aside0.mk (Kd.R_below (rU HO186.out) hb)
              have n5_ := Aside0.mk (Kd.R_below (rU HO189.out) hb)
              have n6_ := Aside0.mk (Kd.R_below (rU HO193.out) hb)
              have n7_ := Aside0.mk (blk_below (g := gb170) (o := .cells #[.slice Ao45 t187.length co45] 27 (0, 0)) (kU BK170.out) hb)
              have n8_ := Aside0.mk (below_step (by repeat (first | (with_reducible first | exact HB.out | apply below_alloc | apply pw_below_drewN | apply below_drew1 | refine below_set ?_ GE170.out) | exact HB.out)) hb)
              have n9_ := Aside0.mk (hbox)
              have n10_ := Aside0.mk ((by rw [hg]; exact (below_size (by repeat (first | (with_reducible first | exact HB.out | apply below_alloc | apply pw_below_drewN | apply below_drew1 | refine below_set ?_ GE170.out) | exact HB.out))) : w.heap.size ≤ gb201))
              have n11_ := Aside0.mk ((by rw [hg]; exact (below_size (by repeat (first | (with_reducible first | exact HB.out | apply below_alloc | apply pw_below_drewN | apply below_drew1 | refine below_set ?_ GE170.out) | exact HB.out))) : w.heap.size ≤ gb201))
              have n12_ := Aside0.mk ((by rw [hg]; exact Nat.ne_of_lt (blk_lt (g := gb170) (o := .cells #[.slice Ao45 t187.length co45] 27 (0, 0)) (kU BK170.out)) : gb170 ≠ gb201))
              have n13_ := Aside0.mk ((by rw [hg]; exact Nat.ne_of_gt (blk_lt (g := gb170) (o := .cells #[.slice Ao45 t187.length co45] 27 (0, 0)) (kU BK170.out)) : gb201 ≠ gb170))
              clear HO168
              clear HO176
              clear HO179
              clear HO182
              clear HO186
              clear HO189
              clear HO193
              clear BK170
              clear HB
              have HO168 := n0_
              have HO176 := n1_
              have HO179 := n2_
              have HO182 := n3_
              have HO186 := n4_
              have HO189 := n5_
              have HO193 := n6_
              have BK170 := n7_
              have HB := n8_
              have BK201 := n9_
              have GW201 := n10_
              have GE201 := n11_
              have NB170_201 := n12_
              have NB201_170 := n13_
              clear n0_ n1_ n2_ n3_ n4_ n5_ n6_ n7_ n8_ n9_ n10_ n11_ n12_ n13_
              clear hb hbox hg
              obtain ⟨Ao51, co51, eo51⟩ := Kd.R_slice HO193.out
              (first | subst eo51 | (injection eo51 with f1_ f2_ f3_; have f4_ := f1_.symm; have f5_ := f3_.symm; clear f1_ f2_ f3_; subst f4_; subst f5_))
              refine hK.out _ _ ((blk_cell BK170.out 0).trans rfl) (fun hHeld => ?_)
              clear hK K
              refine norm_ (a' := ?_) ?_ ?_
              rotate_left
              ·
               show Act.put _ (some 5) _ = _
               simp only [AP]; rfl
              refine one_ (i := 2) (N := some 29) #[true, true, true, false, false, false, false, true, false, false, false] rfl rfl (one_of HT_.out (by kernel_rfl)) (by decide) (fun K hK => ?_)
              refine goes_ Try.func14 (by kernel_rfl) rfl #[.agg #[.slice Ao45 t187.length co45], .slice Ao51 t191.length co51] (by rfl) rfl rfl (by (try simp only [List.map_toArray, List.map_cons, List.map_nil]); first | done | rfl | (simp only [List.length_drop, List.length_take]; rfl)) ?_
              with_reducible refine (refcount_Counts_Drop.calls k _ _ t187 _ _ t191 t194 t197 t200 _ ?side1 ?side2 ?side3 ?side4 A9.out).mono ?_
              (case side1 => repeat (first | exact (Kd.R_reads' HO189.out).2.2 | (with_reducible refine Kd.C_alloc ?_ _) | (with_reducible refine Kd.C_drewN ?_ _) | (with_reducible refine Kd.C_drew ?_)))
              (case side2 => exact (Kd.R_reads' HO189.out).2.1)
              (case side3 => repeat (first | exact (Kd.R_reads' HO193.out).2.2 | (with_reducible refine Kd.C_alloc ?_ _) | (with_reducible refine Kd.C_drewN ?_ _) | (with_reducible refine Kd.C_drew ?_)))
              (case side4 => exact (Kd.R_reads' HO193.out).2.1)
              rintro e w52 ⟨v195, v198, rfl, ho0, ho1, hb⟩
              refine ⟨_, rfl, ?_⟩
              have n0_ := Aside0.mk (Kd.R_elder' (rU HO168.out) (Kd.R_base ho0) hb)
              have n1_ := Aside0.mk (Kd.R_elder' (rU HO176.out) (Kd.R_base ho1) hb)
              have n2_ := Aside0.mk (Kd.R_elder' (rU HO179.out) (Kd.R_base ho1) hb)
              have n3_ := Aside0.mk (Kd.R_elder' (rU HO182.out) (Kd.R_base ho0) hb)
              have n4_ := Aside0.mk (Kd.R_elder' (rU HO186.out) (Kd.R_base ho1) hb)
              have n5_ := Aside0.mk (Kd.R_elder' (rU HO189.out) (Kd.R_base ho0) hb)
              have n6_ := Aside0.mk (Kd.R_elder' (rU HO193.out) (Kd.R_base ho1) hb)
              have n7_ := Aside0.mk (Kd.R_lower (Kd.R_new' (Kd.R_new' (Kd.R_new' ho0 (Kd.R_lt (rU HO168.out))) (Kd.R_lt (rU HO182.out))) (Kd.R_lt (rU HO189.out))) (below_size (by repeat (first | (with_reducible first | exact HB.out | apply below_alloc | apply pw_below_drewN | apply below_drew1 | refine below_set ?_ GE170.out | refine below_set ?_ GE201.out) | exact HB.out))))
              have n8_ := Aside0.mk (Kd.R_lower (Kd.R_new' (Kd.R_new' (Kd.R_new' (Kd.R_new' ho1 (Kd.R_lt (rU HO176.out))) (Kd.R_lt (rU HO179.out))) (Kd.R_lt (rU HO186.out))) (Kd.R_lt (rU HO193.out))) (below_size (by repeat (first | (with_reducible first | exact HB.out | apply below_alloc | apply pw_below_drewN | apply below_drew1 | refine below_set ?_ GE170.out | refine below_set ?_ GE201.out) | exact HB.out))))
              have n9_ := Aside0.mk (blk_below (g := gb170) (o := .cells #[.slice Ao45 t187.length co45] 27 (0, 0)) (kU BK170.out) hb)
              have n10_ := Aside0.mk (blk_below (g := gb201) (o := .cells #[.slice none 0 0] 27 (0, 0)) (kU BK201.out) hb)
              have n11_ := Aside0.mk (below_step (by repeat (first | (with_reducible first | exact HB.out | apply below_alloc | apply pw_below_drewN | apply below_drew1 | refine below_set ?_ GE170.out | refine below_set ?_ GE201.out) | exact HB.out)) hb)
              clear HO168
              clear HO176
              clear HO179
              clear HO182
              clear HO186
              clear HO189
              clear HO193
              clear BK170
              clear BK201
              clear HB
              have HO168 := n0_
              have HO176 := n1_
              have HO179 := n2_
              have HO182 := n3_
              have HO186 := n4_
              have HO189 := n5_
              have HO193 := n6_
              have HO196 := n7_
              have HO199 := n8_
              have BK170 := n9_
              have BK201 := n10_
              have HB := n11_
              clear n0_ n1_ n2_ n3_ n4_ n5_ n6_ n7_ n8_ n9_ n10_ n11_
              (try clear hb)
              (try clear hb2)
              (try clear hk)
              (try clear hi)
              (try clear ho0)
              (try clear ho1)
              refine hK.out _ _ ((blk_cell BK170.out 0).trans rfl) (fun hHeld => ?_)
              clear hK K
              refine norm_ (a' := ?_) ?_ ?_
              rotate_left
              ·
               show Act.put _ (some 29) _ = _
               simp only [AP]; rfl
              refine pure_ (i := 3) (N := some 26) (v := ?_) (a' := ?_) #[true, true, true, true, false, false, false, true, false, false, false] rfl rfl (any_of HT_.out (by kernel_rfl)) (fun _ _ _ h => h) (Or.inl ⟨by rfl, ?_⟩) ?_ ?_
              rotate_left
              ·
               intro w'; go_simp; with_reducible rfl
              rotate_left
              ·
               simp only [AP]; rfl
              refine pure_ (i := 4) (N := some 30) (v := ?_) (a' := ?_) #[true, true, true, true, true, false, false, true, false, false, false] rfl rfl (any_of HT_.out (by kernel_rfl)) (fun _ _ _ h => h) (Or.inl ⟨by rfl, ?_⟩) ?_ ?_
              rotate_left
              ·
               intro w'; go_simp; with_reducible rfl
              rotate_left
              ·
               simp only [AP]; rfl
              refine pure_ (i := 5) (N := some 31) (v := ?_) (a' := ?_) #[true, true, true, true, true, true, false, true, false, false, false] rfl rfl (any_of HT_.out (by kernel_rfl)) (fun _ _ _ h => h) (Or.inl ⟨by rfl, ?_⟩) ?_ ?_
              rotate_left
              ·
               intro w'; go_simp; with_reducible rfl
              rotate_left
              ·
               simp only [AP]; rfl
              refine pure_ (i := 6) (N := some 32) (v := ?_) (a' := ?_) #[true, true, true, true, true, true, true, true, false, false, false] rfl rfl (any_of HT_.out (by kernel_rfl)) (fun _ _ _ h => h) (Or.inl ⟨by rfl, ?_⟩) ?_ ?_
              rotate_left
              ·
               intro w'; go_simp; with_reducible rfl
              rotate_left
              ·
               simp only [AP]; rfl
              exact norm_ (by simp only [putAll, Act.put, List.setIfInBounds_toArray, List.set_cons_zero, List.set_cons_succ]) (hCont (.slice Ao51 t191.length co51, v195, v198, gb201) _ ⟨hHeld, (rU (Kd.R_mono HO168.out (fun _ hk => ⟨hk.1.1, ⟨hk.1.2, hk.2⟩⟩))), (rU (Kd.R_mono HO176.out (fun _ hk => ⟨hk.1.1.1, ⟨hk.1.1.2, ⟨hk.1.2, hk.2⟩⟩⟩))), (rU (Kd.R_mono HO179.out (fun _ hk => ⟨hk.1.1.1, ⟨hk.1.1.2, ⟨hk.1.2, hk.2⟩⟩⟩))), (rU (Kd.R_mono HO182.out (fun _ hk => ⟨hk.1.1, ⟨hk.1.2, hk.2⟩⟩))), (rU (Kd.R_mono HO186.out (fun _ hk => ⟨hk.1.1.1, ⟨hk.1.1.2, ⟨hk.1.2, hk.2⟩⟩⟩))), (rU (Kd.R_mono HO189.out (fun _ hk => ⟨hk.1.1, ⟨hk.1.2, hk.2⟩⟩))), (rU (Kd.R_mono HO193.out (fun _ hk => ⟨hk.1.1.1.2, ⟨hk.1.1.2, ⟨hk.1.2, hk.2⟩⟩⟩))), (rU (Kd.R_mono HO196.out (fun _ hk => ⟨hk.1.1.2, ⟨hk.1.2, hk.2⟩⟩))), (rU (Kd.R_mono HO199.out (fun _ hk => ⟨hk.1.1.1.2, ⟨hk.1.1.2, ⟨hk.1.2, hk.2⟩⟩⟩))), (kU BK170.out), (kU BK201.out), GW201.out, GE201.out, NB170_201.out, NB201_170.out, (by repeat (first | (with_reducible first | exact HB.out | apply below_alloc | apply pw_below_drewN | apply below_drew1 | refine below_set ?_ GE170.out | refine below_set ?_ GE201.out) | exact HB.out))⟩)
            ·
             skip
             refine box_step ?hg (N := 5) ?hd (cs := #[.slice none 0 0]) (t := 27) ?hr ?_; (case hd => rfl); (case hg => rfl); (case hr => first | (go_simp; done) | (go_simp; rfl))
             intro gb201 hg w49 hbox hb
             have n0_ := Aside0.mk (Kd.R_below (rU HO168.out) hb)
             have n1_ := Aside0.mk (Kd.R_below (rU HO176.out) hb)
             have n2_ := Aside0.mk (Kd.R_below (rU HO179.out) hb)
             have n3_ := Aside0.mk (Kd.R_below (rU HO182.out) hb)
             have n4_ := Aside0.mk (Kd.R_below (rU HO186.out) hb)
             have n5_ := Aside0.mk (Kd.R_below (rU HO189.out) hb)
             have n6_ := Aside0.mk (blk_below (g := gb170) (o := .cells #[.slice Ao45 t187.length co45] 27 (0, 0)) (kU BK170.out) hb)
             have n7_ := Aside0.mk (below_step (by repeat (first | (with_reducible first | exact HB.out | apply below_alloc | apply pw_below_drewN | apply below_drew1 | refine below_set ?_ GE170.out) | exact HB.out)) hb)
             have n8_ := Aside0.mk (hbox)
             have n9_ := Aside0.mk ((by rw [hg]; exact (below_size (by repeat (first | (with_reducible first | exact HB.out | apply below_alloc | apply pw_below_drewN | apply below_drew1 | refine below_set ?_ GE170.out) | exact HB.out))) : w.heap.size ≤ gb201))
             have n10_ := Aside0.mk ((by rw [hg]; exact (below_size (by repeat (first | (with_reducible first | exact HB.out | apply below_alloc | apply pw_below_drewN | apply below_drew1 | refine below_set ?_ GE170.out) | exact HB.out))) : w.heap.size ≤ gb201))
             have n11_ := Aside0.mk ((by rw [hg]; exact Nat.ne_of_lt (blk_lt (g := gb170) (o := .cells #[.slice Ao45 t187.length co45] 27 (0, 0)) (kU BK170.out)) : gb170 ≠ gb201))
             have n12_ := Aside0.mk ((by rw [hg]; exact Nat.ne_of_gt (blk_lt (g := gb170) (o := .cells #[.slice Ao45 t187.length co45] 27 (0, 0)) (kU BK170.out)) : gb201 ≠ gb170))
             clear HO168
             clear HO176
             clear HO179
             clear HO182
             clear HO186
             clear HO189
             clear BK170
             clear HB
             have HO168 := n0_
             have HO176 := n1_
             have HO179 := n2_
             have HO182 := n3_
             have HO186 := n4_
             have HO189 := n5_
             have BK170 := n6_
             have HB := n7_
             have BK201 := n8_
             have GW201 := n9_
             have GE201 := n10_
             have NB170_201 := n11_
             have NB201_170 := n12_
             clear n0_ n1_ n2_ n3_ n4_ n5_ n6_ n7_ n8_ n9_ n10_ n11_ n12_
             clear hb hbox hg
             refine hK.out _ _ ((blk_cell BK170.out 0).trans rfl) (fun hHeld => ?_)
             clear hK K
             refine norm_ (a' := ?_) ?_ ?_
             rotate_left
             ·
              show Act.put _ (some 5) _ = _
              simp only [AP]; rfl
             refine one_ (i := 1) (N := some 28) #[true, true, false, false, false, false, false, true, false, false, false] rfl rfl (one_of HT_.out (by kernel_rfl)) (by decide) (fun K hK => ?_)
             refine goes_ Try.func23 (by kernel_rfl) rfl #[.int .i64 5, .int .i64 2] (by rfl) rfl rfl (by (try simp only [List.map_toArray, List.map_cons, List.map_nil]); first | done | rfl | (simp only [List.length_drop, List.length_take]; rfl)) ?_
             with_reducible refine (tegulalaw34_run.calls 5 2 t191 _ A8.out).mono ?_
             rintro e w50 ⟨v192, rfl, ho0, hb⟩
             refine ⟨_, rfl, ?_⟩
             have n0_ := Aside0.mk (Kd.R_below (rU HO168.out) hb)
             have n1_ := Aside0.mk (Kd.R_elder' (rU HO176.out) (Kd.R_base ho0) hb)
             have n2_ := Aside0.mk (Kd.R_elder' (rU HO179.out) (Kd.R_base ho0) hb)
             have n3_ := Aside0.mk (Kd.R_below (rU HO182.out) hb)
             have n4_ := Aside0.mk (Kd.R_elder' (rU HO186.out) (Kd.R_base ho0) hb)
             have n5_ := Aside0.mk (Kd.R_below (rU HO189.out) hb)
             have n6_ := Aside0.mk (Kd.R_lower (Kd.R_new' (Kd.R_new' (Kd.R_new' ho0 (Kd.R_lt (rU HO176.out))) (Kd.R_lt (rU HO179.out))) (Kd.R_lt (rU HO186.out))) (below_size (by repeat (first | (with_reducible first | exact HB.out | apply below_alloc | apply pw_below_drewN | apply below_drew1 | refine below_set ?_ GE170.out | refine below_set ?_ GE201.out) | exact HB.out))))
             have n7_ := Aside0.mk (blk_below (g := gb170) (o := .cells #[.slice Ao45 t187.length co45] 27 (0, 0)) (kU BK170.out) hb)
             have n8_ := Aside0.mk (blk_below (g := gb201) (o := .cells #[.slice none 0 0] 27 (0, 0)) (kU BK201.out) hb)
             have n9_ := Aside0.mk (below_step (by repeat (first | (with_reducible first | exact HB.out | apply below_alloc | apply pw_below_drewN | apply below_drew1 | refine below_set ?_ GE170.out | refine below_set ?_ GE201.out) | exact HB.out)) hb)
             clear HO168
             clear HO176
             clear HO179
             clear HO182
             clear HO186
             clear HO189
             clear BK170
             clear BK201
             clear HB
             have HO168 := n0_
             have HO176 := n1_
             have HO179 := n2_
             have HO182 := n3_
             have HO186 := n4_
             have HO189 := n5_
             have HO193 := n6_
             have BK170 := n7_
             have BK201 := n8_
             have HB := n9_
             clear n0_ n1_ n2_ n3_ n4_ n5_ n6_ n7_ n8_ n9_
             (try clear hb)
             (try clear hb2)
             (try clear hk)
             (try clear hi)
             (try clear ho0)
             obtain ⟨Ao51, co51, eo51⟩ := Kd.R_slice HO193.out
             (first | subst eo51 | (injection eo51 with f1_ f2_ f3_; have f4_ := f1_.symm; have f5_ := f3_.symm; clear f1_ f2_ f3_; subst f4_; subst f5_))
             refine hK.out _ _ ((blk_cell BK170.out 0).trans rfl) (fun hHeld => ?_)
             clear hK K
             refine norm_ (a' := ?_) ?_ ?_
             rotate_left
             ·
              show Act.put _ (some 28) _ = _
              simp only [AP]; rfl
             refine one_ (i := 2) (N := some 29) #[true, true, true, false, false, false, false, true, false, false, false] rfl rfl (one_of HT_.out (by kernel_rfl)) (by decide) (fun K hK => ?_)
             refine goes_ Try.func14 (by kernel_rfl) rfl #[.agg #[.slice Ao45 t187.length co45], .slice Ao51 t191.length co51] (by rfl) rfl rfl (by (try simp only [List.map_toArray, List.map_cons, List.map_nil]); first | done | rfl | (simp only [List.length_drop, List.length_take]; rfl)) ?_
             with_reducible refine (refcount_Counts_Drop.calls k _ _ t187 _ _ t191 t194 t197 t200 _ ?side1 ?side2 ?side3 ?side4 A9.out).mono ?_
             (case side1 => repeat (first | exact (Kd.R_reads' HO189.out).2.2 | (with_reducible refine Kd.C_alloc ?_ _) | (with_reducible refine Kd.C_drewN ?_ _) | (with_reducible refine Kd.C_drew ?_)))
             (case side2 => exact (Kd.R_reads' HO189.out).2.1)
             (case side3 => repeat (first | exact (Kd.R_reads' HO193.out).2.2 | (with_reducible refine Kd.C_alloc ?_ _) | (with_reducible refine Kd.C_drewN ?_ _) | (with_reducible refine Kd.C_drew ?_)))
             (case side4 => exact (Kd.R_reads' HO193.out).2.1)
             rintro e w52 ⟨v195, v198, rfl, ho0, ho1, hb⟩
             refine ⟨_, rfl, ?_⟩
             have n0_ := Aside0.mk (Kd.R_elder' (rU HO168.out) (Kd.R_base ho0) hb)
             have n1_ := Aside0.mk (Kd.R_elder' (rU HO176.out) (Kd.R_base ho1) hb)
             have n2_ := Aside0.mk (Kd.R_elder' (rU HO179.out) (Kd.R_base ho1) hb)
             have n3_ := Aside0.mk (Kd.R_elder' (rU HO182.out) (Kd.R_base ho0) hb)
             have n4_ := Aside0.mk (Kd.R_elder' (rU HO186.out) (Kd.R_base ho1) hb)
             have n5_ := Aside0.mk (Kd.R_elder' (rU HO189.out) (Kd.R_base ho0) hb)
             have n6_ := Aside0.mk (Kd.R_elder' (rU HO193.out) (Kd.R_base ho1) hb)
             have n7_ := Aside0.mk (Kd.R_lower (Kd.R_new' (Kd.R_new' (Kd.R_new' ho0 (Kd.R_lt (rU HO168.out))) (Kd.R_lt (rU HO182.out))) (Kd.R_lt (rU HO189.out))) (below_size (by repeat (first | (with_reducible first | exact HB.out | apply below_alloc | apply pw_below_drewN | apply below_drew1 | refine below_set ?_ GE170.out | refine below_set ?_ GE201.out) | exact HB.out))))
             have n8_ := Aside0.mk (Kd.R_lower (Kd.R_new' (Kd.R_new' (Kd.R_new' (Kd.R_new' ho1 (Kd.R_lt (rU HO176.out))) (Kd.R_lt (rU HO179.out))) (Kd.R_lt (rU HO186.out))) (Kd.R_lt (rU HO193.out))) (below_size (by repeat (first | (with_reducible first | exact HB.out | apply below_alloc | apply pw_below_drewN | apply below_drew1 | refine below_set ?_ GE170.out | refine below_set ?_ GE201.out) | exact HB.out))))
             have n9_ := Aside0.mk (blk_below (g := gb170) (o := .cells #[.slice Ao45 t187.length co45] 27 (0, 0)) (kU BK170.out) hb)
             have n10_ := Aside0.mk (blk_below (g := gb201) (o := .cells #[.slice none 0 0] 27 (0, 0)) (kU BK201.out) hb)
             have n11_ := Aside0.mk (below_step (by repeat (first | (with_reducible first | exact HB.out | apply below_alloc | apply pw_below_drewN | apply below_drew1 | refine below_set ?_ GE170.out | refine below_set ?_ GE201.out) | exact HB.out)) hb)
             clear HO168
             clear HO176
             clear HO179
             clear HO182
             clear HO186
             clear HO189
             clear HO193
             clear BK170
             clear BK201
             clear HB
             have HO168 := n0_
             have HO176 := n1_
             have HO179 := n2_
             have HO182 := n3_
             have HO186 := n4_
             have HO189 := n5_
             have HO193 := n6_
             have HO196 := n7_
             have HO199 := n8_
             have BK170 := n9_
             have BK201 := n10_
             have HB := n11_
             clear n0_ n1_ n2_ n3_ n4_ n5_ n6_ n7_ n8_ n9_ n10_ n11_
             (try clear hb)
             (try clear hb2)
             (try clear hk)
             (try clear hi)
             (try clear ho0)
             (try clear ho1)
             refine hK.out _ _ ((blk_cell BK170.out 0).trans rfl) (fun hHeld => ?_)
             clear hK K
             refine norm_ (a' := ?_) ?_ ?_
             rotate_left
             ·
              show Act.put _ (some 29) _ = _
              simp only [AP]; rfl
             refine pure_ (i := 3) (N := some 26) (v := ?_) (a' := ?_) #[true, true, true, true, false, false, false, true, false, false, false] rfl rfl (any_of HT_.out (by kernel_rfl)) (fun _ _ _ h => h) (Or.inl ⟨by rfl, ?_⟩) ?_ ?_
             rotate_left
             ·
              intro w'; go_simp; with_reducible rfl
             rotate_left
             ·
              simp only [AP]; rfl
             refine pure_ (i := 4) (N := some 30) (v := ?_) (a' := ?_) #[true, true, true, true, true, false, false, true, false, false, false] rfl rfl (any_of HT_.out (by kernel_rfl)) (fun _ _ _ h => h) (Or.inl ⟨by rfl, ?_⟩) ?_ ?_
             rotate_left
             ·
              intro w'; go_simp; with_reducible rfl
             rotate_left
             ·
              simp only [AP]; rfl
             refine pure_ (i := 5) (N := some 31) (v := ?_) (a' := ?_) #[true, true, true, true, true, true, false, true, false, false, false] rfl rfl (any_of HT_.out (by kernel_rfl)) (fun _ _ _ h => h) (Or.inl ⟨by rfl, ?_⟩) ?_ ?_
             rotate_left
             ·
              intro w'; go_simp; with_reducible rfl
             rotate_left
             ·
              simp only [AP]; rfl
             refine pure_ (i := 6) (N := some 32) (v := ?_) (a' := ?_) #[true, true, true, true, true, true, true, true, false, false, false] rfl rfl (any_of HT_.out (by kernel_rfl)) (fun _ _ _ h => h) (Or.inl ⟨by rfl, ?_⟩) ?_ ?_
             rotate_left
             ·
              intro w'; go_simp; with_reducible rfl
             rotate_left
             ·
              simp only [AP]; rfl
             exact norm_ (by simp only [putAll, Act.put, List.setIfInBounds_toArray, List.set_cons_zero, List.set_cons_succ]) (hCont (.slice Ao51 t191.length co51, v195, v198, gb201) _ ⟨hHeld, (rU (Kd.R_mono HO168.out (fun _ hk => ⟨hk.1.1, ⟨hk.1.2, hk.2⟩⟩))), (rU (Kd.R_mono HO176.out (fun _ hk => ⟨hk.1.1.1, ⟨hk.1.1.2, ⟨hk.1.2, hk.2⟩⟩⟩))), (rU (Kd.R_mono HO179.out (fun _ hk => ⟨hk.1.1.1, ⟨hk.1.1.2, ⟨hk.1.2, hk.2⟩⟩⟩))), (rU (Kd.R_mono HO182.out (fun _ hk => ⟨hk.1.1, ⟨hk.1.2, hk.2⟩⟩))), (rU (Kd.R_mono HO186.out (fun _ hk => ⟨hk.1.1.1, ⟨hk.1.1.2, ⟨hk.1.2, hk.2⟩⟩⟩))), (rU (Kd.R_mono HO189.out (fun _ hk => ⟨hk.1.1, ⟨hk.1.2, hk.2⟩⟩))), (rU (Kd.R_mono HO193.out (fun _ hk => ⟨hk.1.1.1.2, ⟨hk.1.1.2, ⟨hk.1.2, hk.2⟩⟩⟩))), (rU (Kd.R_mono HO196.out (fun _ hk => ⟨hk.1.1.2, ⟨hk.1.2, hk.2⟩⟩))), (rU (Kd.R_mono HO199.out (fun _ hk => ⟨hk.1.1.1.2, ⟨hk.1.1.2, ⟨hk.1.2, hk.2⟩⟩⟩))), (kU BK170.out), (kU BK201.out), GW201.out, GE201.out, NB170_201.out, NB201_170.out, (by repeat (first | (with_reducible first | exact HB.out | apply below_alloc | apply pw_below_drewN | apply below_drew1 | refine below_set ?_ GE170.out | refine below_set ?_ GE201.out) | exact HB.out))⟩)
           rintro ⟨v192, v195, v198, gb201⟩ w53 ⟨hS_, h0_, h1_, h2_, h3_, h4_, h5_, h6_, h7_, h8_, h9_, h10_, h11_, h12_, h13_, h14_, h15_⟩
           have n0_ : Aside0 (Kd.R (Kd.int .i64) 3 w53 w.heap.size (fun k_ => some k_ ≠ (.slice Ao38 t180.length co38 : Value).ownBlock ∧ some k_ ≠ (.slice Ao45 t187.length co45 : Value).ownBlock ∧ some k_ ≠ (v195 : Value).ownBlock) (.slice Ao28 t166.length co28) t166) := ⟨h0_⟩
           have n1_ : Aside0 (Kd.R k41 41 w53 w.heap.size (fun k_ => some k_ ≠ (.slice Ao36 y177.length co36 : Value).ownBlock ∧ some k_ ≠ (.slice Ao43 t184.length co43 : Value).ownBlock ∧ some k_ ≠ (v192 : Value).ownBlock ∧ some k_ ≠ (v198 : Value).ownBlock) (.slice Ao35 t174.length co35) t174) := ⟨h1_⟩
           have n2_ : Aside0 (Kd.R k41 41 w53 w.heap.size (fun k_ => some k_ ≠ (.slice Ao35 t174.length co35 : Value).ownBlock ∧ some k_ ≠ (.slice Ao43 t184.length co43 : Value).ownBlock ∧ some k_ ≠ (v192 : Value).ownBlock ∧ some k_ ≠ (v198 : Value).ownBlock) (.slice Ao36 y177.length co36) y177) := ⟨h2_⟩
           have n3_ : Aside0 (Kd.R (Kd.int .i64) 3 w53 w.heap.size (fun k_ => some k_ ≠ (.slice Ao28 t166.length co28 : Value).ownBlock ∧ some k_ ≠ (.slice Ao45 t187.length co45 : Value).ownBlock ∧ some k_ ≠ (v195 : Value).ownBlock) (.slice Ao38 t180.length co38) t180) := ⟨h3_⟩
           have n4_ : Aside0 (Kd.R k41 41 w53 w.heap.size (fun k_ => some k_ ≠ (.slice Ao35 t174.length co35 : Value).ownBlock ∧ some k_ ≠ (.slice Ao36 y177.length co36 : Value).ownBlock ∧ some k_ ≠ (v192 : Value).ownBlock ∧ some k_ ≠ (v198 : Value).ownBlock) (.slice Ao43 t184.length co43) t184) := ⟨h4_⟩
           have n5_ : Aside0 (Kd.R (Kd.int .i64) 3 w53 w.heap.size (fun k_ => some k_ ≠ (.slice Ao28 t166.length co28 : Value).ownBlock ∧ some k_ ≠ (.slice Ao38 t180.length co38 : Value).ownBlock ∧ some k_ ≠ (v195 : Value).ownBlock) (.slice Ao45 t187.length co45) t187) := ⟨h5_⟩
           have n6_ : Aside0 (Kd.R k41 41 w53 w.heap.size (fun k_ => some k_ ≠ (.slice Ao35 t174.length co35 : Value).ownBlock ∧ some k_ ≠ (.slice Ao36 y177.length co36 : Value).ownBlock ∧ some k_ ≠ (.slice Ao43 t184.length co43 : Value).ownBlock ∧ some k_ ≠ (v198 : Value).ownBlock) v192 t191) := ⟨h6_⟩
           have n7_ : Aside0 (Kd.R (Kd.int .i64) 3 w53 w.heap.size (fun k_ => some k_ ≠ (.slice Ao28 t166.length co28 : Value).ownBlock ∧ some k_ ≠ (.slice Ao38 t180.length co38 : Value).ownBlock ∧ some k_ ≠ (.slice Ao45 t187.length co45 : Value).ownBlock) v195 t194) := ⟨h7_⟩
           have n8_ : Aside0 (Kd.R k41 41 w53 w.heap.size (fun k_ => some k_ ≠ (.slice Ao35 t174.length co35 : Value).ownBlock ∧ some k_ ≠ (.slice Ao36 y177.length co36 : Value).ownBlock ∧ some k_ ≠ (.slice Ao43 t184.length co43 : Value).ownBlock ∧ some k_ ≠ (v192 : Value).ownBlock) v198 t197) := ⟨h8_⟩
           have n9_ : Aside0 (w53.heap[gb170]? = some (.cells #[.slice Ao45 t187.length co45] 27 (0, 0))) := ⟨h9_⟩
           have n10_ : Aside0 (w53.heap[gb201]? = some (.cells #[.slice none 0 0] 27 (0, 0))) := ⟨h10_⟩
           have n11_ : Aside0 (w.heap.size ≤ gb201) := ⟨h11_⟩
           have n12_ : Aside0 (w.heap.size ≤ gb201) := ⟨h12_⟩
           have n13_ : Aside0 (gb170 ≠ gb201) := ⟨h13_⟩
           have n14_ : Aside0 (gb201 ≠ gb170) := ⟨h14_⟩
           have n15_ : Aside0 (Below w.heap.size w w53) := ⟨h15_⟩
           clear HO168
           clear HO176
           clear HO179
           clear HO182
           clear HO186
           clear HO189
           clear BK170
           clear HB
           clear h0_ h1_ h2_ h3_ h4_ h5_ h6_ h7_ h8_ h9_ h10_ h11_ h12_ h13_ h14_ h15_
           have HO168 := n0_
           have HO176 := n1_
           have HO179 := n2_
           have HO182 := n3_
           have HO186 := n4_
           have HO189 := n5_
           have HO193 := n6_
           have HO196 := n7_
           have HO199 := n8_
           have BK170 := n9_
           have BK201 := n10_
           have GW201 := n11_
           have GE201 := n12_
           have NB170_201 := n13_
           have NB201_170 := n14_
           have HB := n15_
           clear n0_ n1_ n2_ n3_ n4_ n5_ n6_ n7_ n8_ n9_ n10_ n11_ n12_ n13_ n14_ n15_
           have hHeld : w53.cell? ⟨gb170, 0, none⟩ = some (.slice Ao45 t187.length co45) := hS_
           obtain ⟨Ao54, co54, eo54⟩ := Kd.R_slice HO196.out
           (first | subst eo54 | (injection eo54 with f1_ f2_ f3_; have f4_ := f1_.symm; have f5_ := f3_.symm; clear f1_ f2_ f3_; subst f4_; subst f5_))
           refine norm_ (a' := ?_) ?_ ?_
           rotate_left
           ·
            simp only [putAll, Act.put, List.setIfInBounds_toArray, List.set_cons_zero, List.set_cons_succ]
            rfl
           refine one_ (i := 8) (N := none) #[true, true, true, true, true, true, true, true, true, false, false] rfl rfl (one_of HT_.out (by kernel_rfl)) (by decide) (fun K hK => ?_)
           have hs55 : w53.cell? ⟨gb201, 0, none⟩ = some (.slice none 0 0) := (blk_cell BK201.out 0).trans rfl
           have hfs55 := blk_frozen BK201.out 0
           have hns55_0 := NB170_201.out
           have hms55_0 := NB201_170.out
           refine skip_ (w1 := ?_) (by rfl) rfl ?_ ?_
           rotate_left
           ·
            go_simp; rfl
           refine hK.out _ _ (((cell_far (p := ⟨gb201, _, none⟩) NB170_201.out _).trans (hHeld))) (fun hHeld => ?_)
           clear hK K
           refine pure_ (i := 9) (N := some 6) (v := ?_) (a' := ?_) #[true, true, true, true, true, true, true, true, true, true, false] rfl rfl (any_of HT_.out (by kernel_rfl)) (fun _ _ _ h => h) (Or.inl ⟨by rfl, ?_⟩) ?_ ?_
           rotate_left
           ·
            intro w'; go_simp; with_reducible rfl
           rotate_left
           ·
            simp only [AP]; rfl
           refine pure_ (i := 10) (N := some 7) (v := ?_) (a' := ?_) #[true, true, true, true, true, true, true, true, true, true, true] rfl rfl (any_of HT_.out (by kernel_rfl)) (fun _ _ _ h => h) (Or.inl ⟨by rfl, ?_⟩) ?_ ?_
           rotate_left
           ·
            intro w'; go_simp; with_reducible rfl
           rotate_left
           ·
            simp only [AP]; rfl
           refine done_ (done_of HT_.out (by kernel_rfl)) ?_
           have hnb56 := NB170_201.out
           have hnc56 := NB201_170.out
           have hcz57_0 : w53.cell? ⟨gb170, 0, none⟩ = some (.slice Ao45 t187.length co45) := (blk_cell BK170.out 0).trans rfl
           have hfz57_0 := blk_frozen BK170.out 0
           try go_wp2_with (first | (go_at_call 25; (with_reducible refine (refcount_Counts_Of.calls _ _ t187 5 t202 _ ?side1 ?side2 A14.out).mono ?_); (case side1 => refine (Kd.R_reads' (e := 3) (base := w.heap.size) (ok := fun k_ => (some k_ ≠ (.slice Ao28 t166.length co28 : Value).ownBlock ∧ (some k_ ≠ (.slice Ao38 t180.length co38 : Value).ownBlock ∧ some k_ ≠ (.slice Ao54 t194.length co54 : Value).ownBlock))) (n := t187.length) (c := co45) ?_).2.2; exact (rU (Kd.R_mono (Kd.R_far (p := ⟨gb201, 0, none⟩) (Kd.R_types HO189.out BK201.out (by decide)) (fun _ hk => hk.2) (.slice Ao54 t194.length co54)) (fun _ h_ => h_.1)))); (case side2 => exact (Kd.R_reads' HO189.out).2.1); rintro e w58 ⟨rfl, hb⟩; replace HO168 := Aside0.mk (Kd.R_below (rU (Kd.R_mono (Kd.R_far (p := ⟨gb201, 0, none⟩) (Kd.R_types HO168.out BK201.out (by decide)) (fun _ hk => hk.2) (.slice Ao54 t194.length co54)) (fun _ h_ => h_.1))) hb); replace HO176 := Aside0.mk (Kd.R_below (rU (Kd.R_mono (Kd.R_far (p := ⟨gb201, 0, none⟩) (Kd.R_types HO176.out BK201.out (by decide)) (fun _ hk => hk.2) (.slice Ao54 t194.length co54)) (fun _ h_ => h_.1))) hb); replace HO179 := Aside0.mk (Kd.R_below (rU (Kd.R_mono (Kd.R_far (p := ⟨gb201, 0, none⟩) (Kd.R_types HO179.out BK201.out (by decide)) (fun _ hk => hk.2) (.slice Ao54 t194.length co54)) (fun _ h_ => h_.1))) hb); replace HO182 := Aside0.mk (Kd.R_below (rU (Kd.R_mono (Kd.R_far (p := ⟨gb201, 0, none⟩) (Kd.R_types HO182.out BK201.out (by decide)) (fun _ hk => hk.2) (.slice Ao54 t194.length co54)) (fun _ h_ => h_.1))) hb); replace HO186 := Aside0.mk (Kd.R_below (rU (Kd.R_mono (Kd.R_far (p := ⟨gb201, 0, none⟩) (Kd.R_types HO186.out BK201.out (by decide)) (fun _ hk => hk.2) (.slice Ao54 t194.length co54)) (fun _ h_ => h_.1))) hb); replace HO189 := Aside0.mk (Kd.R_below (rU (Kd.R_mono (Kd.R_far (p := ⟨gb201, 0, none⟩) (Kd.R_types HO189.out BK201.out (by decide)) (fun _ hk => hk.2) (.slice Ao54 t194.length co54)) (fun _ h_ => h_.1))) hb); replace HO193 := Aside0.mk (Kd.R_below (rU (Kd.R_mono (Kd.R_far (p := ⟨gb201, 0, none⟩) (Kd.R_types HO193.out BK201.out (by decide)) (fun _ hk => hk.2) (.slice Ao54 t194.length co54)) (fun _ h_ => h_.1))) hb); replace HO196 := Aside0.mk (Kd.R_below (rU (Kd.R_mono (Kd.R_far (p := ⟨gb201, 0, none⟩) (Kd.R_types HO196.out BK201.out (by decide)) (fun _ hk => hk.2) (.slice Ao54 t194.length co54)) (fun _ h_ => h_.1))) hb); replace HO199 := Aside0.mk (Kd.R_below (rU (Kd.R_mono (Kd.R_far (p := ⟨gb201, 0, none⟩) (Kd.R_types HO199.out BK201.out (by decide)) (fun _ hk => hk.2) (.slice Ao54 t194.length co54)) (fun _ h_ => h_.1))) hb); replace BK170 := Aside0.mk (blk_below (g := gb170) (o := .cells #[.slice Ao45 t187.length co45] 27 (0, 0)) (by (with_reducible repeat (first | refine blk_drewN ?_ _ | refine blk_drew ?_ | refine blk_alloc ?_ _)); refine blk_far ?_ NB170_201.out _; (with_reducible repeat (first | refine blk_drewN ?_ _ | refine blk_drew ?_ | refine blk_alloc ?_ _)); exact BK170.out) hb); replace BK201 := Aside0.mk (blk_below (g := gb201) (o := .cells #[.slice Ao54 t194.length co54] 27 (0, 0)) (by (with_reducible repeat (first | refine blk_drewN ?_ _ | refine blk_drew ?_ | refine blk_alloc ?_ _)); refine blk_put (cs := #[.slice none 0 0]) ?_ 0 _ rfl; (with_reducible repeat (first | refine blk_drewN ?_ _ | refine blk_drew ?_ | refine blk_alloc ?_ _)); exact BK201.out) hb); replace HB := Aside0.mk (below_step (by repeat (first | (with_reducible first | exact HB.out | apply below_alloc | apply pw_below_drewN | apply below_drew1 | refine below_set ?_ GE170.out | refine below_set ?_ GE201.out) | exact HB.out)) hb); (try clear hb); (try clear hk); have hcz59_0 : w58.cell? ⟨gb170, 0, none⟩ = some (.slice Ao45 t187.length co45) := (blk_cell BK170.out 0).trans rfl; have hfz59_0 := blk_frozen BK170.out 0) | (go_at_call 25; (with_reducible refine (refcount_Counts_Of.calls _ _ t187 6 t203 _ ?side1 ?side2 A16.out).mono ?_); (case side1 => repeat (first | exact (Kd.R_reads' HO189.out).2.2 | (with_reducible refine Kd.C_alloc ?_ _) | (with_reducible refine Kd.C_drewN ?_ _) | (with_reducible refine Kd.C_drew ?_))); (case side2 => exact (Kd.R_reads' HO189.out).2.1); rintro e w60 ⟨rfl, hb⟩; replace HO168 := Aside0.mk (Kd.R_below (rU HO168.out) hb); replace HO176 := Aside0.mk (Kd.R_below (rU HO176.out) hb); replace HO179 := Aside0.mk (Kd.R_below (rU HO179.out) hb); replace HO182 := Aside0.mk (Kd.R_below (rU HO182.out) hb); replace HO186 := Aside0.mk (Kd.R_below (rU HO186.out) hb); replace HO189 := Aside0.mk (Kd.R_below (rU HO189.out) hb); replace HO193 := Aside0.mk (Kd.R_below (rU HO193.out) hb); replace HO196 := Aside0.mk (Kd.R_below (rU HO196.out) hb); replace HO199 := Aside0.mk (Kd.R_below (rU HO199.out) hb); replace BK170 := Aside0.mk (blk_below (g := gb170) (o := .cells #[.slice Ao45 t187.length co45] 27 (0, 0)) (kU BK170.out) hb); replace BK201 := Aside0.mk (blk_below (g := gb201) (o := .cells #[.slice Ao54 t194.length co54] 27 (0, 0)) (kU BK201.out) hb); replace HB := Aside0.mk (below_step (by repeat (first | (with_reducible first | exact HB.out | apply below_alloc | apply pw_below_drewN | apply below_drew1 | refine below_set ?_ GE170.out | refine below_set ?_ GE201.out) | exact HB.out)) hb); (try clear hb); (try clear hk); have hcz61_0 : w60.cell? ⟨gb201, 0, none⟩ = some (.slice Ao54 t194.length co54) := (blk_cell BK201.out 0).trans rfl; have hfz61_0 := blk_frozen BK201.out 0) | (go_at_call 25; (with_reducible refine (refcount_Counts_Of.calls _ _ t194 6 t204 _ ?side1 ?side2 A18.out).mono ?_); (case side1 => repeat (first | exact (Kd.R_reads' HO196.out).2.2 | (with_reducible refine Kd.C_alloc ?_ _) | (with_reducible refine Kd.C_drewN ?_ _) | (with_reducible refine Kd.C_drew ?_))); (case side2 => exact (Kd.R_reads' HO196.out).2.1); rintro e w62 ⟨rfl, hb⟩; replace HO168 := Aside0.mk (Kd.R_below (rU HO168.out) hb); replace HO176 := Aside0.mk (Kd.R_below (rU HO176.out) hb); replace HO179 := Aside0.mk (Kd.R_below (rU HO179.out) hb); replace HO182 := Aside0.mk (Kd.R_below (rU HO182.out) hb); replace HO186 := Aside0.mk (Kd.R_below (rU HO186.out) hb); replace HO189 := Aside0.mk (Kd.R_below (rU HO189.out) hb); replace HO193 := Aside0.mk (Kd.R_below (rU HO193.out) hb); replace HO196 := Aside0.mk (Kd.R_below (rU HO196.out) hb); replace HO199 := Aside0.mk (Kd.R_below (rU HO199.out) hb); replace BK170 := Aside0.mk (blk_below (g := gb170) (o := .cells #[.slice Ao45 t187.length co45] 27 (0, 0)) (kU BK170.out) hb); replace BK201 := Aside0.mk (blk_below (g := gb201) (o := .cells #[.slice Ao54 t194.length co54] 27 (0, 0)) (kU BK201.out) hb); replace HB := Aside0.mk (below_step (by repeat (first | (with_reducible first | exact HB.out | apply below_alloc | apply pw_below_drewN | apply below_drew1 | refine below_set ?_ GE170.out | refine below_set ?_ GE201.out) | exact HB.out)) hb); (try clear hb); (try clear hk)) | (go_at_call 23; (with_reducible refine (tegulalaw34_run.calls 6 1 t205 _ A20.out).mono ?_); rintro e w63 ⟨v206, rfl, ho0, hb⟩; replace HO168 := Aside0.mk (Kd.R_below (rU HO168.out) hb); replace HO182 := Aside0.mk (Kd.R_below (rU HO182.out) hb); replace HO189 := Aside0.mk (Kd.R_below (rU HO189.out) hb); replace HO196 := Aside0.mk (Kd.R_below (rU HO196.out) hb); have HO207 := Aside0.mk (Kd.R_lower (Kd.R_new' (Kd.R_new' (Kd.R_new' (Kd.R_new' (Kd.R_new' ho0 (Kd.R_lt (rU HO176.out))) (Kd.R_lt (rU HO179.out))) (Kd.R_lt (rU HO186.out))) (Kd.R_lt (rU HO193.out))) (Kd.R_lt (rU HO199.out))) (below_size (by repeat (first | (with_reducible first | exact HB.out | apply below_alloc | apply pw_below_drewN | apply below_drew1 | refine below_set ?_ GE170.out | refine below_set ?_ GE201.out) | exact HB.out)))); replace HO176 := Aside0.mk (Kd.R_elder' (rU HO176.out) (Kd.R_base ho0) hb); replace HO179 := Aside0.mk (Kd.R_elder' (rU HO179.out) (Kd.R_base ho0) hb); replace HO186 := Aside0.mk (Kd.R_elder' (rU HO186.out) (Kd.R_base ho0) hb); replace HO193 := Aside0.mk (Kd.R_elder' (rU HO193.out) (Kd.R_base ho0) hb); replace HO199 := Aside0.mk (Kd.R_elder' (rU HO199.out) (Kd.R_base ho0) hb); replace BK170 := Aside0.mk (blk_below (g := gb170) (o := .cells #[.slice Ao45 t187.length co45] 27 (0, 0)) (kU BK170.out) hb); replace BK201 := Aside0.mk (blk_below (g := gb201) (o := .cells #[.slice Ao54 t194.length co54] 27 (0, 0)) (kU BK201.out) hb); replace HB := Aside0.mk (below_step (by repeat (first | (with_reducible first | exact HB.out | apply below_alloc | apply pw_below_drewN | apply below_drew1 | refine below_set ?_ GE170.out | refine below_set ?_ GE201.out) | exact HB.out)) hb); (try clear hb); (try clear hk); (try clear ho0); obtain ⟨Ao64, co64, eo64⟩ := Kd.R_slice HO199.out; subst eo64; obtain ⟨Ao65, co65, eo65⟩ := Kd.R_slice HO207.out; subst eo65) | (go_at_call 16; (with_reducible refine (tegularef32_Same.calls k _ _ t197 _ _ t205 true _ ?side1 ?side2 ?side3 ?side4 A21.out).mono ?_); (case side1 => repeat (first | exact (Kd.R_reads' HO199.out).2.2 | (with_reducible refine Kd.C_alloc ?_ _) | (with_reducible refine Kd.C_drewN ?_ _) | (with_reducible refine Kd.C_drew ?_))); (case side2 => exact (Kd.R_reads' HO199.out).2.1); (case side3 => repeat (first | exact (Kd.R_reads' HO207.out).2.2 | (with_reducible refine Kd.C_alloc ?_ _) | (with_reducible refine Kd.C_drewN ?_ _) | (with_reducible refine Kd.C_drew ?_))); (case side4 => exact (Kd.R_reads' HO207.out).2.1); rintro e w' ⟨rfl, ⟨nd, rfl⟩⟩; have hcz66_0 : w63.cell? ⟨gb201, 0, none⟩ = some (.slice Ao54 t194.length co54) := (blk_cell BK201.out 0).trans rfl; have hfz66_0 := blk_frozen BK201.out 0) | (go_at_call 19; (with_reducible refine (refcount_Counts_Total.calls _ _ t194 t209 _ ?side1 ?side2 A23.out).mono ?_); (case side1 => repeat (first | exact (Kd.R_reads' HO196.out).2.2 | (with_reducible refine Kd.C_alloc ?_ _) | (with_reducible refine Kd.C_drewN ?_ _) | (with_reducible refine Kd.C_drew ?_))); (case side2 => exact (Kd.R_reads' HO196.out).2.1); rintro e w67 ⟨rfl, hb⟩; replace HO168 := Aside0.mk (Kd.R_below (rU HO168.out) hb); replace HO176 := Aside0.mk (Kd.R_below (rU HO176.out) hb); replace HO179 := Aside0.mk (Kd.R_below (rU HO179.out) hb); replace HO182 := Aside0.mk (Kd.R_below (rU HO182.out) hb); replace HO186 := Aside0.mk (Kd.R_below (rU HO186.out) hb); replace HO189 := Aside0.mk (Kd.R_below (rU HO189.out) hb); replace HO193 := Aside0.mk (Kd.R_below (rU HO193.out) hb); replace HO196 := Aside0.mk (Kd.R_below (rU HO196.out) hb); replace HO199 := Aside0.mk (Kd.R_below (rU HO199.out) hb); replace HO207 := Aside0.mk (Kd.R_below (rU HO207.out) hb); replace BK170 := Aside0.mk (blk_below (g := gb170) (o := .cells #[.slice Ao45 t187.length co45] 27 (0, 0)) (kU BK170.out) hb); replace BK201 := Aside0.mk (blk_below (g := gb201) (o := .cells #[.slice Ao54 t194.length co54] 27 (0, 0)) (kU BK201.out) hb); replace HB := Aside0.mk (below_step (by repeat (first | (with_reducible first | exact HB.out | apply below_alloc | apply pw_below_drewN | apply below_drew1 | refine below_set ?_ GE170.out | refine below_set ?_ GE201.out) | exact HB.out)) hb); (try clear hb); (try clear hk); have hcz68_0 : w67.cell? ⟨gb201, 0, none⟩ = some (.slice Ao54 t194.length co54) := (blk_cell BK201.out 0).trans rfl; have hfz68_0 := blk_frozen BK201.out 0) | (go_at_call 20; (with_reducible refine (refcount_Counts_Used.calls _ _ t194 t210 _ ?side1 ?side2 A25.out).mono ?_); (case side1 => repeat (first | exact (Kd.R_reads' HO196.out).2.2 | (with_reducible refine Kd.C_alloc ?_ _) | (with_reducible refine Kd.C_drewN ?_ _) | (with_reducible refine Kd.C_drew ?_))); (case side2 => exact (Kd.R_reads' HO196.out).2.1); rintro e w69 ⟨rfl, hb⟩; replace HO168 := Aside0.mk (Kd.R_below (rU HO168.out) hb); replace HO176 := Aside0.mk (Kd.R_below (rU HO176.out) hb); replace HO179 := Aside0.mk (Kd.R_below (rU HO179.out) hb); replace HO182 := Aside0.mk (Kd.R_below (rU HO182.out) hb); replace HO186 := Aside0.mk (Kd.R_below (rU HO186.out) hb); replace HO189 := Aside0.mk (Kd.R_below (rU HO189.out) hb); replace HO193 := Aside0.mk (Kd.R_below (rU HO193.out) hb); replace HO196 := Aside0.mk (Kd.R_below (rU HO196.out) hb); replace HO199 := Aside0.mk (Kd.R_below (rU HO199.out) hb); replace HO207 := Aside0.mk (Kd.R_below (rU HO207.out) hb); replace BK170 := Aside0.mk (blk_below (g := gb170) (o := .cells #[.slice Ao45 t187.length co45] 27 (0, 0)) (kU BK170.out) hb); replace BK201 := Aside0.mk (blk_below (g := gb201) (o := .cells #[.slice Ao54 t194.length co54] 27 (0, 0)) (kU BK201.out) hb); replace HB := Aside0.mk (below_step (by repeat (first | (with_reducible first | exact HB.out | apply below_alloc | apply pw_below_drewN | apply below_drew1 | refine below_set ?_ GE170.out | refine below_set ?_ GE201.out) | exact HB.out)) hb); (try clear hb); (try clear hk)))
           go_ret
           exact ⟨by first | rfl | (simp [errW_none, errW_some] <;> rfl) | (simp [*, errW_none, errW_some] <;> rfl), by repeat (first | (with_reducible first | exact HB.out | apply below_alloc | apply pw_below_drewN | apply below_drew1 | refine below_set ?_ GE170.out | refine below_set ?_ GE201.out) | exact HB.out)⟩
          ·
           rw [if_neg c24] at H
           obtain rfl := Option.some.inj H
           exact absurd (tegulalaw34_awake.true_ h0_.out) (by decide)
         ·
          rw [if_neg c22] at H
          obtain rfl := Option.some.inj H
          exact absurd (tegulalaw34_awake.true_ h0_.out) (by decide)
        ·
         rw [if_neg c19] at H
         obtain rfl := Option.some.inj H
         exact absurd (tegulalaw34_awake.true_ h0_.out) (by decide)
       ·
        rw [if_neg c17] at H
        obtain rfl := Option.some.inj H
        exact absurd (tegulalaw34_awake.true_ h0_.out) (by decide)
      ·
       rw [if_neg c15] at H
       obtain rfl := Option.some.inj H
       exact absurd (tegulalaw34_awake.true_ h0_.out) (by decide)
     ·
      rw [if_neg c13] at H
      obtain rfl := Option.some.inj H
      exact absurd (tegulalaw34_awake.true_ h0_.out) (by decide)
    ·
     rw [if_neg c12] at H
     obtain rfl := Option.some.inj H
     exact absurd (tegulalaw34_awake.true_ h0_.out) (by decide)
   ·
    rw [if_neg c11] at H
    obtain rfl := Option.some.inj H
    exact absurd (tegulalaw34_awake.true_ h0_.out) (by decide)
  ·
   rw [if_neg c10] at H
   obtain rfl := Option.some.inj H
   exact absurd (tegulalaw34_awake.true_ h0_.out) (by decide)
 ·
  rw [if_neg c4] at H
  exact absurd H (by simp)

end Go.Proofs.Ytnloofhpdlggnaa.PRefcountLarge
