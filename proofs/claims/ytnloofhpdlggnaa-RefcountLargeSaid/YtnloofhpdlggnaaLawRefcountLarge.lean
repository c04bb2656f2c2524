/- The row of the law RefcountLarge: for every input that can be read as data the law returns true, and its arguments read afterwards as before. No condition. -/
import Derived.Test.YtnloofhpdlggnaaRows
import Derived.Test.YtnloofhpdlggnaaOpenArr
import Derived.Test.YtnloofhpdlggnaaPureRefcountLarge
import Derived.WalkKit
import Derived.ProofKit
import Derived.OpenShut
import Derived.ShutString
import Derived.ChangeOld
import Derived.Below
import Derived.SizedLaws
namespace Go.Proofs.Ytnloofhpdlggnaa.refcountLarge
open Go.ChangeShapes Go.WideShapes Go.ChangeAt Go.RowKit Go.Proofs.YtnloofhpdlggnaaOpen Go.Proofs.YtnloofhpdlggnaaW.PrintWords
open Go.ChangeMaps (open_string shut_string)
set_option linter.unusedVariables false
theorem own : ownKnob Try.prog.godebug = none := by kernel_rfl
theorem laidOut : laidOutB Try.prog = true := by kernel_rfl
set_option maxRecDepth 100000 in
theorem lifted (os : Os) (started : os.Started) (H : Type) (enc : TypeId × Value → H) :
    ReturnsInHanded {} Try.checked os 8 .any (Rows.refcountLargeSpec.pre6 enc Try.prog Try.f8 Rows.refcountLargeRow.domain false) (Rows.refcountLargeSpec.post enc Try.prog Try.f8 false true false false) := by
  refine returnsInHanded_of_change_sized (C := Try.checked) own started (by kernel_rfl) Try.func8
    (ChangeSpec.witness6 (enc := enc) (C := Try.checked) false ⟨#[], #[.agg #[.int .u16 0, .int .u16 0], .agg #[.int .u16 0, .int .u16 0]], []⟩ 8 (by kernel_rfl) (by kernel_rfl) (by kernel_rfl) (by kernel_rfl)) ?_
  intro W base args ds gs before hval0 hW hcnd hsz0 _
  have hval : ∀ (j : Nat) t v, Try.f8.params[j]? = some t → args[j]? = some v → Value.okWide Try.prog W .any base t v := hval0
  have hW' := hW
  obtain ⟨p, q, hA0, hV, rfl, hfz, hnd⟩ := hW
  have hA : DataW.TrodAll enc Try.prog W 0 (fun _ => true) true Try.f8.params.toList args.toList ds p := hA0
  rw [Try.params8] at hA hval
  obtain ⟨v0, vs0, d0, ds0, p0, q0, hargs, rfl, rfl, h0, r0⟩ := trodAll_cons hA
  obtain ⟨v1, vs1, d1, ds1, p1, q1, rfl, rfl, rfl, h1, r1⟩ := trodAll_cons r0
  obtain ⟨rfl, rfl, rfl⟩ := trodAll_nil r1
  obtain rfl : args = #[v0, v1] := by cases args; simp_all
  obtain ⟨rfl, rfl⟩ := trodVars_none hV
  have lt0 : ∀ x ∈ p0, x.block < W.heap.size := by obtain ⟨m, hm⟩ := h0; exact DataW.trod_lt m _ _ _ hm
  obtain ⟨cs0, rfl, _⟩ := okWide_array Try.underlying52 (hval 0 52 v0 rfl rfl)
  obtain ⟨z0, hz0, hcz0, hq0⟩ : ∃ l : List Int, l.length = 2 ∧ cs0.toList = l.map (Value.int .u16) ∧ ∀ z ∈ l, (Lit.int .u16 z).wf = true := by
    obtain ⟨fuel, hf⟩ := h0
    exact open_array_arg Try.underlying52 Try.underlying51 (by kernel_rfl) (by kernel_rfl) hf
  obtain ⟨a0_0, a0_1, rfl⟩ : ∃ a0_0 a0_1, z0 = [a0_0, a0_1] := by
    match z0, hz0 with
    | [a0_0, a0_1], _ => exact ⟨a0_0, a0_1, rfl⟩
  have hc0 : cs0 = #[.int .u16 a0_0, .int .u16 a0_1] := by rw [← Array.toList_inj]; exact hcz0
  subst hc0
  have lt1 : ∀ x ∈ p1, x.block < W.heap.size := by obtain ⟨m, hm⟩ := h1; exact DataW.trod_lt m _ _ _ hm
  obtain ⟨cs1, rfl, _⟩ := okWide_array Try.underlying52 (hval 1 52 v1 rfl rfl)
  obtain ⟨z1, hz1, hcz1, hq1⟩ : ∃ l : List Int, l.length = 2 ∧ cs1.toList = l.map (Value.int .u16) ∧ ∀ z ∈ l, (Lit.int .u16 z).wf = true := by
    obtain ⟨fuel, hf⟩ := h1
    exact open_array_arg Try.underlying52 Try.underlying51 (by kernel_rfl) (by kernel_rfl) hf
  obtain ⟨a1_0, a1_1, rfl⟩ : ∃ a1_0 a1_1, z1 = [a1_0, a1_1] := by
    match z1, hz1 with
    | [a1_0, a1_1], _ => exact ⟨a1_0, a1_1, rfl⟩
  have hc1 : cs1 = #[.int .u16 a1_0, .int .u16 a1_1] := by rw [← Array.toList_inj]; exact hcz1
  subst hc1
  obtain ⟨k, hp⟩ := Pure.RefcountLarge a0_0 a0_1 a1_0 a1_1 (hq0 a0_0 (by simp)) (hq0 a0_1 (by simp)) (hq1 a1_0 (by simp)) (hq1 a1_1 (by simp))
  clear hA0 hval0 hsz0
  refine (PRefcountLarge.tegulalaw34_RefcountLarge.calls k a0_0 a0_1 a1_0 a1_1 true W  hp).mono ?_
  rintro e W' ⟨he, bel⟩
  subst he
  exact ⟨_, rfl, _, _, _, [], _, [], hW', trodAll_mk1 (shut_bool Try.underlying4 _), (trodAll_cons_mk (Below.trod laidOut (by kernel_rfl) (of_decide_eq_true (by kernel_rfl)) h0 bel lt0) (trodAll_cons_mk (Below.trod laidOut (by kernel_rfl) (of_decide_eq_true (by kernel_rfl)) h1 bel lt1) trodAll_mk0)), rfl, bel.frame _, fun h => by cases h⟩
theorem over : Rows.refcountLargeRow.holds Try.pinned (OpenSpec.ofChange Rows.refcountLargeSpec) :=
  OpenClaim.holds_of_wide 8 Try.f8 rfl rfl rfl rfl rfl rfl rfl ⟨rfl, rfl, rfl, rfl, rfl⟩ rfl rfl rfl rfl rfl (by kernel_rfl) Try.func8 (by kernel_rfl)
    (of_decide_eq_true (by kernel_rfl)) (by unfold Func.isWrapper; first | (rw [if_pos (by decide +kernel)]; kernel_rfl) | (rw [if_neg (by decide +kernel)]; exact ⟨rfl, rfl⟩))
    (fun os started H enc _ => lifted os started H enc)
theorem proved : Rows.RefcountLargeSaid := over
#print axioms proved
end Go.Proofs.Ytnloofhpdlggnaa.refcountLarge
namespace Go.Proofs.Ytnloofhpdlggnaa
/-- The row, under a short name, for the claim. -/
theorem refcountLarge_holds : Rows.RefcountLargeSaid := refcountLarge.proved
end Go.Proofs.Ytnloofhpdlggnaa
