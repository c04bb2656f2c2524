/- The row of the law ExtentRestores: for every input that can be read as data the law returns true, and its arguments read afterwards as before. No condition. -/
import Derived.Test.YtcgihjpnemnkeaaRows
import Derived.Test.YtcgihjpnemnkeaaOpen
import Derived.Test.YtcgihjpnemnkeaaPureExtentRestores
import Derived.WalkKit
import Derived.ProofKit
import Derived.OpenShut
import Derived.ShutString
import Derived.ChangeOld
import Derived.Below
import Derived.SizedLaws
namespace Go.Proofs.Ytcgihjpnemnkeaa.extentRestores
open Go.ChangeShapes Go.WideShapes Go.ChangeAt Go.RowKit Go.Proofs.YtcgihjpnemnkeaaOpen Go.Proofs.YtcgihjpnemnkeaaW.PrintWords
open Go.ChangeMaps (open_string shut_string)
set_option linter.unusedVariables false
theorem own : ownKnob Try.prog.godebug = none := by kernel_rfl
theorem laidOut : laidOutB Try.prog = true := by kernel_rfl
set_option maxRecDepth 100000 in
theorem lifted (os : Os) (started : os.Started) (H : Type) (enc : TypeId × Value → H) :
    ReturnsInHanded {} Try.checked os 8 .any (Rows.extentRestoresSpec.pre6 enc Try.prog Try.f8 Rows.extentRestoresRow.domain false) (Rows.extentRestoresSpec.post enc Try.prog Try.f8 false true false false) := by
  refine returnsInHanded_of_change_sized (C := Try.checked) own started (by kernel_rfl) Try.func8
    (ChangeSpec.witness6 (enc := enc) (C := Try.checked) false ⟨#[], #[.slice none 0 0, .agg #[.int .i64 0, .int .i64 0, .int .i64 0]], []⟩ 8 (by kernel_rfl) (by kernel_rfl) (by kernel_rfl) (by kernel_rfl)) ?_
  intro W base args ds gs before hval0 hW hcnd hsz0 _
  have hval : ∀ (j : Nat) t v, Try.f8.params[j]? = some t → args[j]? = some v → Value.okWide Try.prog W .any base t v := hval0
  have hW' := hW
  obtain ⟨p, q, hA0, hV, rfl, hfz, hnd⟩ := hW
  have hA : DataW.TrodAll enc Try.prog W 0 (fun _ => true) true Try.f8.params.toList args.toList ds p := hA0
  rw [Try.params8] at hA hval
  obtain ⟨v0, vs0, d0, ds0, p0, q0, hargs, rfl, rfl, h0, r0⟩ := trodAll_cons hA
  obtain ⟨v1, vs1, d1, ds1, p1, q1, rfl, rfl, rfl, h1, r1⟩ := trodAll_cons r0
  obtain ⟨rfl, rfl, rfl⟩ := trodAll_nil r1
  obtain rfl : args = #[v0, v1] := by cases args; simp_all
  obtain ⟨rfl, rfl⟩ := trodVars_none hV
  have lt0 : ∀ x ∈ p0, x.block < W.heap.size := by obtain ⟨m, hm⟩ := h0; exact DataW.trod_lt m _ _ _ hm
  obtain ⟨A0, len0, cap0, rfl⟩ := okWide_slice Try.underlying22 (hval 0 22 v0 rfl rfl)
  obtain ⟨l0, rfl, hc0, hC0, hq0⟩ := open_slice_arg (Opens.slice Try.underlying22 (by kernel_rfl) (Opens.struct3 Try.underlying33 rfl (by kernel_rfl) (by kernel_rfl) (by kernel_rfl) (Opens.int (k := .i64) Try.underlying3) (Opens.int (k := .i64) Try.underlying3) (Opens.int (k := .i64) Try.underlying3) (fun x : PExtentRestores.S33 => (x.f0, x.f1, x.f2)) (fun a b c => ⟨a, b, c⟩) (fun _ _ _ => rfl))) h0
  have lt1 : ∀ x ∈ p1, x.block < W.heap.size := by obtain ⟨m, hm⟩ := h1; exact DataW.trod_lt m _ _ _ hm
  obtain ⟨cs1, rfl, _⟩ := okWide_struct Try.underlying33 (hval 1 33 v1 rfl rfl)
  obtain ⟨x1, hK1, hq1⟩ := open_agg_arg (Opens.struct3 Try.underlying33 rfl (by kernel_rfl) (by kernel_rfl) (by kernel_rfl) (Opens.int (k := .i64) Try.underlying3) (Opens.int (k := .i64) Try.underlying3) (Opens.int (k := .i64) Try.underlying3) (fun x : PExtentRestores.S33 => (x.f0, x.f1, x.f2)) (fun a b c => ⟨a, b, c⟩) (fun _ _ _ => rfl)) h1
  have hc1 : cs1 = #[.int .i64 x1.f0, .int .i64 x1.f1, .int .i64 x1.f2] := by have := PExtentRestores.k33_open hK1; rw [← Array.toList_inj]; exact this
  subst hc1
  obtain ⟨k, hp⟩ := Pure.ExtentRestores l0 x1.f0 x1.f1 x1.f2 hq0 hq1.1 hq1.2.1 hq1.2.2
  clear hA0 hval0 hsz0
  refine (PExtentRestores.tegulalaw32_ExtentRestores.calls k A0 cap0 l0 x1.f0 x1.f1 x1.f2 true W hC0 hc0 hp).mono ?_
  rintro e W' ⟨he, bel⟩
  subst he
  exact ⟨_, rfl, _, _, _, [], _, [], hW', trodAll_mk1 (shut_bool Try.underlying4 _), (trodAll_cons_mk (Below.trod laidOut (by kernel_rfl) (of_decide_eq_true (by kernel_rfl)) h0 bel lt0) (trodAll_cons_mk (Below.trod laidOut (by kernel_rfl) (of_decide_eq_true (by kernel_rfl)) h1 bel lt1) trodAll_mk0)), rfl, bel.frame _, fun h => by cases h⟩
theorem over : Rows.extentRestoresRow.holds Try.pinned (OpenSpec.ofChange Rows.extentRestoresSpec) :=
  OpenClaim.holds_of_wide 8 Try.f8 rfl rfl rfl rfl rfl rfl rfl ⟨rfl, rfl, rfl, rfl, rfl⟩ rfl rfl rfl rfl rfl (by kernel_rfl) Try.func8 (by kernel_rfl)
    (of_decide_eq_true (by kernel_rfl)) (by unfold Func.isWrapper; first | (rw [if_pos (by decide +kernel)]; kernel_rfl) | (rw [if_neg (by decide +kernel)]; exact ⟨rfl, rfl⟩))
    (fun os started H enc _ => lifted os started H enc)
theorem proved : Rows.ExtentRestoresSaid := over
#print axioms proved
end Go.Proofs.Ytcgihjpnemnkeaa.extentRestores
namespace Go.Proofs.Ytcgihjpnemnkeaa
/-- The row, under a short name, for the claim. -/
theorem extentRestores_holds : Rows.ExtentRestoresSaid := extentRestores.proved
end Go.Proofs.Ytcgihjpnemnkeaa
