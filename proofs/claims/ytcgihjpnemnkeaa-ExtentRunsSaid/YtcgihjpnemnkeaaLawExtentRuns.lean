/- The row of the law ExtentRuns: for every input that can be read as data the law returns true, and its arguments read afterwards as before. No condition. -/
import Derived.Test.YtcgihjpnemnkeaaRows
import Derived.Test.YtcgihjpnemnkeaaOpen
import Derived.Test.YtcgihjpnemnkeaaPureExtentRuns
import Derived.WalkKit
import Derived.ProofKit
import Derived.OpenShut
import Derived.ShutString
import Derived.ChangeOld
import Derived.Below
import Derived.SizedLaws
namespace Go.Proofs.Ytcgihjpnemnkeaa.extentRuns
open Go.ChangeShapes Go.WideShapes Go.ChangeAt Go.RowKit Go.Proofs.YtcgihjpnemnkeaaOpen Go.Proofs.YtcgihjpnemnkeaaW.PrintWords
open Go.ChangeMaps (open_string shut_string)
set_option linter.unusedVariables false
theorem own : ownKnob Try.prog.godebug = none := by kernel_rfl
theorem laidOut : laidOutB Try.prog = true := by kernel_rfl
set_option maxRecDepth 100000 in
theorem lifted (os : Os) (started : os.Started) (H : Type) (enc : TypeId × Value → H) :
    ReturnsInHanded {} Try.checked os 10 .any (Rows.extentRunsSpec.pre6 enc Try.prog Try.f10 Rows.extentRunsRow.domain false) (Rows.extentRunsSpec.post enc Try.prog Try.f10 false true false false) := by
  refine returnsInHanded_of_change_sized (C := Try.checked) own started (by kernel_rfl) Try.func10
    (ChangeSpec.witness6 (enc := enc) (C := Try.checked) false ⟨#[], #[.slice none 0 0], []⟩ 8 (by kernel_rfl) (by kernel_rfl) (by kernel_rfl) (by kernel_rfl)) ?_
  intro W base args ds gs before hval0 hW hcnd hsz0 _
  have hval : ∀ (j : Nat) t v, Try.f10.params[j]? = some t → args[j]? = some v → Value.okWide Try.prog W .any base t v := hval0
  have hW' := hW
  obtain ⟨p, q, hA0, hV, rfl, hfz, hnd⟩ := hW
  have hA : DataW.TrodAll enc Try.prog W 0 (fun _ => true) true Try.f10.params.toList args.toList ds p := hA0
  rw [Try.params10] at hA hval
  obtain ⟨v0, vs0, d0, ds0, p0, q0, hargs, rfl, rfl, h0, r0⟩ := trodAll_cons hA
  obtain ⟨rfl, rfl, rfl⟩ := trodAll_nil r0
  obtain rfl : args = #[v0] := by cases args; simp_all
  obtain ⟨rfl, rfl⟩ := trodVars_none hV
  have lt0 : ∀ x ∈ p0, x.block < W.heap.size := by obtain ⟨m, hm⟩ := h0; exact DataW.trod_lt m _ _ _ hm
  obtain ⟨A0, len0, cap0, rfl⟩ := okWide_slice Try.underlying22 (hval 0 22 v0 rfl rfl)
  obtain ⟨l0, rfl, hc0, hC0, hq0⟩ := open_slice_arg (Opens.slice Try.underlying22 (by kernel_rfl) (Opens.struct3 Try.underlying33 rfl (by kernel_rfl) (by kernel_rfl) (by kernel_rfl) (Opens.int (k := .i64) Try.underlying3) (Opens.int (k := .i64) Try.underlying3) (Opens.int (k := .i64) Try.underlying3) (fun x : PExtentRuns.S33 => (x.f0, x.f1, x.f2)) (fun a b c => ⟨a, b, c⟩) (fun _ _ _ => rfl))) h0
  obtain ⟨k, hp⟩ := Pure.ExtentRuns l0 hq0
  clear hA0 hval0 hsz0
  refine (PExtentRuns.tegulalaw32_ExtentRuns.calls k A0 cap0 l0 true W hC0 hc0 hp).mono ?_
  rintro e W' ⟨he, bel⟩
  subst he
  exact ⟨_, rfl, _, _, _, [], _, [], hW', trodAll_mk1 (shut_bool Try.underlying4 _), (trodAll_cons_mk (Below.trod laidOut (by kernel_rfl) (of_decide_eq_true (by kernel_rfl)) h0 bel lt0) trodAll_mk0), rfl, bel.frame _, fun h => by cases h⟩
theorem over : Rows.extentRunsRow.holds Try.pinned (OpenSpec.ofChange Rows.extentRunsSpec) :=
  OpenClaim.holds_of_wide 10 Try.f10 rfl rfl rfl rfl rfl rfl rfl ⟨rfl, rfl, rfl, rfl, rfl⟩ rfl rfl rfl rfl rfl (by kernel_rfl) Try.func10 (by kernel_rfl)
    (of_decide_eq_true (by kernel_rfl)) (by unfold Func.isWrapper; first | (rw [if_pos (by decide +kernel)]; kernel_rfl) | (rw [if_neg (by decide +kernel)]; exact ⟨rfl, rfl⟩))
    (fun os started H enc _ => lifted os started H enc)
theorem proved : Rows.ExtentRunsSaid := over
#print axioms proved
end Go.Proofs.Ytcgihjpnemnkeaa.extentRuns
namespace Go.Proofs.Ytcgihjpnemnkeaa
/-- The row, under a short name, for the claim. -/
theorem extentRuns_holds : Rows.ExtentRunsSaid := extentRuns.proved
end Go.Proofs.Ytcgihjpnemnkeaa
