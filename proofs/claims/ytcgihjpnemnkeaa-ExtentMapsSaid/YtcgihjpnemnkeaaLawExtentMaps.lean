/- The row of the law ExtentMaps: for every input that can be read as data the law returns true, and its arguments read afterwards as before. No condition. -/
import Derived.Test.YtcgihjpnemnkeaaRows
import Derived.Test.YtcgihjpnemnkeaaOpenArr
import Derived.Test.YtcgihjpnemnkeaaPureExtentMaps
import Derived.WalkKit
import Derived.ProofKit
import Derived.OpenShut
import Derived.ShutString
import Derived.ChangeOld
import Derived.Below
import Derived.SizedLaws
namespace Go.Proofs.Ytcgihjpnemnkeaa.extentMaps
open Go.ChangeShapes Go.WideShapes Go.ChangeAt Go.RowKit Go.Proofs.YtcgihjpnemnkeaaOpen Go.Proofs.YtcgihjpnemnkeaaW.PrintWords
open Go.ChangeMaps (open_string shut_string)
set_option linter.unusedVariables false
theorem own : ownKnob Try.prog.godebug = none := by kernel_rfl
theorem laidOut : laidOutB Try.prog = true := by kernel_rfl
set_option maxRecDepth 100000 in
theorem lifted (os : Os) (started : os.Started) (H : Type) (enc : TypeId × Value → H) :
    ReturnsInHanded {} Try.checked os 9 .any (Rows.extentMapsSpec.pre6 enc Try.prog Try.f9 Rows.extentMapsRow.domain false) (Rows.extentMapsSpec.post enc Try.prog Try.f9 false true false false) := by
  refine returnsInHanded_of_change_sized (C := Try.checked) own started (by kernel_rfl) Try.func9
    (ChangeSpec.witness6 (enc := enc) (C := Try.checked) false ⟨#[], #[.slice none 0 0, .agg #[.int .i64 0, .int .i64 0, .int .i64 0], .agg #[.int .u8 0, .int .u8 0]], []⟩ 8 (by kernel_rfl) (by kernel_rfl) (by kernel_rfl) (by kernel_rfl)) ?_
  intro W base args ds gs before hval0 hW hcnd hsz0 _
  have hval : ∀ (j : Nat) t v, Try.f9.params[j]? = some t → args[j]? = some v → Value.okWide Try.prog W .any base t v := hval0
  have hW' := hW
  obtain ⟨p, q, hA0, hV, rfl, hfz, hnd⟩ := hW
  have hA : DataW.TrodAll enc Try.prog W 0 (fun _ => true) true Try.f9.params.toList args.toList ds p := hA0
  rw [Try.params9] at hA hval
  obtain ⟨v0, vs0, d0, ds0, p0, q0, hargs, rfl, rfl, h0, r0⟩ := trodAll_cons hA
  obtain ⟨v1, vs1, d1, ds1, p1, q1, rfl, rfl, rfl, h1, r1⟩ := trodAll_cons r0
  obtain ⟨v2, vs2, d2, ds2, p2, q2, rfl, rfl, rfl, h2, r2⟩ := trodAll_cons r1
  obtain ⟨rfl, rfl, rfl⟩ := trodAll_nil r2
  obtain rfl : args = #[v0, v1, v2] := by cases args; simp_all
  obtain ⟨rfl, rfl⟩ := trodVars_none hV
  have lt0 : ∀ x ∈ p0, x.block < W.heap.size := by obtain ⟨m, hm⟩ := h0; exact DataW.trod_lt m _ _ _ hm
  obtain ⟨A0, len0, cap0, rfl⟩ := okWide_slice Try.underlying22 (hval 0 22 v0 rfl rfl)
  obtain ⟨l0, rfl, hc0, hC0, hq0⟩ := open_slice_arg (Opens.slice Try.underlying22 (by kernel_rfl) (Opens.struct3 Try.underlying33 rfl (by kernel_rfl) (by kernel_rfl) (by kernel_rfl) (Opens.int (k := .i64) Try.underlying3) (Opens.int (k := .i64) Try.underlying3) (Opens.int (k := .i64) Try.underlying3) (fun x : PExtentMaps.S33 => (x.f0, x.f1, x.f2)) (fun a b c => ⟨a, b, c⟩) (fun _ _ _ => rfl))) h0
  have lt1 : ∀ x ∈ p1, x.block < W.heap.size := by obtain ⟨m, hm⟩ := h1; exact DataW.trod_lt m _ _ _ hm
  obtain ⟨cs1, rfl, _⟩ := okWide_struct Try.underlying33 (hval 1 33 v1 rfl rfl)
  obtain ⟨x1, hK1, hq1⟩ := open_agg_arg (Opens.struct3 Try.underlying33 rfl (by kernel_rfl) (by kernel_rfl) (by kernel_rfl) (Opens.int (k := .i64) Try.underlying3) (Opens.int (k := .i64) Try.underlying3) (Opens.int (k := .i64) Try.underlying3) (fun x : PExtentMaps.S33 => (x.f0, x.f1, x.f2)) (fun a b c => ⟨a, b, c⟩) (fun _ _ _ => rfl)) h1
  have hc1 : cs1 = #[.int .i64 x1.f0, .int .i64 x1.f1, .int .i64 x1.f2] := by have := PExtentMaps.k33_open hK1; rw [← Array.toList_inj]; exact this
  subst hc1
  have lt2 : ∀ x ∈ p2, x.block < W.heap.size := by obtain ⟨m, hm⟩ := h2; exact DataW.trod_lt m _ _ _ hm
  obtain ⟨cs2, rfl, _⟩ := okWide_array Try.underlying44 (hval 2 44 v2 rfl rfl)
  obtain ⟨z2, hz2, hcz2, hq2⟩ : ∃ l : List Int, l.length = 2 ∧ cs2.toList = l.map (Value.int .u8) ∧ ∀ z ∈ l, (Lit.int .u8 z).wf = true := by
    obtain ⟨fuel, hf⟩ := h2
    exact open_array_arg Try.underlying44 Try.underlying5 (by kernel_rfl) (by kernel_rfl) hf
  obtain ⟨a2_0, a2_1, rfl⟩ : ∃ a2_0 a2_1, z2 = [a2_0, a2_1] := by
    match z2, hz2 with
    | [a2_0, a2_1], _ => exact ⟨a2_0, a2_1, rfl⟩
  have hc2 : cs2 = #[.int .u8 a2_0, .int .u8 a2_1] := by rw [← Array.toList_inj]; exact hcz2
  subst hc2
  obtain ⟨k, hp⟩ := Pure.ExtentMaps l0 x1.f0 x1.f1 x1.f2 a2_0 a2_1 hq0 hq1.1 hq1.2.1 hq1.2.2 (hq2 a2_0 (by simp)) (hq2 a2_1 (by simp))
  clear hA0 hval0 hsz0
  refine (PExtentMaps.tegulalaw32_ExtentMaps.calls k A0 cap0 l0 x1.f0 x1.f1 x1.f2 a2_0 a2_1 true W hC0 hc0 hp).mono ?_
  rintro e W' ⟨he, bel⟩
  subst he
  exact ⟨_, rfl, _, _, _, [], _, [], hW', trodAll_mk1 (shut_bool Try.underlying4 _), (trodAll_cons_mk (Below.trod laidOut (by kernel_rfl) (of_decide_eq_true (by kernel_rfl)) h0 bel lt0) (trodAll_cons_mk (Below.trod laidOut (by kernel_rfl) (of_decide_eq_true (by kernel_rfl)) h1 bel lt1) (trodAll_cons_mk (Below.trod laidOut (by kernel_rfl) (of_decide_eq_true (by kernel_rfl)) h2 bel lt2) trodAll_mk0))), rfl, bel.frame _, fun h => by cases h⟩
theorem over : Rows.extentMapsRow.holds Try.pinned (OpenSpec.ofChange Rows.extentMapsSpec) :=
  OpenClaim.holds_of_wide 9 Try.f9 rfl rfl rfl rfl rfl rfl rfl ⟨rfl, rfl, rfl, rfl, rfl⟩ rfl rfl rfl rfl rfl (by kernel_rfl) Try.func9 (by kernel_rfl)
    (of_decide_eq_true (by kernel_rfl)) (by unfold Func.isWrapper; first | (rw [if_pos (by decide +kernel)]; kernel_rfl) | (rw [if_neg (by decide +kernel)]; exact ⟨rfl, rfl⟩))
    (fun os started H enc _ => lifted os started H enc)
theorem proved : Rows.ExtentMapsSaid := over
#print axioms proved
end Go.Proofs.Ytcgihjpnemnkeaa.extentMaps
namespace Go.Proofs.Ytcgihjpnemnkeaa
/-- The row, under a short name, for the claim. -/
theorem extentMaps_holds : Rows.ExtentMapsSaid := extentMaps.proved
end Go.Proofs.Ytcgihjpnemnkeaa
