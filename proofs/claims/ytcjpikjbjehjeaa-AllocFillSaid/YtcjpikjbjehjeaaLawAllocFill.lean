/- The row of the law AllocFill: for every input that can be read as data the law returns true, and its arguments read afterwards as before. No condition. -/
import Derived.Test.YtcjpikjbjehjeaaRows
import Derived.Test.YtcjpikjbjehjeaaOpen
import Derived.Test.YtcjpikjbjehjeaaPureAllocFill
import Derived.WalkKit
import Derived.ProofKit
import Derived.OpenShut
import Derived.ShutString
import Derived.ChangeOld
import Derived.Below
import Derived.SizedLaws
namespace Go.Proofs.Ytcjpikjbjehjeaa.allocFill
open Go.ChangeShapes Go.WideShapes Go.ChangeAt Go.RowKit Go.Proofs.YtcjpikjbjehjeaaOpen Go.Proofs.YtcjpikjbjehjeaaW.PrintWords
open Go.ChangeMaps (open_string shut_string)
set_option linter.unusedVariables false
theorem own : ownKnob Try.prog.godebug = none := by kernel_rfl
theorem laidOut : laidOutB Try.prog = true := by kernel_rfl
set_option maxRecDepth 100000 in
theorem lifted (os : Os) (started : os.Started) (H : Type) (enc : TypeId × Value → H) :
    ReturnsInHanded {} Try.checked os 9 .any (Rows.allocFillSpec.pre6 enc Try.prog Try.f9 Rows.allocFillRow.domain false) (Rows.allocFillSpec.post enc Try.prog Try.f9 false true false false) := by
  refine returnsInHanded_of_change_sized (C := Try.checked) own started (by kernel_rfl) Try.func9
    (ChangeSpec.witness6 (enc := enc) (C := Try.checked) false ⟨#[], #[.int .u8 0, .slice none 0 0, .int .u8 0], []⟩ 8 (by kernel_rfl) (by kernel_rfl) (by kernel_rfl) (by kernel_rfl)) ?_
  intro W base args ds gs before hval0 hW hcnd hsz0 _
  have hval : ∀ (j : Nat) t v, Try.f9.params[j]? = some t → args[j]? = some v → Value.okWide Try.prog W .any base t v := hval0
  have hW' := hW
  obtain ⟨p, q, hA0, hV, rfl, hfz, hnd⟩ := hW
  have hA : DataW.TrodAll enc Try.prog W 0 (fun _ => true) true Try.f9.params.toList args.toList ds p := hA0
  rw [Try.params9] at hA hval
  obtain ⟨v0, vs0, d0, ds0, p0, q0, hargs, rfl, rfl, h0, r0⟩ := trodAll_cons hA
  obtain ⟨v1, vs1, d1, ds1, p1, q1, rfl, rfl, rfl, h1, r1⟩ := trodAll_cons r0
  obtain ⟨v2, vs2, d2, ds2, p2, q2, rfl, rfl, rfl, h2, r2⟩ := trodAll_cons r1
  obtain ⟨rfl, rfl, rfl⟩ := trodAll_nil r2
  obtain rfl : args = #[v0, v1, v2] := by cases args; simp_all
  obtain ⟨rfl, rfl⟩ := trodVars_none hV
  have lt0 : ∀ x ∈ p0, x.block < W.heap.size := by obtain ⟨m, hm⟩ := h0; exact DataW.trod_lt m _ _ _ hm
  obtain ⟨a0, rfl, -, -, w0⟩ := open_int Try.underlying5 (hval 0 5 v0 rfl rfl) h0
  have lt1 : ∀ x ∈ p1, x.block < W.heap.size := by obtain ⟨m, hm⟩ := h1; exact DataW.trod_lt m _ _ _ hm
  obtain ⟨A1, len1, cap1, rfl⟩ := okWide_slice Try.underlying39 (hval 1 39 v1 rfl rfl)
  obtain ⟨l1, rfl, hc1, hC1, hq1⟩ := open_slice_arg (Opens.slice Try.underlying39 (by kernel_rfl) (Opens.struct4 Try.underlying57 rfl (by kernel_rfl) (by kernel_rfl) (by kernel_rfl) (by kernel_rfl) (Opens.int (k := .u8) Try.underlying5) (Opens.int (k := .u8) Try.underlying5) (Opens.int (k := .u8) Try.underlying5) (Opens.slice Try.underlying24 (by kernel_rfl) (Opens.struct3 Try.underlying53 rfl (by kernel_rfl) (by kernel_rfl) (by kernel_rfl) (Opens.int (k := .i64) Try.underlying3) (Opens.int (k := .i64) Try.underlying3) (Opens.int (k := .i64) Try.underlying3) (fun x : PAllocB.S53 => (x.f0, x.f1, x.f2)) (fun a b c => ⟨a, b, c⟩) (fun _ _ _ => rfl))) (fun x : PAllocB.S57 => (x.f0, x.f1, x.f2, x.f3)) (fun a b c d => ⟨a, b, c, d⟩) (fun _ _ _ _ => rfl))) h1
  have lt2 : ∀ x ∈ p2, x.block < W.heap.size := by obtain ⟨m, hm⟩ := h2; exact DataW.trod_lt m _ _ _ hm
  obtain ⟨a2, rfl, -, -, w2⟩ := open_int Try.underlying5 (hval 2 5 v2 rfl rfl) h2
  obtain ⟨k, hp⟩ := Pure.AllocFill a0 l1 a2 w0 hq1 w2
  clear hA0 hval0 hsz0
  refine (PAllocB.tegulalaw35_AllocFill.calls k a0 A1 cap1 l1 a2 true W hC1 hc1 hp).mono ?_
  rintro e W' ⟨he, bel⟩
  subst he
  exact ⟨_, rfl, _, _, _, [], _, [], hW', trodAll_mk1 (shut_bool Try.underlying4 _), (trodAll_cons_mk (Below.trod laidOut (by kernel_rfl) (of_decide_eq_true (by kernel_rfl)) h0 bel lt0) (trodAll_cons_mk (Below.trod laidOut (by kernel_rfl) (of_decide_eq_true (by kernel_rfl)) h1 bel lt1) (trodAll_cons_mk (Below.trod laidOut (by kernel_rfl) (of_decide_eq_true (by kernel_rfl)) h2 bel lt2) trodAll_mk0))), rfl, bel.frame _, fun h => by cases h⟩
theorem over : Rows.allocFillRow.holds Try.pinned (OpenSpec.ofChange Rows.allocFillSpec) :=
  OpenClaim.holds_of_wide 9 Try.f9 rfl rfl rfl rfl rfl rfl rfl ⟨rfl, rfl, rfl, rfl, rfl⟩ rfl rfl rfl rfl rfl (by kernel_rfl) Try.func9 (by kernel_rfl)
    (of_decide_eq_true (by kernel_rfl)) (by unfold Func.isWrapper; first | (rw [if_pos (by decide +kernel)]; kernel_rfl) | (rw [if_neg (by decide +kernel)]; exact ⟨rfl, rfl⟩))
    (fun os started H enc _ => lifted os started H enc)
theorem proved : Rows.AllocFillSaid := over
#print axioms proved
end Go.Proofs.Ytcjpikjbjehjeaa.allocFill
namespace Go.Proofs.Ytcjpikjbjehjeaa
/-- The row, under a short name, for the claim. -/
theorem allocFill_holds : Rows.AllocFillSaid := allocFill.proved
end Go.Proofs.Ytcjpikjbjehjeaa
