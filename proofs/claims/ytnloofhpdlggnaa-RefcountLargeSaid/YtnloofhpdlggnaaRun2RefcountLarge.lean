/- The document's Runs in plain Lean: the runs of what the listed extents cover. -/
import Derived.Test.YtnloofhpdlggnaaRun1RefcountLarge
namespace Go.Proofs.Ytnloofhpdlggnaa.PRefcountLarge
open Go.RowKit Go.Proofs.YtnloofhpdlggnaaW.PrintWords
/-- From some number of rounds on f answers r. -/
def Ev {α : Type} (f : Nat → Option α) (r : α) : Prop := ∃ k0, ∀ k, k0 ≤ k → f k = some r
theorem Ev.now {α : Type} {f : Nat → Option α} {r : α} (h : ∀ k, f k = some r) : Ev f r := ⟨0, fun k _ => h k⟩
theorem Ev.succ {α : Type} {f g : Nat → Option α} {r : α} (h : ∀ k, f (k + 1) = g k) (hg : Ev g r) : Ev f r := by
  obtain ⟨k0, hk⟩ := hg
  refine ⟨k0 + 1, fun k hk' => ?_⟩
  obtain ⟨k, rfl⟩ : ∃ m, k = m + 1 := ⟨k - 1, by omega⟩
  rw [h k]
  exact hk k (by omega)
theorem Ev.same {α : Type} {f g : Nat → Option α} {r : α} (h : ∀ k, f k = g k) (hg : Ev g r) : Ev f r := by
  obtain ⟨k0, hk⟩ := hg
  exact ⟨k0, fun k hk' => (h k).trans (hk k hk')⟩
theorem Ev.bind {α β : Type} {f : Nat → Option α} {q : Nat → α → Option β} {r : α} {s : β} (hf : Ev f r) (hq : Ev (fun k => q k r) s) : Ev (fun k => (f k).bind (q k)) s := by
  obtain ⟨k0, hk⟩ := hf
  obtain ⟨k1, hk1⟩ := hq
  exact ⟨k0 + k1, fun k hk' => by show (f k).bind (q k) = some s; rw [hk k (by omega)]; exact hk1 k (by omega)⟩
theorem Ev.ite {α : Type} {c : Prop} [Decidable c] {f g : Nat → Option α} {r : α} (h1 : c → Ev f r) (h2 : ¬ c → Ev g r) : Ev (fun k => if c then f k else g k) r := by
  by_cases hc : c
  · exact Ev.same (fun k => if_pos hc) (h1 hc)
  · exact Ev.same (fun k => if_neg hc) (h2 hc)
def oneB (x : S41) : Bool := decide (0 ≤ x.f0 ∧ 0 ≤ x.f2 ∧ 1 ≤ x.f1 ∧ x.f0 + x.f1 ≤ 65536 ∧ x.f2 + x.f1 ≤ 65536)
theorem oneB_ok {x : S41} (h : oneB x = true) : OkS x := by
  unfold oneB at h
  have := of_decide_eq_true h
  exact ⟨this.2.1, this.2.2.1, this.2.2.2.2⟩
end Go.Proofs.Ytnloofhpdlggnaa.PRefcountLarge
