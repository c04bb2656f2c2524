/- ExtentValid: Valid, Join and Blocks return the reference's results for every list of up to 40 extents. No condition beside the law's own. -/
import Derived.Test.YtcgihjpnemnkeaaExt3ExtentValid
namespace Go.Proofs.Ytcgihjpnemnkeaa.PExtentValid
open Go.RowKit Go.Proofs.YtcgihjpnemnkeaaW.PrintWords
def blocksL (s : Int) (l : List S33) : Int := l.foldl (fun s x => wrap64 (s + x.f1)) s
theorem blocks_loop : ∀ (rest pre : List S33) (s : Int) (k : Nat), rest.length < k → (pre ++ rest).length ≤ 1000000000 →
    extent_Blocks.l0 k s (pre ++ rest) ((pre ++ rest).length : Int) (pre.length : Int) = some (blocksL s rest)
  | [], pre, s, k, hk, _ => by
    obtain ⟨k, rfl⟩ : ∃ m, k = m + 1 := ⟨k - 1, by simp at hk; omega⟩
    simp only [extent_Blocks.l0]
    rw [if_neg (by simp)]
    rfl
  | x :: rest, pre, s, k, hk, hl => by
    obtain ⟨k, rfl⟩ : ∃ m, k = m + 1 := ⟨k - 1, by omega⟩
    have ih := blocks_loop rest (pre ++ [x]) (wrap64 (s + x.f1)) k (by simp at hk; omega) (by simpa using hl)
    rw [List.append_assoc, List.singleton_append] at ih
    simp only [extent_Blocks.l0]
    rw [if_pos (len_mid pre x rest), if_pos (by omega), if_pos (len_mid pre x rest), rd_mid, next_mid pre x rest (by simp at hl ⊢; omega), ih]
    rfl
theorem rblocks_loop : ∀ (rest pre : List S33) (s : Int) (k : Nat), rest.length < k → (pre ++ rest).length ≤ 1000000000 →
    tegularef32_Blocks.l0 k (pre ++ rest) s (pre.length : Int) = some (blocksL s rest)
  | [], pre, s, k, hk, _ => by
    obtain ⟨k, rfl⟩ : ∃ m, k = m + 1 := ⟨k - 1, by simp at hk; omega⟩
    simp only [tegularef32_Blocks.l0]
    rw [if_neg (by simp)]
    rfl
  | x :: rest, pre, s, k, hk, hl => by
    obtain ⟨k, rfl⟩ : ∃ m, k = m + 1 := ⟨k - 1, by omega⟩
    have ih := rblocks_loop rest (pre ++ [x]) (wrap64 (s + x.f1)) k (by simp at hk; omega) (by simpa using hl)
    rw [List.append_assoc, List.singleton_append] at ih
    simp only [tegularef32_Blocks.l0]
    rw [if_pos (len_mid pre x rest), if_pos (by omega), rd_mid, next_mid pre x rest (by simp at hl ⊢; omega), ih]
    rfl
theorem blocks_eq (l : List S33) (k : Nat) (hk : l.length < k) (hl : l.length ≤ 1000000000) : extent_Blocks.f k l = tegularef32_Blocks.f k l ∧ ∃ r, tegularef32_Blocks.f k l = some r := by
  unfold extent_Blocks.f tegularef32_Blocks.f
  rw [valid_eq l k hk (by omega), rvalid_eq l k hk (by omega)]
  simp only [Option.bind_some]
  split
  · have h1 := blocks_loop l [] 0 k hk (by simpa using hl)
    have h2 := rblocks_loop l [] 0 k hk (by simpa using hl)
    simp only [List.nil_append, List.length_nil] at h1 h2
    exact ⟨h1.trans h2.symm, _, h2⟩
  · exact ⟨rfl, _, rfl⟩
end Go.Proofs.Ytcgihjpnemnkeaa.PExtentValid
namespace Go.Proofs.Ytcgihjpnemnkeaa.Pure
open Go.RowKit Go.Proofs.YtcgihjpnemnkeaaW.PrintWords
open PExtentValid in
theorem ExtentValid : ∀ (l0 : (List PExtentValid.S33)), (l0.length ≤ maxLen ∧ ∀ yl0 ∈ l0, ((Lit.int .i64 yl0.f0).wf = true ∧ (Lit.int .i64 yl0.f1).wf = true ∧ (Lit.int .i64 yl0.f2).wf = true)) → ∃ k, PExtentValid.tegulalaw32_ExtentValid.f k l0 = some true := by
  intro l _
  refine ⟨200, ?_⟩
  unfold tegulalaw32_ExtentValid.f
  rw [awake_eq 200 (by omega)]
  simp only [Option.bind_some, if_true]
  by_cases hl : (l.length : Int) > 40
  · rw [if_pos hl]
  · rw [if_neg hl]
    obtain ⟨hb, r, hr⟩ := blocks_eq l 200 (by omega) (by omega)
    rw [hr] at hb
    have hj := joinL_len l
    rw [copied_eq l (by omega)]
    simp only [Option.bind_some]
    rw [join_eq l 200 (by omega) (by omega), rjoin_eq l 200 (by omega) (by omega), valid_eq l 200 (by omega) (by omega), rvalid_eq l 200 (by omega) (by omega), hb, hr]
    simp only [Option.bind_some]
    rw [if_pos (by simp), if_pos trivial]
    split
    · rw [same_eq _ _ 200 (by simp only; omega) (by simp only; omega)]
      simp
    · rw [same_eq _ _ 200 (by simp) (by simp)]
      simp
end Go.Proofs.Ytcgihjpnemnkeaa.Pure
