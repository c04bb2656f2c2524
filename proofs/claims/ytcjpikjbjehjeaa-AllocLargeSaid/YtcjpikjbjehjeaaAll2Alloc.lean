/- Take of the first slots of a map with one free run. -/
import Derived.Test.YtcjpikjbjehjeaaAll1Alloc
namespace Go.Proofs.Ytcjpikjbjehjeaa.PAlloc
open Go.RowKit Go.Proofs.YtcjpikjbjehjeaaW.PrintWords
theorem within_ok {a n m : Int} (h0 : 0 ≤ a) (h1 : 0 ≤ n) (h2 : a + n ≤ m) (hm : m ≤ 65536) : extent_within.f a n m = some true := by
  unfold extent_within.f
  rw [if_pos h0, if_pos h1, if_pos (by omega), w64 (by omega) (by omega), decide_eq_true (by omega)]
theorem prop_ok {n s : Int} (h0 : 0 ≤ s) (h1 : 1 ≤ n) (h2 : s + n ≤ 65536) : propB (⟨0, n, s⟩ : S53) = true := by
  have h := propB_eq (⟨0, n, s⟩ : S53)
  have e : extent_proper.f (0 : Int) n s = some true := by
    unfold extent_proper.f
    rw [if_pos h1, within_ok (by omega) (by omega) (by omega) (by omega)]
    simp only [Option.bind_some]
    rw [if_pos trivial, within_ok (by omega) (by omega) (by omega) (by omega)]
    rfl
  exact Option.some.inj (h.symm.trans e)
theorem rd_one (n s : Int) : rd_T53 [(⟨0, n, s⟩ : S53)] 0 = ⟨0, n, s⟩ := rfl
theorem len_one (n s : Int) : (([(⟨0, n, s⟩ : S53)].length : Nat) : Int) = 1 := rfl
theorem w01 : wrap64 (0 + 1) = 1 := by rw [w64 (by omega) (by omega)]; rfl
theorem runs_single {n s : Int} (h0 : 0 ≤ s) (h1 : 1 ≤ n) (h2 : s + n ≤ 65536) : Ev (fun k => extent_Runs.f k [(⟨0, n, s⟩ : S53)]) [⟨0, n, s⟩] := by
  have hf : [(⟨0, n, s⟩ : S53)].filter propB = [⟨0, n, s⟩] := by simp [prop_ok h0 h1 h2]
  have hd : api_Extent_55.f [(⟨0, n, s⟩ : S53)] = some [⟨0, n, s⟩] := aw_del (by simp) (aw_perm hf (List.Perm.refl _)) (aw_pw1 _)
  have hm : wrap64 (((([] : List S53).length : Nat) : Int) - 1) = -1 := by rw [w64 (by simp) (by simp)]; rfl
  refine Ev.same (g := fun k => extent_Runs.l0 k [] [⟨0, n, s⟩] 1 0) (fun k => by unfold extent_Runs.f; rw [hd]; rfl) ?_
  refine Ev.succ (g := fun k => extent_Runs.l0 k [⟨0, n, s⟩] [⟨0, n, s⟩] 1 1) (fun k => ?_) (Ev.succ (g := fun _ => some [⟨0, n, s⟩]) (fun k => ?_) (Ev.now fun _ => rfl))
  · simp only [extent_Runs.l0]
    rw [if_pos (by decide), if_pos (by decide), len_one, if_pos (by decide), hm, if_neg (by decide), if_pos (by decide), rd_one, w01]
    rfl
  · simp only [extent_Runs.l0]
    rw [if_neg (by decide)]
theorem clip_at {n s : Int} (h0 : 0 ≤ s) (h1 : 1 ≤ n) (h2 : s + n ≤ 1000000) : Ev (fun k => alloc_clip.f k [(⟨0, n, s⟩ : S53)] s) ([⟨0, n, s⟩], []) := by
  have hmx : mx s s = s := by unfold mx; rw [if_neg (by omega)]
  refine Ev.same (g := fun k => alloc_clip.l0 k s [] [] [⟨0, n, s⟩] 1 0) (fun k => rfl) ?_
  refine Ev.succ (g := fun k => alloc_clip.j1 k s [] [] [⟨0, n, s⟩] 1 0 0 n s) (fun k => ?_) (Ev.succ (g := fun k => alloc_clip.l0 k s [⟨0, n, s⟩] [] [⟨0, n, s⟩] 1 1) (fun k => ?_) (Ev.succ (g := fun _ => some ([⟨0, n, s⟩], [])) (fun k => ?_) (Ev.now fun _ => rfl)))
  · simp only [alloc_clip.l0]
    rw [if_pos (by decide), if_pos (by decide), len_one, if_pos (by decide), rd_one, if_neg (by show ¬ s < s; omega)]
  · simp only [alloc_clip.j1, alloc_end.f, alloc_run.f, Option.bind_some]
    rw [w64 (n := s + n) (by omega) (by omega), if_pos (by omega), if_pos (by decide), hmx, w64 (n := s + n - s) (by omega) (by omega), w01]
    rw [show s + n - s = n by omega]
    rfl
  · simp only [alloc_clip.l0]
    rw [if_neg (by decide)]
theorem clip_in {n s m : Int} (h0 : 0 ≤ s) (h1 : 1 ≤ m) (h3 : m ≤ n) (h2 : s + n ≤ 1000000) : Ev (fun k => alloc_clip.f k [(⟨0, n, s⟩ : S53)] (s + m)) (one1 (s + m) (n - m), [⟨0, m, s⟩]) := by
  have hmn : mn (s + n) (s + m) = s + m := by unfold mn; split <;> omega
  have hmx : mx s (s + m) = s + m := by unfold mx; rw [if_pos (by omega)]
  refine Ev.same (g := fun k => alloc_clip.l0 k (s + m) [] [] [⟨0, n, s⟩] 1 0) (fun k => rfl) ?_
  refine Ev.succ (g := fun k => alloc_clip.j1 k (s + m) [] [⟨0, m, s⟩] [⟨0, n, s⟩] 1 0 0 n s) (fun k => ?_) (Ev.succ (g := fun k => alloc_clip.l0 k (s + m) (one1 (s + m) (n - m)) [⟨0, m, s⟩] [⟨0, n, s⟩] 1 1) (fun k => ?_) (Ev.succ (g := fun _ => some (one1 (s + m) (n - m), [⟨0, m, s⟩])) (fun k => ?_) (Ev.now fun _ => rfl)))
  · simp only [alloc_clip.l0]
    rw [if_pos (by decide), if_pos (by decide), len_one, if_pos (by decide), rd_one, if_pos (by show s < s + m; omega)]
    simp only [alloc_end.f, alloc_run.f, Option.bind_some]
    rw [w64 (n := s + n) (by omega) (by omega), if_pos (by decide), hmn, w64 (n := s + m - s) (by omega) (by omega)]
    rw [show s + m - s = m by omega]
    rfl
  · simp only [alloc_clip.j1, alloc_end.f, alloc_run.f, Option.bind_some]
    rw [w64 (n := s + n) (by omega) (by omega), w01]
    unfold one1
    by_cases h : n - m = 0
    · rw [if_neg (by omega), if_pos h]
    · rw [if_pos (by omega), if_pos (by decide), hmx, if_neg h, w64 (n := s + n - (s + m)) (by omega) (by omega)]
      rw [show s + n - (s + m) = n - m by omega]
      rfl
  · simp only [alloc_clip.l0]
    rw [if_neg (by decide)]
theorem fit_single {n m s : Int} (h0 : 0 ≤ s) (h1 : 1 ≤ n) (h3 : n ≤ m) (h2 : s + m ≤ 1000000) : alloc_fit.f [(⟨0, m, s⟩ : S53)] n = some ([⟨0, n, s⟩], true) := by
  have hi : api_Extent_62.f [(⟨0, m, s⟩ : S53)] n = some 0 := by
    unfold api_Extent_62.f
    rw [if_pos (by simp), fidx, if_pos h3]
  unfold alloc_fit.f
  rw [hi]
  simp only [Option.bind_some]
  rw [if_neg (by decide), if_pos (by decide), len_one, if_pos (by decide), rd_one]
  simp only [alloc_run.f, Option.bind_some]
  rw [w64 (n := s + n) (by omega) (by omega), w64 (n := s + n - s) (by omega) (by omega), show s + n - s = n by omega]
theorem behind_single (M : Int) {n m s : Int} (h0 : 0 ≤ s) (h1 : 1 ≤ n) (h3 : n ≤ m) (h2 : s + m ≤ 1000000) : Ev (fun k => alloc_behind.f k M [(⟨0, m, s⟩ : S53)] n s) ([⟨0, n, s⟩], true) :=
  Ev.bind (clip_at h0 (by omega) h2) (Ev.now fun _ => by rw [fit_single h0 h1 h3 h2]; rfl)
theorem perm_single (M : Int) (l : List S53) {n s : Int} (h0 : 0 ≤ s) (h1 : 1 ≤ n) (h2 : s + n ≤ M) (hM : M ≤ 65536) : Ev (fun k => alloc_Map_permitted.f k M l [(⟨0, n, s⟩ : S53)]) ([⟨0, n, s⟩], true) := by
  have hc : api_Extent_32.f [(⟨0, n, s⟩ : S53)] = some [⟨0, n, s⟩] := by unfold api_Extent_32.f; exact if_pos (by simp)
  have hz := size_single n s (by omega) (by omega)
  refine Ev.same (g := fun k => alloc_Map_permitted.l0 k [⟨0, n, s⟩] [⟨0, n, s⟩] 1 0 M l) (fun k => rfl) ?_
  refine Ev.succ (g := fun k => alloc_Map_permitted.l0 k [⟨0, n, s⟩] [⟨0, n, s⟩] 1 1 M l) (fun k => ?_) (Ev.succ (g := fun k => alloc_Map_permitted.l1 k [⟨0, n, s⟩] [⟨0, n, s⟩] 1 0) (fun k => ?_) (Ev.succ (g := fun k => alloc_Map_permitted.l1 k [⟨0, n, s⟩] [⟨0, n, s⟩] 1 1) (fun k => ?_) (Ev.succ (g := fun k => (extent_Runs.f k [⟨0, n, s⟩]).bind fun t135 => ((alloc_size.f k t135).bind fun t138 => ((alloc_size.f k [⟨0, n, s⟩]).bind fun t139 => (some (t135, (t138 == t139)))))) (fun k => ?_) ?_)))
  · simp only [alloc_Map_permitted.l0]
    rw [if_pos (by decide), if_pos (by decide), len_one, if_pos (by decide), rd_one, if_neg (by show ¬ n < 1; omega), if_neg (by show ¬ s < 0; omega), if_neg (by show ¬ s > M; omega), w64 (n := M - s) (by omega) (by omega), if_neg (by show ¬ n > M - s; omega), w01]
  · simp only [alloc_Map_permitted.l0]
    rw [if_neg (by decide), hc]
    rfl
  · simp only [alloc_Map_permitted.l1]
    rw [if_pos (by decide), if_pos (by decide), len_one, if_pos (by decide), rd_one, w01]
    rfl
  · simp only [alloc_Map_permitted.l1]
    rw [if_neg (by decide)]
  · exact Ev.bind (runs_single h0 h1 (by omega)) (Ev.bind hz (Ev.bind hz (Ev.now fun _ => by simp)))
theorem without_single {n m s : Int} (h0 : 0 ≤ s) (h1 : 1 ≤ n) (h3 : n ≤ m) (h2 : s + m ≤ 1000000) : Ev (fun k => alloc_without.f k [(⟨0, m, s⟩ : S53)] [⟨0, n, s⟩]) (one1 (s + n) (m - n)) := by
  have hl : (([] : List S53)).length + (one1 (s + n) (m - n)).length < 5864062014805 := by unfold one1; split <;> simp
  refine Ev.same (g := fun k => alloc_without.l0 k [⟨0, m, s⟩] [⟨0, n, s⟩] 1 0) (fun k => rfl) ?_
  refine Ev.succ (g := fun k => (alloc_clip.f k [⟨0, m, s⟩] s).bind fun b => (alloc_clip.f k b.1 (s + n)).bind fun d => if b.2.length + d.1.length < 5864062014805 then alloc_without.l0 k (b.2 ++ d.1) [⟨0, n, s⟩] 1 1 else none) (fun k => ?_) ?_
  · simp only [alloc_without.l0]
    rw [if_pos (by decide), if_pos (by decide), len_one, if_pos (by decide), rd_one]
    simp only [alloc_end.f, Option.bind_some]
    rw [w64 (n := s + n) (by omega) (by omega), w01]
  · refine Ev.bind (clip_at h0 (by omega) h2) (Ev.bind (clip_in h0 h1 h3 h2) (Ev.ite (fun _ => ?_) (fun h => absurd hl h)))
    refine Ev.succ (g := fun _ => some (one1 (s + n) (m - n))) (fun k => ?_) (Ev.now fun _ => rfl)
    simp only [alloc_without.l0]
    rw [if_neg (by decide)]
    rfl
theorem mark_single {M n m s : Int} (h0 : 0 ≤ s) (h1 : 1 ≤ n) (h3 : n ≤ m) (h2 : s + m ≤ M) (hM : M ≤ 65536) : Ev (fun k => alloc_Map_Mark.f k M [(⟨0, m, s⟩ : S53)] [⟨0, n, s⟩]) (M, one1 (s + n) (m - n), 0) := by
  refine Ev.bind (perm_single M _ h0 h1 (by omega) hM) (Ev.ite (fun _ => ?_) (fun h => absurd rfl h))
  refine Ev.bind (without_single h0 h1 h3 (by omega)) (Ev.bind (size_one1 (m - n) (s + n) (by omega) (by omega)) (Ev.bind (size_single n s (by omega) (by omega)) (Ev.bind (size_single m s (by omega) (by omega)) ?_)))
  exact Ev.ite (fun _ => Ev.now fun _ => rfl) (fun h => absurd (by rw [w64 (by omega) (by omega)]; omega) h)
theorem take_single {M n m s : Int} (h0 : 0 ≤ s) (h1 : 1 ≤ n) (h3 : n ≤ m) (h2 : s + m ≤ M) (hM : M ≤ 65536) : Ev (fun k => alloc_Map_Take.f k M [(⟨0, m, s⟩ : S53)] n s) ([⟨0, n, s⟩], M, one1 (s + n) (m - n), 0) := by
  refine take_rest M n s _ (by omega) h0 (by omega) ?_
  refine Ev.bind (Ev.bind (size_single m s (by omega) (by omega)) (Ev.now fun _ => rfl)) (Ev.ite (fun h => absurd h (by omega)) (fun _ => Ev.ite (fun h => absurd h (by omega)) (fun _ => ?_)))
  refine Ev.bind (behind_single M h0 h1 h3 (by omega)) (Ev.ite (fun _ => ?_) (fun h => absurd rfl h))
  exact Ev.bind (mark_single h0 h1 h3 h2 hM) (Ev.now fun _ => rfl)
theorem same_one (n s : Int) : Ev (fun k => tegularef32_Same.f k [(⟨0, n, s⟩ : S53)] [⟨0, n, s⟩]) true := by
  refine Ev.same (g := fun k => tegularef32_Same.l0 k [⟨0, n, s⟩] [⟨0, n, s⟩] 0) (fun k => by unfold tegularef32_Same.f; rw [if_pos rfl]) ?_
  refine Ev.succ (g := fun k => tegularef32_Same.l0 k [⟨0, n, s⟩] [⟨0, n, s⟩] 1) (fun k => ?_) (Ev.succ (g := fun _ => some true) (fun k => ?_) (Ev.now fun _ => rfl))
  · simp only [tegularef32_Same.l0]
    rw [len_one, if_pos (by decide), if_pos (by decide), if_pos (by decide), if_neg (by simp), w01]
  · simp only [tegularef32_Same.l0]
    rw [len_one, if_neg (by decide)]
end Go.Proofs.Ytcjpikjbjehjeaa.PAlloc
