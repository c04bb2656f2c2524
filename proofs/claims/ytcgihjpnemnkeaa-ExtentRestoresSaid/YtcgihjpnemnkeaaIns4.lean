import Derived.Test.YtcgihjpnemnkeaaIns3
import Derived.Deep.LoopGhost
set_option linter.unusedVariables false
set_option linter.unusedSimpArgs false
namespace Go.Proofs.YtcgihjpnemnkeaaIns
open Go.RowKit Go.Lib

set_option maxHeartbeats 1000000 in
/-- Put's closure: does an extent begin behind x. -/
theorem behind_calls (a b c X : Int) (bx : Nat) (w : World) (hbx : bx < w.heap.size) (hx : w.cell? ⟨bx, 0, none⟩ = some (.int .i64 X)) :
    Calls Try.prog 37 #[.agg #[.int .i64 a, .int .i64 b, .int .i64 c], .pointer (some ⟨bx, 0, none⟩)] w fun e w' => e = .returned (.bool (decide (X < a))) ∧ Below w.heap.size w w' := by
  have hu33 := Try.underlying33
  have hne : ¬ (bx = w.heap.size) := by omega
  go_enter Try.func37, Try.ntmps37
  go_wp2
  go_ret
  exact ⟨rfl, (Below.refl _ _).alloc (Nat.le_refl _) _⟩

/-- The first element that begins behind X. -/
def idxB (X : Int) : List (Int × Int × Int) → Nat → Int
  | [], _ => -1
  | x :: l, k => if X < x.1 then (k : Int) else idxB X l (k + 1)
theorem idxB_hit {X : Int} : ∀ {l : List (Int × Int × Int)} {k m : Nat} (hm : m < l.length), (∀ j (hj : j < m), ¬ X < (l[j]'(by omega)).1) → X < (l[m]).1 → idxB X l k = ((k + m : Nat) : Int)
  | x :: l, k, 0, hm, _, h => by simp only [idxB]; rw [if_pos (by simpa using h)]; rfl
  | x :: l, k, m + 1, hm, hn, h => by
    have h0 := hn 0 (by omega)
    simp only [idxB]
    rw [if_neg (by simpa using h0), idxB_hit (l := l) (k := k + 1) (m := m) (by simpa using hm) (fun j hj => by have := hn (j + 1) (by omega); simpa using this) (by simpa using h)]
    congr 1; omega
theorem idxB_miss {X : Int} : ∀ {l : List (Int × Int × Int)} {k : Nat}, (∀ x ∈ l, ¬ X < x.1) → idxB X l k = -1
  | [], _, _ => rfl
  | x :: l, k, h => by
    simp only [idxB]
    rw [if_neg (h x (by simp)), idxB_miss (fun y hy => h y (by simp [hy]))]

set_option maxHeartbeats 2000000 in
theorem index_calls (A : Option Addr) (c bx : Nat) (X : Int) (l : List (Int × Int × Int)) (w : World) (hbx : bx < w.heap.size) (hx : w.cell? ⟨bx, 0, none⟩ = some (.int .i64 X)) (hl : l.length ≤ 1000000000)
    (hc : ∀ j (h : j < l.length), ∃ g, A = some ⟨g, 0, none⟩ ∧ g < w.heap.size ∧ w.cell? ⟨g, j * 3, none⟩ = some (.int .i64 (l[j]).1) ∧ w.cell? ⟨g, j * 3 + 1, none⟩ = some (.int .i64 (l[j]).2.1) ∧ w.cell? ⟨g, j * 3 + 2, none⟩ = some (.int .i64 (l[j]).2.2)) :
    Calls Try.prog 36 #[.slice A l.length c, .func (.func 37) #[] #[.pointer (some ⟨bx, 0, none⟩)]] w fun e w' => e = .returned (.int .i64 (idxB X l 0)) ∧ Below w.heap.size w w' := by
  have hu33 := Try.underlying33
  have hu22 := Try.underlying22
  have hc33 := cells33
  have HC := Lib.hid hc
  have HX := Lib.hid hx
  have HB := Lib.hid hbx
  clear hc hx hbx
  obtain ⟨n, hn⟩ : ∃ n, n = l.length := ⟨_, rfl⟩
  rw [← hn] at hl ⊢
  have HN := Lib.hid hn
  clear hn
  go_enter Try.func36, Try.ntmps36
  go_wp2
  go_loopg [5, 8] n (fun gg _ s8 wr => ∃ kk : Nat, kk ≤ n ∧ n - kk ≤ gg ∧ s8 = .int .i64 kk ∧ Hid (Below w.heap.size w wr) ∧ Hid (∀ j (hj : j < kk) (hj2 : j < l.length), ¬ X < (l[j]).1))
  case atStart => exact ⟨0, Nat.zero_le _, by omega, rfl, Lib.hid (Below.refl _ w), Lib.hid (fun j hj => absurd hj (Nat.not_lt_zero _))⟩
  case round =>
    obtain ⟨kk, hkk, hg, rfl, BW, AA⟩ := hrel
    by_cases hlt : kk < n
    · have hltz : (kk : Int) < (n : Int) := by omega
      have hkl : kk < l.length := by rw [← HN.out]; exact hlt
      obtain ⟨g, rfl, hgw, c0, c1, c2⟩ := HC.out kk hkl
      have d0 : wr.cell? ⟨g, kk * 3, none⟩ = some (.int .i64 (l[kk]).1) := (BW.out.cell (p := ⟨g, kk * 3, none⟩) hgw).trans c0
      have d1 : wr.cell? ⟨g, kk * 3 + 1, none⟩ = some (.int .i64 (l[kk]).2.1) := (BW.out.cell (p := ⟨g, kk * 3 + 1, none⟩) hgw).trans c1
      have d2 : wr.cell? ⟨g, kk * 3 + 2, none⟩ = some (.int .i64 (l[kk]).2.2) := (BW.out.cell (p := ⟨g, kk * 3 + 2, none⟩) hgw).trans c2
      clear c0 c1 c2
      obtain ⟨y, hy⟩ : ∃ y, y = l[kk] := ⟨_, rfl⟩
      rw [← hy] at d0 d1 d2
      obtain ⟨y0, y1, y2⟩ := y
      have hcall := behind_calls y0 y1 y2 X bx wr (Nat.lt_of_lt_of_le HB.out BW.out.size) ((BW.out.cell (p := ⟨bx, 0, none⟩) HB.out).trans HX.out)
      have HY := Lib.hid hy
      clear hy
      by_cases hq : X < y0
      · rw [decide_eq_true hq] at hcall
        have HQ := Lib.hid hq
        clear hq
        go_wp2_with fail
        refine hcall.mono ?_
        clear hcall d0 d1 d2
        rintro e w' ⟨rfl, hb'⟩
        have HBB := Lib.hid hb'
        clear hb'
        go_wp2_with fail
        go_ret
        refine ⟨?_, ?_⟩
        · rw [idxB_hit hkl (fun j hj => by have := AA.out j hj (by omega); omega) (by rw [← HY.out]; exact HQ.out)]
          simp
        · exact BW.out.trans (HBB.out.mono BW.out.size)
      · rw [decide_eq_false hq] at hcall
        have HQ := Lib.hid hq
        clear hq
        go_wp2_with fail
        refine hcall.mono ?_
        clear hcall d0 d1 d2
        rintro e w' ⟨rfl, hb'⟩
        have HBB := Lib.hid hb'
        clear hb'
        go_wp2_with fail
        go_roundg (n - (kk + 1))
        case measure => omega
        case rel =>
          refine ⟨kk + 1, by omega, by omega, by go_num, Lib.hid (BW.out.trans (HBB.out.mono BW.out.size)), Lib.hid (fun j hj hj2 => ?_)⟩
          by_cases hjk : j = kk
          · subst hjk
            rw [← HY.out]; exact HQ.out
          · exact AA.out j (by omega) hj2
    · go_wp2
      go_ret
      have hm : idxB X l 0 = -1 := idxB_miss (fun x hx => by
        obtain ⟨j, hj, hjx⟩ := List.getElem_of_mem hx
        have h1 := HN.out
        have h2 := AA.out j (by omega) hj
        rw [hjx] at h2
        omega)
      exact ⟨by rw [hm]; rfl, BW.out⟩
end Go.Proofs.YtcgihjpnemnkeaaIns
